/- A builder of its own; canonical.optionalId. -/
import Derived.Test.YtohmdledkhgdaaaGreatDoorPa18
namespace Go.Proofs.YtohmdledkhgdaaaGreatDoor
open Go.RowKit
set_option linter.unusedVariables false
set_option maxRecDepth 100000
theorem Yjd:liesAt Tryz.prog Tryz.prog.depth 80 (2/Tryz.prog.cellsOf 80) 0 80 1=true:=by kernel_rfl
structure BD (w:World) (b:Nat) (xs:List Nat) (wr:World):Prop where
 bd:∃cs v,cs.size=2∧Bd wr w.heap.size b 0 80 cs v xs
 bel:Below w.heap.size w wr
 le:w.heap.size≤b
structure KN (b:Nat) (w w':World):Prop where
 size:w.heap.size≤w'.heap.size
 same:∀k cs t fz,k≠b→t≠5→w.heap[k]?=some (.cells cs t fz)→w'.heap[k]?=some (.cells cs t fz)
theorem KN.of_below {b:Nat} {w w':World} (h:Below w.heap.size w w'):KN b w w':=⟨h.size,fun k cs t fz _ _ hk=>(h.block k (lt_of_block hk)).trans hk⟩
theorem KN.owns {b:Nat} {w w':World} (h:KN b w w') {base e size n:Nat} {v:Value} {xs:List Value} (ho:w.ownsRow base e size v n xs) (he:e≠5) (hb:∀cs t fz,w.heap[b]?=some (.cells cs t fz)→t≠e):w'.ownsRow base e size v n xs:=by
 rcases ho.2 with⟨rfl,h0⟩|⟨g,cap,cur,rfl,hg,hgb,r⟩
 ·exact⟨ho.1,.inl ⟨rfl,h0⟩⟩
 ·exact⟨ho.1,.inr ⟨g,cap,cur,rfl,hg,h.same g cur e (0,0) (fun e'=>hb cur e (0,0) (by rw[←e'];exact hgb) rfl) he hgb,r⟩⟩
theorem Bd.on {w w':World} {B b o T:Nat} {cs:Array Value} {v:Value} {xs:List Nat} (h:Bd w B b o T cs v xs) (hb:Below w.heap.size w w'):Bd w' B b o T cs v xs:=by
 refine⟨(hb.block _ (lt_of_block h.heap)).trans h.heap,h.addr,h.buf,?_⟩
 rcases h.row.2 with⟨rfl,h0⟩|⟨g,cap,cur,fz,rfl,hbg,hg,r⟩
 ·exact⟨h.row.1,.inl ⟨rfl,h0⟩⟩
 ·exact⟨h.row.1,.inr ⟨g,cap,cur,fz,rfl,hbg,(hb.block g (lt_of_block hg)).trans hg,r⟩⟩
theorem BD.on {w:World} {b:Nat} {xs:List Nat} {wr w':World} (h:BD w b xs wr) (hb:Below wr.heap.size wr w'):BD w b xs w':=by
 obtain⟨cs,v,h1,h2⟩:=h.bd
 exact⟨⟨cs,v,h1,h2.on hb⟩,h.bel.trans (hb.mono h.bel.size),h.le⟩
theorem BD.type {w:World} {b:Nat} {xs:List Nat} {wr:World} (h:BD w b xs wr):∀cs t fz,wr.heap[b]?=some (.cells cs t fz)→t=80:=by
 obtain⟨cs,v,h1,h2⟩:=h.bd
 intro cs' t fz hk
 rw[h2.heap] at hk
 cases hk;rfl
theorem BD.write {w:World} {b:Nat} {xs:List Nat} {wr:World} (h:BD w b xs wr) (s:ByteArray) (hlen:xs.length+s.size≤140737488355328):
    Calls Tryz.prog 41 #[.pointer (some ⟨b,0,none⟩),.string s] wr fun e w'=>e=.returned (.tuple #[.int .i64 (s.size:Int),.nilIface])∧BD w b (xs++bs s) w'∧KN b wr w':=by
 obtain⟨cs,v,h1,h2⟩:=h.bd
 refine(Xi7 wr w.heap.size b 0 80 cs v xs s h2 (by decide) h.bel.size (by rw[h1];exact Yjd) hlen).mono ?_
 rintro e w' ⟨rfl,cs',v',hbd,hsz,_,hov,hfr⟩
 have hv:∀k,v.ownBlock=some k→w.heap.size≤k∧∃cs fz,wr.heap[k]?=some (.cells cs 5 fz):=by
  intro k hk
  rcases h2.row.2 with⟨rfl,h0⟩|⟨g,cap,cur,fz,rfl,hbg,hg,r⟩
  ·cases hk
  ·simp[Value.ownBlock] at hk;subst hk;exact⟨hbg,cur,fz,hg⟩
 refine⟨rfl,⟨⟨cs',v',by rw[hsz,h1],hbd⟩,h.bel.trans (hfr.below h.bel.size h.le (fun k hk=>(hv k hk).1)),h.le⟩,hfr.size,?_⟩
 intro k cs t fz hne ht hk
 refine(hfr.other k (lt_of_block hk) hne (fun e=>?_)).trans hk
 obtain⟨_,cs',fz',hk'⟩:=hv k e
 rw[hk] at hk';cases hk';exact ht rfl
theorem BD.text {w:World} {b:Nat} {xs:List Nat} {wr:World} (h:BD w b xs wr) (hx:∀x∈xs,x<256) (hlen:xs.length≤140737488355328):
    Calls Tryz.prog 43 #[.pointer (some ⟨b,0,none⟩)] wr fun e w'=>e=.returned (.string (Xaq xs))∧Below w.heap.size w w':=by
 obtain⟨cs,v,h1,h2⟩:=h.bd
 refine(Xrb wr w.heap.size b 0 80 cs v xs h2 (by decide) hx hlen).mono ?_
 rintro e w' ⟨rfl,_,hfr⟩
 refine⟨rfl,h.bel.trans (hfr.below h.bel.size h.le (fun k hk=>?_))⟩
 rcases h2.row.2 with⟨rfl,h0⟩|⟨g,cap,cur,fz,rfl,hbg,hg,r⟩
 ·cases hk
 ·simp[Value.ownBlock] at hk;subst hk;exact hbg
theorem BD.new {w0 w:World} (h:Below w0.heap.size w0 w):BD w0 w.heap.size [] (w.alloc (.cells #[.pointer none,.slice none 0 0] 80)):=
 ⟨⟨#[.pointer none,.slice none 0 0],.slice none 0 0,rfl,heap_alloc_last w _,.inl rfl,rfl,⟨rfl,.inl ⟨rfl,rfl⟩⟩⟩,h.alloc h.size _,h.size⟩
theorem Xw6 (w:World) {l:List Nat} (hl:IdOk l):
    Calls Tryz.prog 57 #[.agg (idA l)] w fun e w'=>e=.returned (.string (Xaq (Xhf l)))∧Below w.heap.size w w':=by
 obtain⟨cs,hcs⟩:∃cs,cs=idA l:=⟨_,rfl⟩
 have B0:Hid (Below w.heap.size w (w.alloc (.cells cs 26))):=Hd ((Below.refl _ _).alloc (Nat.le_refl _) _)
 have Z:=Hd (Xfs (w.alloc (.cells cs 26)) hl)
 have P:=Hd (fun w=>Xlm w hl)
 have LD:Hid (∀w1,Below (w.alloc (.cells cs 26)).heap.size (w.alloc (.cells cs 26)) w1→(loadVar 26 ⟨w.heap.size,0,none⟩).run Tryz.prog w1=.ok (.agg cs) w1):=Hd (fun w1 hb=>
  run_loadVar_row w1 w.heap.size _ 26 cs _ _ ((hb.block w.heap.size (by simp)).trans (heap_alloc_last w _)) Tryz.underlying26 rfl (by rw[hcs,Xag,hl.len];exact Xbf))
 rw[←hcs] at Z P⊢
 have OPT:Hid (Xhf l=if l=zero32 then[] else Xc2 l):=Hd rfl
 obtain⟨q,hq⟩:∃q,q=decide (l=zero32):=⟨_,rfl⟩
 rw[←hq] at Z
 have HQ:=Hd hq
 have LD0:=Hd (LD.out _ (Below.refl _ _))
 clear hcs hl hq
 go_enter Tryz.func57,Tryz.ntmps57
 go_wp2_with ((with_reducible refine Xac 26 rfl _ rfl ?_);refine⟨_,_,rfl,LD0.out,?_⟩)
 refine Z.out.mono ?_
 rintro e w1 ⟨rfl,hb1⟩
 have LD1:=Hd (LD.out _ hb1)
 have B1:=Hd (B0.out.trans (hb1.mono B0.out.size))
 clear hb1 LD LD0 Z
 cases q
 ·have O2:Hid (Xhf l=Xc2 l):=Hd (by rw[OPT.out,if_neg (of_decide_eq_false HQ.out.symm)])
  have P1:=Hd (P.out w1)
  clear P HQ OPT
  go_wp2_with ((with_reducible refine Xac 26 rfl _ rfl ?_);refine⟨_,_,rfl,LD1.out,?_⟩)
  refine P1.out.mono ?_
  rintro e w2 ⟨rfl,hb2⟩
  have B2:=Hd (B1.out.trans (hb2.mono B1.out.size))
  clear hb2 P1 LD1
  go_wp2_with fail
  go_ret
  exact⟨by rw[O2.out];rfl,B2.out⟩
 ·have O2:Hid (Xhf l=[]):=Hd (by rw[OPT.out,if_pos (of_decide_eq_true HQ.out.symm)])
  clear P HQ OPT
  go_wp2_with fail
  go_ret
  exact⟨by rw[O2.out];rfl,B1.out⟩
end Go.Proofs.YtohmdledkhgdaaaGreatDoor
/- Plain: the canonical form determines the content. -/
namespace Go.Proofs.YtohmdledkhgdaaaGreatDoor
set_option linter.unusedVariables false
theorem Xi2:∀(k u:Nat),∀c∈Xek k u,48≤c∧c≤57
 |0,u,c,h=>by simp[Xek] at h;omega
 |k+1,u,c,h=>by
  simp only[Xek] at h
  split at h
  ·simp at h;omega
  ·rw[List.mem_append] at h
   rcases h with h|h
   ·exact Xi2 k _ c h
   ·simp at h;omega
def Xij (l:List Nat):Nat:=l.foldl (fun n c=>10*n+(c-48)) 0
theorem Xmc:∀(k u:Nat),u<10^(k+1)→Xij (Xek k u)=u
 |0,u,h=>by simp[Xek,Xij];omega
 |k+1,u,h=>by
  simp only[Xek]
  split
  ·simp[Xij]
  ·have:=Xmc k (u/10) (by rw[Nat.pow_succ] at h;omega)
   unfold Xij at this⊢
   rw[List.foldl_append,this]
   simp;omega
theorem Xi3 {n:Int} (h:0≤n):Xd1 n=Xek 20 n.toNat:=by unfold Xd1;rw[if_neg (by omega)]
theorem Xdl {n:Int} (h:0≤n):∀c∈Xd1 n,48≤c∧c≤57:=by rw[Xi3 h];exact Xi2 _ _
theorem Ydj:∀a<16,48≤hxl a∧hxl a≤102:=by decide
theorem Xop (a:Nat) (l:List Nat):Xbz (a::l)=hxl (a/16)::hxl (a%16)::Xbz l:=rfl
theorem Xg8:∀{l:List Nat},(∀x∈l,x<256)→∀c∈Xbz l,48≤c∧c≤102
 |[],_,c,h=>by cases h
 |a::l,h1,c,h=>by
  rw[Xop] at h
  have a1:=h1 a (List.mem_cons_self ..)
  rcases List.mem_cons.1 h with rfl|h
  ·exact Ydj _ (by omega)
  ·rcases List.mem_cons.1 h with rfl|h
   ·exact Ydj _ (by omega)
   ·exact Xg8 (fun x hx=>h1 x (List.mem_cons_of_mem _ hx)) c h
theorem Xfp {l:List Nat} (hl:∀x∈l,x<256):∀c∈Xc2 l,48≤c∧c≤104+11:=by
 intro c h
 unfold Xc2 sHash at h
 rw[List.mem_append,List.mem_cons] at h
 rcases h with(rfl|h)|h
 ·omega
 ·have:=Xg8 hl c h;omega
 ·simp only[List.mem_cons] at h;rcases h with rfl|rfl|rfl|rfl|rfl|rfl|h<;>first|omega|cases h
theorem Yey (l:List Nat):Xc2 l≠[]:=by unfold Xc2;simp
theorem Xiv (s:Nat):∀(l:List (List Nat)) (c:Nat),c∈Xa0 [s] l→c=s∨∃x∈l,c∈x
 |[],c,h=>by cases h
 |[x],c,h=>.inr ⟨x,List.mem_cons_self ..,h⟩
 |x::y::r,c,h=>by
  simp only[Xa0] at h
  rw[List.mem_append,List.mem_append] at h
  rcases h with(h|h)|h
  ·exact .inr ⟨x,List.mem_cons_self ..,h⟩
  ·exact .inl (by simpa using h)
  ·rcases Xiv s (y::r) c h with h|⟨z,hz,hc⟩
   ·exact .inl h
   ·exact .inr ⟨z,List.mem_cons_of_mem _ hz,hc⟩
theorem join_cons (s:Nat) (x y:List Nat) (r:List (List Nat)):Xa0 [s] (x::y::r)=x++s::Xa0 [s] (y::r):=by simp[Xa0]
theorem Ybq {s:Nat}:∀{l:List (List Nat)},(∀x∈l,x≠[])→Xa0 [s] l=[]→l=[]
 |[],_,_=>rfl
 |[x],h,e=>absurd e (h x (List.mem_cons_self ..))
 |x::y::r,h,e=>by rw[join_cons] at e;simp at e
theorem Xmf (s:Nat):∀(l:List Nat) (c:Nat),c∈l→c=s∨∃p∈spl s l,c∈p
 |x::t,c,h=>by
  simp only[spl]
  by_cases hx:x=s
  ·rw[if_pos hx]
   rcases List.mem_cons.1 h with rfl|h
   ·exact .inl hx
   ·rcases Xmf s t c h with h|⟨p,hp,hc⟩
    ·exact .inl h
    ·exact .inr ⟨p,List.mem_cons_of_mem _ hp,hc⟩
  ·rw[if_neg hx]
   cases hq:spl s t with
   |nil=>exact absurd hq (Xje s t)
   |cons q r=>
    simp only[]
    rcases List.mem_cons.1 h with rfl|h
    ·exact .inr ⟨_,List.mem_cons_self ..,List.mem_cons_self ..⟩
    ·rcases Xmf s t c h with h|⟨p,hp,hc⟩
     ·exact .inl h
     ·rw[hq] at hp
      rcases List.mem_cons.1 hp with rfl|hp
      ·exact .inr ⟨_,List.mem_cons_self ..,List.mem_cons_of_mem _ hc⟩
      ·exact .inr ⟨p,List.mem_cons_of_mem _ hp,hc⟩
theorem Xbb {a b:Nat} (h:fe a b=0):a=0∧b=0:=by unfold fe at h;split at h<;>omega
theorem Xd8 {p:Bool} {e:Nat} (he:e≠0) (h:eIf p e=0):p=false:=by unfold eIf at h;cases p<;>simp_all
theorem Yhl {c:Nat} (h:nmC c=true):c≠10∧c≠44∧c≠32:=by
 unfold nmC low dig at h;simp at h;omega
theorem Xms {x:List Nat} (h:Xbg x=0):∀c∈x,c≠10∧c≠44∧c≠32:=by
 intro c hc
 unfold Xbg at h
 split at h
 ·cases h
 ·split at h
  ·cases h
  ·rename_i h2
   rcases Xmf 46 x c hc with rfl|⟨p,hp,hcp⟩
   ·omega
   ·have h3:Xei p=true:=by
       cases hq:Xei p
       ·exact absurd (List.any_eq_true.2 ⟨p,hp,by rw[hq];rfl⟩) h2
       ·rfl
    unfold Xei at h3
    simp only[Bool.and_eq_true] at h3
    exact Yhl (List.all_eq_true.1 h3.2 c hcp)
theorem Xoj {f:List Nat→Nat} {d:Nat} (hd:d≠0):∀(l pre:List (List Nat)),Xcz f d pre l=0→∀x∈l,f x=0
 |[],_,_,x,h=>by cases h
 |y::r,pre,h,x,hx=>by
  simp only[Xcz] at h
  split at h
  ·rename_i h1;exact absurd h h1
  ·rename_i h1
   split at h
   ·exact absurd h hd
   ·rcases List.mem_cons.1 hx with rfl|hx
    ·simpa using h1
    ·exact Xoj hd r _ h x hx
theorem Xos {l:List (List Nat)} (h:Xbp l=0):l≠[]∧∀x∈l,Xbg x=0:=by
 unfold Xbp at h
 split at h
 ·cases h
 ·rename_i h1
  unfold Xcc at h
  split at h
  ·cases h
  ·exact⟨h1,Xoj (by decide) l [] h⟩
theorem Yad {l:List Nat} (hw:Xb6 l=true) (h:10∈l.take (rn l)):cpt l=10:=by
 obtain⟨h1,h2,h3⟩:=(Xb9 l).1 hw
 obtain⟨e,hp⟩:=Xfc hw
 obtain⟨i,hi,hx⟩:=List.getElem_of_mem h
 rw[List.length_take] at hi
 have hg:l.getD i 0=10:=by
  rw[List.getElem_take] at hx
  rw[List.getD_eq_getElem?_getD,List.getElem?_eq_getElem (by omega)];simpa using hx
 by_cases h0:i=0
 ·subst h0
  have e1:rn l=1:=by rw[e,hg];rfl
  unfold cpt
  rw[e1,if_pos (Nat.le_refl _),hg]
  have:((l.take 1).drop 1)=[]:=by rw[List.drop_eq_nil_iff,List.length_take];omega
  rw[this];rfl
 ·have:=Xz9 (h3 i (by omega) (by omega))
  omega
theorem Xsv:∀(n:Nat) (l:List Nat) (a:Nat),l.length≤n→vld l=true→((rsN l.length a l).all fun x=>gd false x.2)=true→10∉l
 |0,l,a,hl,_,_=>by have:l=[]:=List.length_eq_zero_iff.1 (by omega)
                   rw[this];simp
 |n+1,l,a,hl,hv,hr=>by
  by_cases hn:l=[]
  ·rw[hn];simp
  ·rw[Xmb hn] at hv
   simp only[Bool.and_eq_true,decide_eq_true_eq] at hv
   have hle:=(Xpy l).1
   rw[Xmn _ _ _ hv.1 (Nat.le_refl _)] at hr
   simp only[List.all_cons,Bool.and_eq_true] at hr
   have ih:=Xsv n (l.drop (rn l)) _ (by rw[List.length_drop];omega) hv.2 hr.2
   intro h
   rw[←List.take_append_drop (rn l) l,List.mem_append] at h
   rcases h with h|h
   ·rw[Yad (rn_ne.1 hv.1) h] at hr
    exact absurd hr.1 (by decide)
   ·exact ih h
theorem Xrr {l:List Nat} {m:Nat} (h:Xfa l m=0):10∉l:=by
 unfold Xfa at h
 have h1:=Xd8 (by decide) (Xbb (Xbb h).2).1
 have h2:Xhg false l=true:=by simpa using h1
 unfold Xhg at h2
 simp only[Bool.and_eq_true] at h2
 exact Xsv l.length l 0 (Nat.le_refl _) h2.1 h2.2
theorem Xxy {c:Nat} (h:(hvl c).isSome=true):c≠10:=by rintro rfl;cases h
theorem Xja:∀{l r:List Nat},Xik l=some r→10∉l
 |[],_,_=>by simp
 |[_],_,h=>by cases h
 |a::b::t,r,h=>by
  simp only[Xik] at h
  cases ha:hvl a with
  |none=>rw[ha] at h;cases h
  |some x=>
   cases hb:hvl b with
   |none=>rw[ha,hb] at h;cases h
   |some y=>
    cases hu:Xik t with
    |none=>rw[ha,hb,hu] at h;cases h
    |some s=>
     have:=Xja hu
     have h1:=Xxy (c:=a) (by rw[ha];rfl)
     have h2:=Xxy (c:=b) (by rw[hb];rfl)
     simp only[List.mem_cons,not_or]
     exact⟨Ne.symm h1,Ne.symm h2,this⟩
theorem Yex {x i:List Nat} (h:Xe4 x=some i):10∉x:=by
 unfold Xe4 at h
 split at h
 ·rename_i hc
  obtain⟨h1,h2,h3⟩:=hc
  have hu:=Xja h
  intro hx
  rw[←List.take_append_drop 1 x,List.mem_append] at hx
  rcases hx with hx|hx
  ·cases x with
   |nil=>cases hx
   |cons a t=>simp at hx h2;omega
  ·rw[←List.take_append_drop 64 (x.drop 1),List.mem_append] at hx
   rcases hx with hx|hx
   ·exact hu hx
   ·rw[List.drop_drop,h3] at hx;exact absurd hx (by decide)
 ·cases h
theorem Ygc {x i:List Nat} (h:Xeo x=some i):10∉x:=by
 unfold Xeo at h
 split at h
 ·exact Xja h
 ·cases h
theorem Xxx {f:List Nat→Option (List Nat)}:∀(l:List (List Nat)) (r:List (List Nat)),l.mapM f=some r→∀p∈l,∃i,f p=some i
 |[],_,_,p,h=>by cases h
 |y::t,r,h,p,hp=>by
  rw[List.mapM_cons] at h
  cases hy:f y with
  |none=>rw[hy] at h;cases h
  |some z=>
   rw[hy] at h
   cases ht:t.mapM f with
   |none=>rw[ht] at h;cases h
   |some s=>
    rcases List.mem_cons.1 hp with rfl|hp
    ·exact⟨z,hy⟩
    ·exact Xxx t s ht p hp
theorem Ybe {x:List Nat} (h:Xcy x=0):10∉x:=by
 unfold Xcy at h
 cases hm:(spl 44 x).mapM Xeo with
 |none=>rw[hm] at h;cases h
 |some l=>
  intro hx
  rcases Xmf 44 x 10 hx with h|⟨p,hp,hc⟩
  ·omega
  ·obtain⟨i,hi⟩:=Xxx _ _ hm p hp
   exact Ygc hi hc
theorem Xvz {x:List Nat} (h:Xhe x=0):10∉x:=by
 unfold Xhe at h
 cases hm:Xe4 x with
 |none=>rw[hm] at h;cases h
 |some i=>exact Yex hm
theorem Xqm {x:List Nat} (h:Xhw x=0):10∉x:=by
 unfold Xhw at h
 split at h
 ·rename_i h1;intro hx;exact(Xms h1 10 hx).1 rfl
 ·cases h
theorem Xp9 {a b:Nat} {x:List Nat} (h:Xe1 a b x=0):10∉x:=by
 unfold Xe1 at h
 cases hm:Xkx x with
 |none=>rw[hm] at h;cases h
 |some n=>
  unfold Xkx at hm
  split at hm
  ·cases hm
  ·rename_i hc
   intro hx
   have h1:x.all dig=true:=by
    cases hq:x.all dig
    ·exact absurd (.inr (.inr (.inr hq))) hc
    ·rfl
   exact absurd (List.all_eq_true.1 h1 10 hx) (by decide)
theorem Yj4:∀v,v<64→43≤al v:=by decide
theorem Xs1 {l:List Nat} (h:∀x∈l,x<256):10∉Xe5 l:=by
 rw[Xm5 l h]
 have hs:=(Xrt l.length l (Nat.le_refl _) h).2.1
 unfold Xhn
 intro hx
 rw[List.mem_append] at hx
 rcases hx with hx|hx
 ·obtain⟨v,hv,e⟩:=List.mem_map.1 hx
  have:=Yj4 v (hs v hv)
  omega
 ·rw[List.mem_replicate] at hx;omega
theorem Yem {x:List Nat} (h:Xf5 x=0):10∉x:=by
 unfold Xf5 at h
 split at h
 ·rename_i h1;exact absurd h h1
 ·rename_i h1
  obtain⟨h2,h3⟩:=Xm4 x (by omega)
  rw[←h2]
  exact Xs1 h3
def Sp (t:List Nat):Prop:=t=[]∨∃u,t=32::u
theorem Xv8 (l:List Nat):Sp (l.dropWhile fun c=>!decide (c=32)):=by
 induction l with
 |nil=>exact .inl rfl
 |cons a l ih=>
  by_cases ha:a=32
  ·rw[List.dropWhile_cons_of_neg (by simp[ha])];exact .inr ⟨l,by rw[ha]⟩
  ·rw[List.dropWhile_cons_of_pos (by simp[ha])];exact ih
theorem Xcx {t:List Nat} {k:List Nat→List Nat→Nat} (ht:Sp t) (h:nxt t k=0) (P:∀x u,Sp u→k x u=0→10∉x∧10∉u):10∉t:=by
 rcases ht with rfl|⟨u,rfl⟩
 ·simp
 ·unfold nxt at h
  obtain⟨h1,h2⟩:=P _ _ (Xv8 u) h
  intro hx
  rcases List.mem_cons.1 hx with hx|hx
  ·omega
  ·rw[←List.takeWhile_append_dropWhile (p:=fun c=>!decide (c=32)) (l:=u),List.mem_append] at hx
   rcases hx with hx|hx
   ·exact h1 hx
   ·exact h2 hx
theorem Xiz {t:List Nat} (h:fin t=0):10∉t:=by
 unfold fin at h
 split at h
 ·rename_i h1;rw[h1];simp
 ·cases h
theorem Xn8 {t:List Nat} (ht:Sp t) (h:Xd2 t=0):10∉t:=by
 rcases ht with rfl|⟨u,rfl⟩
 ·simp
 ·unfold Xd2 at h
  simp only[] at h
  split at h
  ·cases h
  ·unfold Xmd at h
   split at h
   ·cases h
   ·split at h
    ·cases h
    ·rename_i h1
     have h2:u.all prC=true:=by
      cases hq:u.all prC
      ·exact absurd hq h1
      ·rfl
     intro hx
     rcases List.mem_cons.1 hx with hx|hx
     ·omega
     ·exact absurd (List.all_eq_true.1 h2 10 hx) (by decide)
theorem Yfv {s:List Nat} (h:Xd4 s=0):10∉s:=by
 unfold Xd4 at h
 split at h
 ·cases h
 ·obtain⟨k,hk⟩:∃k,k=s.takeWhile fun c=>!decide (c=32):=⟨_,rfl⟩
  obtain⟨t,ht⟩:∃t,t=s.dropWhile fun c=>!decide (c=32):=⟨_,rfl⟩
  have hs:s=k++t:=by rw[hk,ht];exact List.takeWhile_append_dropWhile.symm
  have hsp:Sp t:=by rw[ht];exact Xv8 s
  rw[←hk,←ht] at h
  have key:10∉k∧10∉t:=by
   unfold Xu5 at h
   split at h
   ·rename_i e
    refine⟨by rw[e];decide,Xcx hsp h fun x u hu h=>?_⟩
    exact⟨Xvz (Xbb h).1,Xiz (Xbb h).2⟩
   ·split at h
    ·rename_i e
     refine⟨by rw[e];decide,Xcx hsp h fun x u hu h=>⟨Xvz (Xbb h).1,Xcx hu (Xbb h).2 fun y v hv h=>?_⟩⟩
     exact⟨Xqm (Xbb h).1,Xiz (Xbb h).2⟩
    ·split at h
     ·rename_i e
      refine⟨by rw[e];decide,Xcx hsp h fun x u hu h=>⟨Xqm (Xbb h).1,Xcx hu (Xbb h).2 fun y v hv h=>⟨Xp9 (Xbb h).1,Xcx hv (Xbb h).2 fun m v hv h=>?_⟩⟩⟩
      split at h
      ·rename_i e;exact⟨by rw[e];decide,Xn8 hv h⟩
      ·split at h
       ·rename_i e;exact⟨by rw[e];decide,Xcx hv h fun a z hz h=>⟨Ybe (Xbb h).1,Xn8 hz (Xbb h).2⟩⟩
       ·cases h
     ·split at h
      ·rename_i e
       refine⟨by rw[e];decide,Xcx hsp h fun x u hu h=>⟨Xqm (Xbb h).1,Xcx hu (Xbb h).2 fun y v hv h=>?_⟩⟩
       exact⟨Xp9 (Xbb h).1,Xiz (Xbb h).2⟩
      ·split at h
       ·rename_i e
        refine⟨by rw[e];decide,Xcx hsp h fun x u hu h=>⟨Xp9 (Xbb h).1,Xcx hu (Xbb h).2 fun y v hv h=>?_⟩⟩
        exact⟨Yem (Xbb h).1,Xiz (Xbb h).2⟩
       ·cases h
  rw[hs,List.mem_append]
  rintro(hx|hx)
  ·exact key.1 hx
  ·exact key.2 hx
structure Cont.Ok (c:Cont):Prop where
 author:∀x∈c.author,x<256
 root:∀x∈c.root,x<256
 rootl:c.root.length=16
 sup:∀x∈c.sup,x<256
 refs:∀y∈c.refs,∀x∈y,x<256
structure Cont.Vd (c:Cont):Prop where
 name:10∉c.name
 date:0≤c.date∧c.date≤105190559
 groups:c.groups≠[]∧∀x∈c.groups,Xbg x=0
 subject:10∉c.subject
 ctl:10∉c.ctl
 dist:10∉c.dist
 number:0≤c.number∧c.number≤1000
 height:1≤c.height∧c.height≤8
 leaf:0≤c.leaf∧c.leaf≤256
theorem Xf1 {c:Cont} (h:Xc3 c=0):c.Vd:=by
 unfold Xc3 at h
 obtain⟨h1,h⟩:=Xbb h
 obtain⟨h2,h⟩:=Xbb h
 obtain⟨h3,h⟩:=Xbb h
 obtain⟨h4,h⟩:=Xbb h
 obtain⟨h5,h⟩:=Xbb h
 obtain⟨h6,h⟩:=Xbb h
 obtain⟨h7,h⟩:=Xbb h
 obtain⟨h8,h⟩:=Xbb h
 obtain⟨h9,h⟩:=Xbb h
 obtain⟨h10,h⟩:=Xbb h
 have h2:=Xd8 (by decide) h2
 have h8:=Xd8 (by decide) h8
 have h9:=Xd8 (by decide) h9
 have h10:=Xd8 (by decide) h10
 simp only[Bool.or_eq_false_iff,decide_eq_false_iff_not] at h2 h8 h10
 have hh:1≤c.height∧c.height≤8:=by unfold Xau at h9;simp at h9;omega
 refine⟨Xrr h1,by omega,Xos h3,Xrr h4,?_,?_,by omega,hh,by omega,?_⟩
 ·unfold Xvk at h6
  split at h6
  ·rename_i e;rw[e];simp
  ·exact Yfv (Xbb (Xbb h6).2).1
 ·unfold Xkk at h7
  have:=Xd8 (by decide) (Xbb h7).2
  intro hx
  rw[List.any_eq_false] at this
  exact absurd (this 10 hx) (by decide)
 ·have h11:=h10.2
  unfold Xbh at h11
  have hb:Xau c.height=true:=by unfold Xau;simp;omega
  rw[if_pos hb] at h11
  have:(2:Int)^c.height.toNat≤256:=by
   obtain⟨k,hk⟩:∃k,k=c.height.toNat:=⟨_,rfl⟩
   rw[←hk]
   have:k≤8:=by omega
   have:∀k,k≤8→(2:Int)^k≤256:=by decide
   exact this k (by omega)
  omega
theorem Xzz {c:Cont} (ho:c.Ok) (h:c.Vd):∀v∈Xa4 c,10∉v:=by
 intro v hv
 unfold Xa4 at hv
 simp only[List.mem_cons,List.not_mem_nil,or_false] at hv
 rcases hv with rfl|rfl|rfl|rfl|rfl|rfl|rfl|rfl|rfl|rfl|rfl
 ·exact h.name
 ·intro hx;have:=Xg8 ho.author 10 hx;omega
 ·intro hx;have:=Xdl h.date.1 10 hx;omega
 ·intro hx
  rcases Xiv 44 _ 10 hx with h1|⟨x,h1,h2⟩
  ·omega
  ·exact(Xms (h.groups.2 x h1) 10 h2).1 rfl
 ·exact h.subject
 ·intro hx
  rcases Xiv 32 _ 10 hx with h1|⟨x,h1,h2⟩
  ·omega
  ·obtain⟨y,hy,rfl⟩:=List.mem_map.1 h1
   have:=Xfp (ho.refs y hy) 10 h2;omega
 ·unfold Xhf
  split
  ·simp
  ·intro hx;have:=Xfp ho.sup 10 hx;omega
 ·exact h.ctl
 ·exact h.dist
 ·unfold Xj4
  rw[List.mem_append,List.mem_cons]
  rintro(hx|hx|hx)
  ·have:=Xdl h.number.1 10 hx;omega
  ·omega
  ·exact Xs1 (by unfold Xoa;intro x hx;rcases List.mem_cons.1 hx with rfl|hx;· omega
                 exact ho.root x hx) hx
 ·intro hx;have:=Xdl h.leaf.1 10 hx;omega
end Go.Proofs.YtohmdledkhgdaaaGreatDoor
