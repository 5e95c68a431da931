/- Plain functions on lists: what the reference for base64 computes, and that it is the same. -/
import Derived.Lib.SlBytesConst
import Derived.Test.YtohmdledkhgdaaaGreatDoorPa10
import Derived.Lib.ItoaLen
namespace Go.Proofs.YtohmdledkhgdaaaGreatDoor
set_option linter.unusedVariables false
def Xew (s:Nat×Nat×List Nat) (t:Nat):Nat×Nat×List Nat:=if s.2.1+1=6 then(0,0,s.2.2++[al (2*s.1+t)]) else(2*s.1+t,s.2.1+1,s.2.2)
def Xcs (s:Nat×Nat×List Nat) (g:Nat):Nat→Nat×Nat×List Nat
 |0=>s
 |j+1=>Xew (Xcs s g j) (g/2^(7-j)%2)
theorem Xre (b c t:Nat) (xs ys:List Nat):Xew (b,c,xs++ys) t=((Xew (b,c,ys) t).1,(Xew (b,c,ys) t).2.1,xs++(Xew (b,c,ys) t).2.2):=by
 unfold Xew;split<;>simp_all
theorem Xvc (b c g:Nat) (xs ys:List Nat) (j:Nat):Xcs (b,c,xs++ys) g j=((Xcs (b,c,ys) g j).1,(Xcs (b,c,ys) g j).2.1,xs++(Xcs (b,c,ys) g j).2.2):=by
 induction j with
 |zero=>rfl
 |succ j ih=>rw[Xcs,ih,Xre];rfl
theorem Xo1 (f:Nat→Nat) (tt:Nat) (xs:List Nat):∀(k b c:Nat) (ys:List Nat),Xb4 f tt k b c (xs++ys)=((Xb4 f tt k b c ys).1,(Xb4 f tt k b c ys).2.1,xs++(Xb4 f tt k b c ys).2.2):=by
 intro k
 induction k with
 |zero=>intro b c ys;rfl
 |succ k ih=>
  intro b c ys
  by_cases h:c<tt
  ·simp[Xb4,h]
  ·rw[Xen _ _ _ _ _ _ h,Xen _ _ _ _ _ _ h,List.append_assoc,ih]
theorem Yki:∀c:Fin 3,∀b:Fin 16,b.val<2^(2*c.val)→∀g:Fin 256,Xcs (b.val,2*c.val,[]) g.val 8=Xbe (b.val,2*c.val,[]) g.val:=by decide+kernel
theorem Xve {s:Nat×Nat×List Nat} {g:Nat} (hc:s.2.1<6) (hev:s.2.1%2=0) (hb:s.1<2^s.2.1) (hg:g<256):Xcs s g 8=Xbe s g:=by
 obtain⟨b,c,xs⟩:=s
 simp only at hc hev hb
 have h1:Xcs (b,c,xs) g 8=Xcs (b,c,xs++[]) g 8:=by simp
 have h2:Xbe (b,c,xs) g=Xb4 al 6 16 (b*2^8+g) (c+8) (xs++[]):=by simp[Xbe]
 have hb16:b<16:=Nat.lt_of_lt_of_le hb (by have:2^c≤2^4:=Nat.pow_le_pow_right (by omega) (by omega)
                                           omega)
 have e:c=2*(c/2):=by omega
 have h3:=Yki ⟨c/2,by omega⟩ ⟨b,hb16⟩ (by simp only;rw[←e];exact hb) ⟨g,hg⟩
 simp only[←e] at h3
 rw[h1,h2,Xvc,Xo1,h3]
 rfl
theorem Xvd {s:Nat×Nat×List Nat} {g:Nat} (hc:s.2.1<6) (hb:s.1<2^s.2.1) (j:Nat):(Xcs s g j).2.1<6∧(Xcs s g j).1<2^(Xcs s g j).2.1∧(Xcs s g j).2.2.length≤s.2.2.length+j:=by
 induction j with
 |zero=>exact⟨hc,hb,by simp[Xcs]⟩
 |succ j ih=>
  rw[Xcs]
  generalize Xcs s g j=r at*
  unfold Xew
  have ht:g/2^(7-j)%2<2:=Nat.mod_lt _ (by omega)
  split
  ·simp;omega
  ·refine⟨by simp;omega,?_,by simp;omega⟩
   simp only[Nat.pow_succ]
   omega
theorem Yb4 (l:List Nat) (hl:∀x∈l,x<256):(Xf9 l).2.1%2=0:=by have:=(Xg9 l hl).2.2;omega
theorem Xi1 (l:List Nat) (hl:∀x∈l,x<256):(Xe5 l).length=(l.length+2)/3*4:=by
 have h:=Xg9 l hl
 unfold Xe5
 rw[Xsd]
 unfold Xbl
 split
 ·simp only[List.length_append,List.length_singleton];omega
 ·omega
def sx:List Nat→List Nat
 |x::y::z::r=>[x/4,x%4*16+y/16,y%16*4+z/64,z%64]++sx r
 |[x,y]=>[x/4,x%4*16+y/16,y%16*4]
 |[x]=>[x/4,x%4*16]
 |[]=>[]
def dv:List Nat→Nat×List Nat
 |a::b::c::d::r=>((dv r).1,[a*4+b/16,b%16*16+c/4,c%4*64+d]++(dv r).2)
 |[a,b,c]=>(c%4,[a*4+b/16,b%16*16+c/4])
 |[a,b]=>(b%16,[a*4+b/16])
 |[a]=>(a,[])
 |[]=>(0,[])
theorem Yfq (xs:List Nat) (x:Nat):Xbe (0,0,xs) x=(x%4,2,xs++[al (x/4)]):=by simp[Xbe,Xb4]
theorem Yif (xs:List Nat) (b y:Nat) (hy:y<256):Xbe (b,2,xs) y=(y%16,4,xs++[al (b*16+y/16)]):=by
 simp[Xbe,Xb4]
 refine⟨by omega,?_⟩
 congr 1;omega
theorem Yjw (xs:List Nat) (b z:Nat) (hz:z<256):Xbe (b,4,xs) z=(0,0,xs++[al (b*4+z/64),al (z%64)]):=by
 simp[Xbe,Xb4]
 refine⟨by omega,?_,?_⟩
 ·congr 1;omega
 ·congr 1;omega
theorem Yb3 (n:Nat):∀(l:List Nat),l.length≤n→(∀x∈l,x<256)→∀xs,Xbl (l.foldl Xbe (0,0,xs))=xs++(sx l).map al:=by
 induction n using Nat.strongRecOn with
 |_ n ih=>
  intro l hl hb xs
  match l,hl,hb with
  |[],_,_=>simp[Xbl,sx]
  |[x],_,_=>
   simp only[List.foldl_cons,List.foldl_nil,Yfq]
   simp[Xbl,sx]
  |[x,y],_,hb=>
   simp only[List.foldl_cons,List.foldl_nil,Yfq,Yif _ _ y (hb y (by simp))]
   simp[Xbl,sx]
  |x::y::z::r,hl,hb=>
   simp only[List.foldl_cons,Yfq,Yif _ _ y (hb y (by simp)),Yjw _ _ z (hb z (by simp))]
   rw[ih (n-1) (by simp at hl;omega) r (by simp at hl;omega) (fun w hw=>hb w (by simp[hw]))]
   simp[sx]
theorem Xuy (l:List Nat) (hb:∀x∈l,x<256):Xbl (Xf9 l)=(sx l).map al:=by
 have:=Yb3 l.length l (Nat.le_refl _) hb []
 simpa [Xf9] using this
theorem Yca (xs:List Nat) (a:Nat):Xa9 (0,0,xs) a=(a,6,xs):=by simp[Xa9,Xb4]
theorem Yfu (xs:List Nat) (a b:Nat) (hb:b<64):Xa9 (a,6,xs) b=(b%16,4,xs++[a*4+b/16]):=by
 simp[Xa9,Xb4]
 refine⟨by omega,by omega⟩
theorem Yih (xs:List Nat) (b c:Nat) (hc:c<64):Xa9 (b,4,xs) c=(c%4,2,xs++[b*16+c/4]):=by
 simp[Xa9,Xb4]
 refine⟨by omega,by omega⟩
theorem Yjx (xs:List Nat) (c d:Nat):Xa9 (c,2,xs) d=(0,0,xs++[c*64+d]):=by
 simp[Xa9,Xb4]
 omega
theorem Yb8 (n:Nat):∀(l:List Nat),l.length≤n→(∀x∈l,x<64)→∀xs,(l.foldl Xa9 (0,0,xs)).1=(dv l).1∧(l.foldl Xa9 (0,0,xs)).2.2=xs++(dv l).2:=by
 induction n using Nat.strongRecOn with
 |_ n ih=>
  intro l hl hb xs
  match l,hl,hb with
  |[],_,_=>simp[dv]
  |[a],_,_=>simp[dv,Yca]
  |[a,b],_,hb=>
   simp only[List.foldl_cons,List.foldl_nil,Yca,Yfu _ _ b (hb b (by simp))]
   simp[dv]
  |[a,b,c],_,hb=>
   simp only[List.foldl_cons,List.foldl_nil,Yca,Yfu _ _ b (hb b (by simp)),Yih _ _ c (hb c (by simp))]
   simp[dv]
  |a::b::c::d::r,hl,hb=>
   simp only[List.foldl_cons,Yca,Yfu _ _ b (hb b (by simp)),Yih _ _ c (hb c (by simp)),Yjx]
   have:=ih (n-1) (by simp at hl;omega) r (by simp at hl;omega) (fun w hw=>hb w (by simp[hw])) (xs++[a*4+b/16]++[b%16*16+c/4]++[c%4*64+d])
   rw[this.1,this.2]
   simp[dv]
theorem Xs3 (l:List Nat) (hb:∀x∈l,x<64):(Xeh l).1=(dv l).1∧(Xeh l).2.2=(dv l).2:=by
 have:=Yb8 l.length l (Nat.le_refl _) hb []
 simpa [Xeh] using this
theorem Xrt (n:Nat):∀(l:List Nat),l.length≤n→(∀x∈l,x<256)→dv (sx l)=(0,l)∧(∀v∈sx l,v<64)∧(sx l).length%4≠1:=by
 induction n using Nat.strongRecOn with
 |_ n ih=>
  intro l hl hb
  match l,hl,hb with
  |[],_,_=>simp[sx,dv]
  |[x],_,hb=>
   have hx:=hb x (by simp)
   refine⟨?_,?_,?_⟩
   ·simp[sx,dv];omega
   ·simp[sx];omega
   ·simp[sx]
  |[x,y],_,hb=>
   have hx:=hb x (by simp)
   have hy:=hb y (by simp)
   refine⟨?_,?_,?_⟩
   ·simp[sx,dv];omega
   ·simp[sx];omega
   ·simp[sx]
  |x::y::z::r,hl,hb=>
   have hx:=hb x (by simp)
   have hy:=hb y (by simp)
   have hz:=hb z (by simp)
   have h:=ih (n-1) (by simp at hl;omega) r (by simp at hl;omega) (fun w hw=>hb w (by simp[hw]))
   refine⟨?_,?_,?_⟩
   ·simp only[sx,List.cons_append,List.nil_append,dv,h.1]
    simp
    omega
   ·intro v hv
    simp only[sx,List.cons_append,List.nil_append,List.mem_cons] at hv
    rcases hv with rfl|rfl|rfl|rfl|hv
    ·omega
    ·omega
    ·omega
    ·omega
    ·exact h.2.1 v hv
   ·simp[sx];omega
theorem Yb6 (n:Nat):∀(vs:List Nat),vs.length≤n→(∀v∈vs,v<64)→vs.length%4≠1→(dv vs).1=0→sx (dv vs).2=vs∧(∀x∈(dv vs).2,x<256):=by
 induction n using Nat.strongRecOn with
 |_ n ih=>
  intro vs hl hb h1 h0
  match vs,hl,hb,h1,h0 with
  |[],_,_,_,_=>simp[dv,sx]
  |[a],_,_,h1,_=>simp at h1
  |[a,b],_,hb,_,h0=>
   have ha:=hb a (by simp)
   have hb':=hb b (by simp)
   simp[dv] at h0
   refine⟨?_,?_⟩
   ·simp[dv,sx];omega
   ·simp[dv];omega
  |[a,b,c],_,hb,_,h0=>
   have ha:=hb a (by simp)
   have hb':=hb b (by simp)
   have hc:=hb c (by simp)
   simp[dv] at h0
   refine⟨?_,?_⟩
   ·simp[dv,sx];omega
   ·simp[dv];omega
  |a::b::c::d::r,hl,hb,h1,h0=>
   have ha:=hb a (by simp)
   have hb':=hb b (by simp)
   have hc:=hb c (by simp)
   have hd:=hb d (by simp)
   have h:=ih (n-1) (by simp at hl;omega) r (by simp at hl;omega) (fun w hw=>hb w (by simp[hw])) (by simp at h1;omega) (by simpa [dv] using h0)
   refine⟨?_,?_⟩
   ·simp only[dv,List.cons_append,List.nil_append,sx,h.1]
    simp
    omega
   ·intro x hx
    simp only[dv,List.cons_append,List.nil_append,List.mem_cons] at hx
    rcases hx with rfl|rfl|rfl|hx
    ·omega
    ·omega
    ·omega
    ·exact h.2 x hx
theorem Yd5:∀v:Nat,v<64→vOf (al v)=some v:=by
 have:∀v:Fin 64,vOf (al v.val)=some v.val:=by decide+kernel
 exact fun v h=>this ⟨v,h⟩
theorem Xz0 (vs:List Nat) (h:∀v∈vs,v<64):Xhi (vs.map al)=some vs:=by
 induction vs with
 |nil=>rfl
 |cons v r ih=>
  have:=ih (fun w hw=>h w (by simp[hw]))
  simp only[Xhi,List.map_cons,List.mapM_cons] at*
  rw[Yd5 v (h v (by simp)),this]
  rfl
theorem Xz1 {l vs:List Nat} (h:Xhi l=some vs):l=vs.map al:=by
 induction l generalizing vs with
 |nil=>simp[Xhi] at h;subst h;rfl
 |cons c l ih=>
  simp only[Xhi,List.mapM_cons,Option.bind_eq_bind,Option.bind_eq_some_iff,Option.pure_def,Option.some.injEq] at h
  obtain⟨v,hv,r,hr,rfl⟩:=h
  rw[List.map_cons,Ygx hv,←ih hr]
theorem Yj3:∀v:Nat,v<64→al v≠61:=by decide
theorem Xm1 (T:List Nat):∀k,k<(Xhn T).length→T.length≤k→(Xhn T).getD k 0=61:=by
 intro k hk hT
 unfold Xhn at*
 rw[List.getD_eq_getElem?_getD,List.getElem?_append_right hT,List.getElem?_replicate]
 simp at hk
 rw[if_pos (by omega)]
 rfl
theorem Xqn (T:List Nat) (k:Nat) (hk:k<T.length):(Xhn T).getD k 0=T.getD k 0:=by
 unfold Xhn
 rw[List.getD_eq_getElem?_getD,List.getElem?_append_left hk,List.getD_eq_getElem?_getD]
theorem Xyt (vs:List Nat) (h:∀v∈vs,v<64) (h1:vs.length%4≠1):Xbi (Xhn (vs.map al))=vs.length:=by
 have hlen:(Xhn (vs.map al)).length=(vs.length+3)/4*4:=by rw[Xsd,List.length_map]
 have hin:∀k,k<vs.length→(Xhn (vs.map al)).getD k 0≠61:=fun k hk=>by
  rw[Xqn _ _ (by simpa using hk),List.getD_eq_getElem?_getD,List.getElem?_map,List.getElem?_eq_getElem hk]
  exact Yj3 _ (h _ (List.getElem_mem hk))
 have hout:∀k,k<(vs.length+3)/4*4→vs.length≤k→(Xhn (vs.map al)).getD k 0=61:=fun k hk hv=>Xm1 _ k (by rw[hlen];exact hk) (by simpa using hv)
 unfold Xbi
 rw[hlen]
 by_cases h4:vs.length%4=0
 ·rw[if_pos]
  ·omega
  ·by_cases h0:vs.length=0
   ·left;omega
   ·right;right
    exact hin _ (by omega)
 ·rw[if_neg]
  ·by_cases h2:vs.length%4=2
   ·rw[if_pos (hout _ (by omega) (by omega))];omega
   ·rw[if_neg (hin _ (by omega))];omega
  ·have:=hout ((vs.length+3)/4*4-1) (by omega) (by omega)
   omega
theorem Xm5 (l:List Nat) (hb:∀x∈l,x<256):Xe5 l=Xhn ((sx l).map al):=by rw[Xe5,Xuy l hb]
theorem Yae (T:List Nat):(Xhn T).take T.length=T:=by unfold Xhn;exact List.take_left
theorem Yft (l:List Nat) (hb:∀x∈l,x<256) (hl:l.length≤131072):Xcj (Xe5 l)=(l,0,0):=by
 have hs:=Xrt l.length l (Nat.le_refl _) hb
 have hlen:=Xi1 l hb
 have hd:Xbi (Xe5 l)=(sx l).length:=by rw[Xm5 l hb];exact Xyt _ hs.2.1 hs.2.2
 have hv:Xhi ((Xe5 l).take (Xbi (Xe5 l)))=some (sx l):=by
  rw[hd,Xm5 l hb]
  have:=Yae ((sx l).map al)
  rw[List.length_map] at this
  rw[this]
  exact Xz0 _ hs.2.1
 have hst:=Xs3 (sx l) hs.2.1
 rw[Xha hv (by rw[hlen];omega),if_neg (by rw[hlen];omega),hst.1,hst.2,hs.1]
 simp
theorem Xm4 (l:List Nat) (h:(Xcj l).2.2=0):Xe5 (Xcj l).1=l∧(∀x∈(Xcj l).1,x<256):=by
 have hlen:l.length≤174764:=by
  rcases Nat.lt_or_ge 174764 l.length with hl|hl
  ·unfold Xcj at h;rw[if_pos hl] at h;simp at h
  ·exact hl
 cases hv:Xhi (l.take (Xbi l)) with
 |none=>unfold Xcj at h;rw[if_neg (by omega),hv] at h;simp at h
 |some vs=>
  have hg:=Xha hv hlen
  by_cases h4:l.length%4=0
  ·rw[if_neg (by omega)] at hg
   by_cases hb:(Xeh vs).1=0
   ·rw[if_neg (by omega)] at hg
    have hvl:=Xpo hv
    have hst:=Xs3 vs hvl.1
    have hT:=Xz1 hv
    have hn:vs.length=Xbi l:=by rw[hvl.2,List.length_take,Nat.min_eq_left (Xi4 l)]
    have hpad:Xhn (vs.map al)=l∧vs.length%4≠1:=by
     have hdl:=Xi4 l
     rw[←hT]
     have hl':l=l.take (Xbi l)++l.drop (Xbi l):=(List.take_append_drop _ _).symm
     have hTl:(l.take (Xbi l)).length=Xbi l:=by rw[List.length_take,Nat.min_eq_left hdl]
     unfold Xhn
     rw[hTl]
     have key:l.drop (Xbi l)=List.replicate ((4-Xbi l%4)%4) 61∧Xbi l%4≠1:=by
      unfold Xbi
      split
      ·rename_i hc
       refine⟨?_,by omega⟩
       rw[List.drop_of_length_le (Nat.le_refl _),h4]
       rfl
      ·rename_i hc
       have hl0:l.length≠0:=fun e=>hc (.inl e)
       have hlast:l.getD (l.length-1) 0=61:=by
        rcases Nat.decEq (l.getD (l.length-1) 0) 61 with e|e
        ·exact absurd (.inr (.inr e)) hc
        ·exact e
       have hget1:l[l.length-1]'(by omega)=61:=by
        rw[List.getD_eq_getElem?_getD,List.getElem?_eq_getElem (by omega)] at hlast
        simpa using hlast
       split
       ·rename_i h2
        have hget2:l[l.length-2]'(by omega)=61:=by
         rw[List.getD_eq_getElem?_getD,List.getElem?_eq_getElem (by omega)] at h2
         simpa using h2
        refine⟨?_,by omega⟩
        rw[show(4-(l.length-2)%4)%4=2 by omega]
        rw[List.drop_eq_getElem_cons (by omega),hget2,show l.length-2+1=l.length-1 by omega,List.drop_eq_getElem_cons (by omega),hget1,List.drop_of_length_le (by omega)]
        rfl
       ·refine⟨?_,by omega⟩
        rw[show(4-(l.length-1)%4)%4=1 by omega]
        rw[List.drop_eq_getElem_cons (by omega),hget1,List.drop_of_length_le (by omega)]
        rfl
     rw[←key.1,←hl']
     exact⟨rfl,by rw[hn];exact key.2⟩
    have hf:=Yb6 vs.length vs (Nat.le_refl _) hvl.1 hpad.2 (by rw[←hst.1];exact hb)
    rw[hg]
    simp only[hst.2]
    exact⟨by rw[Xm5 _ hf.2,hf.1,hpad.1],hf.2⟩
   ·rw[if_pos hb] at hg
    rw[hg] at h
    simp at h
  ·rw[if_pos h4] at hg
   rw[hg] at h
   simp at h
theorem Xyo (l:List Nat):∀x∈Xe5 l,x<256:=by
 intro x hx
 unfold Xe5 Xhn at hx
 rcases List.mem_append.1 hx with h|h
 ·have key:∀(s:Nat×Nat×List Nat),(∀y∈s.2.2,y<256)→∀y∈Xbl s,y<256:=by
     intro s hs y hy
     unfold Xbl at hy
     split at hy
     ·rcases List.mem_append.1 hy with h|h
      ·exact hs y h
      ·simp at h;subst h;have:=Ycx (s.1*2^(6-s.2.1));omega
     ·exact hs y hy
  refine key _ ?_ x h
  have dr:∀(k b c:Nat) (ys:List Nat),(∀y∈ys,y<256)→∀y∈(Xb4 al 6 k b c ys).2.2,y<256:=by
   intro k
   induction k with
   |zero=>intro b c ys h;exact h
   |succ k ih=>
    intro b c ys h
    rw[Xb4]
    split
    ·exact h
    ·refine ih _ _ _ ?_
     intro y hy
     rcases List.mem_append.1 hy with h'|h'
     ·exact h y h'
     ·simp at h';subst h';have:=Ycx (b/2^(c-6));omega
  have fo:∀(r:List Nat) (s:Nat×Nat×List Nat),(∀y∈s.2.2,y<256)→∀y∈(r.foldl Xbe s).2.2,y<256:=by
   intro r
   induction r with
   |nil=>intro s h;exact h
   |cons g r ih=>intro s h;exact ih _ (dr _ _ _ _ h)
  exact fo l (0,0,[]) (by simp)
 ·have:=(List.mem_replicate.1 h).2
  omega
end Go.Proofs.YtohmdledkhgdaaaGreatDoor
/- The library's decimal numerals at this seat (laid by the shelf's tools): Itoa. -/
namespace Go.Proofs.YtohmdledkhgdaaaGreatDoor
open Go.Shelf Go.RowKit Go.Sort
set_option linter.unusedVariables false
def Xj2:Go.Shelf.Ren:=⟨fun|171=>98|243=>140|246=>179|283=>218|284=>219|285=>220|286=>221|129=>242|317=>241|318=>243|319=>244|320=>245|337=>252|338=>253|n=>n,fun|3=>3|9=>9|2=>2|4=>4|171=>259|0=>0|53=>122|37=>62|5=>5|173=>262|212=>276|51=>127|20=>20|213=>277|46=>75|232=>25|233=>177|n=>n,fun|17=>4|18=>5|19=>6|n=>n⟩
theorem Xqg:Go.Proofs.LaysM.n171 Tryz.prog Xj2:={
 mixed:=by kernel_rfl
 f129:=Tryz.func242.trans (congrArg some (by kernel_rfl))
 f171:=Tryz.func98.trans (congrArg some (by kernel_rfl))
 f243:=Tryz.func140.trans (congrArg some (by kernel_rfl))
 f246:=Tryz.func179.trans (congrArg some (by kernel_rfl))
 f283:=Tryz.func218.trans (congrArg some (by kernel_rfl))
 f284:=Tryz.func219.trans (congrArg some (by kernel_rfl))
 f285:=Tryz.func220.trans (congrArg some (by kernel_rfl))
 f286:=Tryz.func221.trans (congrArg some (by kernel_rfl))
 f317:=Tryz.func241.trans (congrArg some (by kernel_rfl))
 f318:=Tryz.func243.trans (congrArg some (by kernel_rfl))
 f319:=Tryz.func244.trans (congrArg some (by kernel_rfl))
 f320:=Tryz.func245.trans (congrArg some (by kernel_rfl))
 f337:=Tryz.func252.trans (congrArg some (by kernel_rfl))
 f338:=Tryz.func253.trans (congrArg some (by kernel_rfl))
 t0:=Tryz.underlying0
 a0:=Tryz.isAgg0
 z0:=Tryz.sizeOf0
 v0:=Tryz.zeroValue0
 t2:=Tryz.underlying2
 a2:=Tryz.isAgg2
 z2:=Tryz.sizeOf2
 v2:=Tryz.zeroValue2
 t3:=Tryz.underlying3
 a3:=Tryz.isAgg3
 z3:=Tryz.sizeOf3
 v3:=Tryz.zeroValue3
 t4:=Tryz.underlying4
 a4:=Tryz.isAgg4
 z4:=Tryz.sizeOf4
 v4:=Tryz.zeroValue4
 t5:=Tryz.underlying5
 a5:=Tryz.isAgg5
 z5:=Tryz.sizeOf5
 v5:=Tryz.zeroValue5
 t9:=Tryz.underlying9
 a9:=Tryz.isAgg9
 z9:=Tryz.sizeOf9
 v9:=Tryz.zeroValue9
 t20:=Tryz.underlying20
 a20:=Tryz.isAgg20
 z20:=Tryz.sizeOf20
 v20:=Tryz.zeroValue20
 t37:=Tryz.underlying62
 a37:=Tryz.isAgg62
 z37:=Tryz.sizeOf62
 v37:=Tryz.zeroValue62
 t46:=Tryz.underlying75
 a46:=Tryz.isAgg75
 z46:=Tryz.sizeOf75
 v46:=Tryz.zeroValue75
 t51:=Tryz.underlying127
 a51:=Tryz.isAgg127
 z51:=Tryz.sizeOf127
 v51:=Tryz.zeroValue127
 t53:=Tryz.underlying122
 a53:=Tryz.isAgg122
 z53:=Tryz.sizeOf122
 v53:=Tryz.zeroValue122
 t171:=Tryz.underlying259
 a171:=Tryz.isAgg259
 z171:=Tryz.sizeOf259
 v171:=Tryz.zeroValue259
 t173:=Tryz.underlying262
 a173:=Tryz.isAgg262
 z173:=Tryz.sizeOf262
 v173:=Tryz.zeroValue262
 t212:=Tryz.underlying276
 a212:=Tryz.isAgg276
 z212:=Tryz.sizeOf276
 v212:=Tryz.zeroValue276
 t213:=Tryz.underlying277
 a213:=Tryz.isAgg277
 z213:=Tryz.sizeOf277
 t232:=Tryz.underlying25
 a232:=Tryz.isAgg25
 z232:=Tryz.sizeOf25
 v232:=Tryz.zeroValue25
 t233:=Tryz.underlying177
 a233:=Tryz.isAgg177
 z233:=Tryz.sizeOf177
 v233:=Tryz.zeroValue177
 g17:=by kernel_rfl
 g18:=by kernel_rfl
 g19:=by kernel_rfl
 i0:=by kernel_rfl
 i2:=by kernel_rfl
 i3:=by kernel_rfl
 i4:=by kernel_rfl
 i5:=by kernel_rfl
 i9:=by kernel_rfl
 i20:=by kernel_rfl
 i37:=by kernel_rfl
 i46:=by kernel_rfl
 i51:=by kernel_rfl
 i53:=by kernel_rfl
 i171:=by kernel_rfl
 i173:=by kernel_rfl
 i212:=by kernel_rfl
 i232:=by kernel_rfl
 i233:=by kernel_rfl
 m17:=by kernel_rfl
 m18:=by kernel_rfl
 m19:=by kernel_rfl}
theorem Xj1 (n : Int) (h0 : -9223372036854775808 ≤ n) (h1 : n ≤ 9223372036854775807) (w : World) (htab : Lib.TabIs Tryz.prog w "internal/strconv.uint64pow10" .u64 Lib.pow10Tab) :
    Calls Tryz.prog 98 #[.int .i64 n] w fun e w'=>e=.returned (.string ⟨(Lib.itoa n).toArray⟩)∧∃k os,w'=grow (w.drewN k) os:=Any.strconv_Itoa Xqg n h0 h1 w htab
end Go.Proofs.YtohmdledkhgdaaaGreatDoor
/- Walk of base64.Decode. -/
namespace Go.Proofs.YtohmdledkhgdaaaGreatDoor
open Go.RowKit Go.Maps
set_option linter.unusedVariables false
set_option maxRecDepth 100000
theorem Ya1 (w0:World) (B:Nat) (hs:B≤w0.heap.size):Xte w0 B 234 (2^8) id:=by
 intro w v xs g hb hT hown hn hg
 exact Ykh w (B+1) g B v xs hT hown (Nat.le_trans hs hb.size) (by omega) hn (by omega)
def Xni (w:World) (r:List Nat×Nat×Nat) (e:Ending) (w':World):Prop:=
 ∃v,e=.returned (.tuple #[v,.int .i64 (r.2.1:Int),.int .i64 (r.2.2:Int)])∧w'.ownsRow w.heap.size 5 1 v r.1.length (r.1.map U)∧Below w.heap.size w w'
theorem Xry:Yai 131072=174764:=by decide
theorem Xqy (s:ByteArray) (w:World) (hs:s.size≤maxLen) (hl:174764<s.size):
    Calls Tryz.prog 203 #[.string s] w (Xni w (Xcj (bs s))):=by
 unfold maxLen at hs
 have hf:Xcj (bs s)=([],0,5):=by unfold Xcj;rw[if_pos (by rw[Xaa];exact hl)]
 rw[hf]
 have hm:=Xry
 clear hf
 go_enter Tryz.func203,Tryz.ntmps203
 go_wp2_with (go_at_call 232;refine(Xr1 _ _ (by omega) (by omega)).mono ?_;rintro e w' ⟨rfl,rfl⟩;rw[hm])
 go_ret3
 exact⟨_,rfl,World.ownsRow_nil _ _ _ _,Below.refl _ _⟩
set_option maxHeartbeats 1000000 in
theorem Xo4 (s:ByteArray) (w:World) (hl:s.size≤174764) (ht:Tab w):
    Calls Tryz.prog 203 #[.string s] w (Xni w (Xcj (bs s))):=by
 obtain⟨i0,hi0,hz0,hz1,hz2⟩:=info_parts Xio
 have hm:=Xry
 obtain⟨n,hn⟩:∃n,n=Xbi (bs s):=⟨_,rfl⟩
 have hns:n≤s.size:=by rw[hn,←Xaa];exact Xi4 _
 have D1:Hid (∀w,Calls Tryz.prog 233 #[.string s] w fun e w'=>e=.returned (.int .i64 (n:Int))∧w=w'):=fun w=>by rw[hn];exact Ycb s w (by unfold maxLen;omega)
 have hb2:i0.bytes*(n*6/8)≤281474976710656:=by rw[hz2];omega
 have R0:=fun(cs:Array Value) (h:cs.size=(n*6/8)*1)=>Xr9 w cs (n*6/8) 6 8 234 (by unfold maxLen;omega) h
 have P0:=Hd (Ya1 w w.heap.size (Nat.le_refl _))
 have TB:=Hd ht;have HN:=Hd hn;have RR:=Hd R0;have HM:=Hd hm
 clear ht hn R0 hm
 go_enter Tryz.func203,Tryz.ntmps203
 go_wp2_with (first|(go_at_call 232;refine(Xr1 _ _ (by omega) (by omega)).mono ?_;rintro e w' ⟨rfl,rfl⟩;rw[HM.out])|(go_at_call 233;refine(D1.out _).mono ?_;rintro e w' ⟨rfl,rfl⟩)|(at_make;refine Xb8 _ rfl _ _ _ rfl 5 i0 _ 1 Tryz.underlying62 hi0 hz0 hz1 .i64 .i64 _ _ 0 (n*6/8) rfl rfl rfl (by omega) (by omega) hb2 (by unfold maxLen;omega) ?_;intro cs hcs;have CS:=Hd hcs;clear hcs)|(go_at_call 216;refine(Xjn _ 6 8 _ _ w.heap.size (by simp)).mono ?_;rintro e w1 ⟨rfl,rfl⟩))
 have r7:=RR.out cs CS.out
 have b7:=Xkr w (.cells cs 5) (.cells #[.slice (some ⟨w.heap.size,0,none⟩) 0 (n*6/8)] 62) (.cells #[.int .i64 ((6:Nat):Int)] 3) (.cells #[.int .i64 ((8:Nat):Int)] 3) (.cells #[.func (.func 234) #[] #[.pointer (some ⟨w.heap.size+1,0,none⟩)]] 81) (.cells #[.int .i64 0] 3) (.cells #[.int .i64 0] 3)
 refine(Xtj _ (TB.out.below b7 TB.out.size)).mono ?_
 generalize ((((((((w.alloc (.cells cs 5)).alloc (.cells #[.slice (some ⟨w.heap.size,0,none⟩) 0 (n*6/8)] 62)).alloc (.cells #[.int .i64 ((6:Nat):Int)] 3)).alloc (.cells #[.int .i64 ((8:Nat):Int)] 3)).alloc (.cells #[.func (.func 234) #[] #[.pointer (some ⟨w.heap.size+1,0,none⟩)]] 81)).alloc (.cells #[.int .i64 0] 3)).alloc (.cells #[.int .i64 0] 3)))=W7 at*
 obtain⟨M,hM⟩:∃M,M=W7.heap.size:=⟨_,rfl⟩
 rw[←hM]
 rintro e w1 ⟨rfl,hmap,hb1⟩
 have r8:=r7.below (by rw[←hM];exact hb1)
 have b8:Below w.heap.size w w1:=b7.trans (hb1.mono (by rw[hM];exact b7.size))
 have R8:=Hd r8;have B8:=Hd b8;have M8:=Hd hmap
 clear r7 b7 hM hmap hb1 r8 b8
 go_wp2_with fail
 go_loopg [32] n (fun k i wr=>∃j b c xs vs,j≤n∧k=n-j∧i=.int .i64 (j:Int)∧Xhi ((bs s).take j)=some vs∧Xeh vs=(b,c,xs)∧RG w.heap.size 6 8 234 b c xs wr∧Below w.heap.size w wr∧wr.ownsMap Tryz.prog 5 (plainElem (H:=Unit) Tryz.prog 3) M 64 (Xzr 64))
 case atStart=>exact⟨0,0,0,[],[],by omega,by omega,rfl,Xrn,rfl,R8.out,B8.out,M8.out⟩
 case round=>
  obtain⟨j,b,c,xs,vs,hj,rfl,rfl,hvs,hst,hrg,hbl,hmap⟩:=hrel
  have hvl:=Xpo hvs
  have hinv:=Xkm vs hvl.1
  rw[hst] at hinv
  obtain⟨v1,v2⟩:=hvl
  obtain⟨i1,i2,i3⟩:=hinv
  simp only[List.length_take] at v2
  simp only at i1 i2 i3
  have hxl:xs.length≤900000:=by omega
  clear R8 B8 M8 W7
  by_cases hlt:j<n
  ·have hjl:j<(bs s).length:=by rw[Xaa];omega
   obtain⟨g,hg'⟩:∃g,g=(bs s)[j]:=⟨_,rfl⟩
   have hg:g<256:=by rw[hg'];exact Xga s _ (List.getElem_mem hjl)
   have hx:∀w,(Instr.index 9 (.string s) (.int .i64 (j:Int))).run Tryz.prog w=.ok (.int .u8 (g:Int)) w:=fun w=>by
    rw[Xa7 9 Tryz.underlying9 s .i64 (j:Int) j rfl (by omega),hg',List.getD_eq_getElem?_getD,List.getElem?_eq_getElem hjl,Option.getD_some]
   have hkey:keyOf Tryz.prog 5 (.int .u8 (g:Int))=some (.int .u8 (g:Int)):=keyOf_int_mk Tryz.underlying5 (WalkArith.wf_u8 (by omega))
   have hhas:=Xz5 g hg
   have hat0:=Yd6 g hg
   have VS:=Hd hvs;have ST:=Hd hst;have RGH:=Hd hrg;have BL:=Hd hbl;have MP:=Hd hmap;have HG:=Hd hg';have I2:=Hd i2;have AT:=Hd hat0;have V1:=Hd v1
   clear hvs hst hrg hbl hmap hg' i2 hat0 v1
   cases hv:vOf g with
   |none=>
    rw[hv] at hhas
    simp only[Option.isSome_none] at hhas
    have HV:=Hd hv
    clear hv
    go_wp2_with (at_lookup;refine wpList_lookup_own_ok_int _ rfl _ _ 271 rfl 5 3 .i64 Yje Tryz.underlying271 Tryz.underlying3 (Ygs _) M 64 _ rfl MP.out _ _ rfl hkey ?_;intro c' hat hwc)
    go_ret3
    have hd:=Xs4 VS.out (by rw[←HN.out];exact hlt) hjl (by rw[←HG.out];exact HV.out) (by rw[Xaa];omega)
    rw[hd]
    exact⟨_,rfl,World.ownsRow_nil _ _ _ _,BL.out⟩
   |some v=>
    have hv64:=Xvo hv
    rw[hv] at hhas
    simp only[Option.isSome_some] at hhas
    have C1:=Hd (Ykk w wr w.heap.size 6 8 b c v id xs RGH.out BL.out P0.out (by omega) (by omega) (by omega) i1 I2.out (by omega) hxl)
    have HV:=Hd hv
    clear hv
    have hat1:∀x,(Xzr 64).atKey (.int .u8 (g:Int)) (.lit (.int .i64 0))=.lit (.int .i64 x)→x=(v:Int):=fun x hx=>by have:=AT.out x hx;rw[HV.out] at this;simpa using this
    have AT1:=Hd hat1
    clear hat1
    go_wp2_with (first|(at_lookup;refine wpList_lookup_own_ok_int _ rfl _ _ 271 rfl 5 3 .i64 Yje Tryz.underlying271 Tryz.underlying3 (Ygs _) M 64 _ rfl MP.out _ _ rfl hkey ?_;intro c' hat hwc;obtain rfl:=AT1.out c' hat;clear hat hwc)|(go_at_call 239;refine C1.out.mono ?_;rintro e w1 ⟨rfl,hb1,hkm,b1,c1,ys,hd,hr1⟩;have HD:=Hd hd;clear hd))
    go_roundg (n-(j+1))
    case measure=>omega
    case rel=>
     refine⟨j+1,b1,c1,ys,vs++[v],by omega,rfl,by go_num,?_,?_,hr1,hb1,hkm.owns MP.out⟩
     ·rw[List.take_succ_eq_append_getElem hjl]
      exact Xnp VS.out (by rw[←HG.out];exact HV.out)
     ·rw[Xl1,ST.out]
      exact HD.out
  ·obtain rfl:j=n:=by omega
   have hg:=Xha (l:=bs s) (by rw[←HN.out];exact hvs) (by rw[Xaa];exact hl)
   rw[hst,Xaa,←HN.out] at hg
   obtain⟨v,hv,hown⟩:=hrg.txt
   have hc:=cell_of_one hv
   have L1:=Hd (Xsp wr w.heap.size 6 8 234 b c xs hrg)
   have HG:=Hd hg;have BL:=Hd hbl;have OW:=Hd hown
   obtain⟨a',cap',rfl⟩:=Xg2 hown
   have hbj:Hid (j=0→b=0):=fun h=>by
    have hc0:c=0:=by omega
    rw[hc0] at i2
    simpa using i2
   clear hg hbl hown hrg hst hvs hv hmap i2
   by_cases h4:s.size%4=0
   ·have h4':((s.size:Int)%4 !=0)=false:=Xat (by omega)
    by_cases hb0:b=0
    ·have hb':((b:Int) !=0)=false:=Xat (by omega)
     go_wp2_with (go_at_call 240;refine L1.out.mono ?_;rintro e w1 ⟨rfl,nq,rfl⟩)
     go_ret3
     rw[HG.out,if_neg (by omega),if_neg (by simpa using hb0)]
     exact⟨_,rfl,OW.out,below_drewN BL.out nq⟩
    ·have hb':((b:Int) !=0)=true:=Xam (by omega)
     have hn0:1≤j:=Nat.pos_of_ne_zero fun h=>hb0 (hbj.out h)
     go_wp2_with (go_at_call 240;refine L1.out.mono ?_;rintro e w1 ⟨rfl,nq,rfl⟩)
     go_ret3
     rw[HG.out,if_neg (by omega),if_pos (by simpa using hb0)]
     exact⟨_,by simp;omega,World.ownsRow_nil _ _ _ _,below_drewN BL.out nq⟩
   ·have h4':((s.size:Int)%4 !=0)=true:=Xam (by omega)
    go_wp2_with fail
    go_ret3
    rw[HG.out,if_pos h4]
    exact⟨_,rfl,World.ownsRow_nil _ _ _ _,BL.out⟩
theorem Xqw (w:World) (a:Option Addr) (cap:Nat) (l:List Nat) (hl:l.length≤131072) (hrd:Rd w a l) (ht:Tab w):
    Calls Tryz.prog 138 #[.slice a l.length cap] w fun e w'=>e=.returned (.tuple #[.string (Xaq (Xe5 l)),.int .i64 0])∧Below w.heap.size w w':=by
 have C1:=Hd (Xux w a cap l (by omega) hrd ht)
 obtain⟨n,hn⟩:∃n,n=l.length:=⟨_,rfl⟩
 rw[←hn] at C1 hl⊢
 clear hrd ht hn
 go_enter Tryz.func138,Tryz.ntmps138
 go_wp2_with (go_at_call 178;refine C1.out.mono ?_;rintro e w1 ⟨rfl,hb1⟩)
 go_ret2
 exact⟨rfl,hb1⟩
end Go.Proofs.YtohmdledkhgdaaaGreatDoor
/- ascii.Digits, signer.PublicText, canonical.keyText. -/
namespace Go.Proofs.YtohmdledkhgdaaaGreatDoor
open Go.RowKit
set_option linter.unusedVariables false
set_option maxRecDepth 100000
theorem Xvf (w:World) (k:Nat) (os:Array Obj):Below w.heap.size w (Go.Sort.grow (w.drewN k) os):=
 ⟨rfl,rfl,rfl,by simp[Go.Sort.grow,World.drewN],fun b hb=>by simp[Go.Sort.grow,World.drewN,Array.getElem?_append,hb]⟩
def Xzo (n:Int) (w:World) (e:Ending) (w':World):Prop:=∃t:ByteArray,e=.returned (.string t)∧bs t=Xd1 n∧t.size≤21∧Below w.heap.size w w'
theorem Xm6:∀(k u:Nat),(Xek k u).length≤k+1
 |0,_=>by simp[Xek]
 |k+1,u=>by
  unfold Xek;split
  ·simp
  ·have:=Xm6 k (u/10);simp;omega
theorem Xkl (n:Int) (h0:-9223372036854775808≤n) (h1:n≤9223372036854775807) (w:World) (hE:Env w):
    Calls Tryz.prog 56 #[.int .i64 n] w (Xzo n w):=by
 obtain⟨t,ht⟩:∃t:ByteArray,t=⟨(Lib.itoa n).toArray⟩:=⟨_,rfl⟩
 have I:Hid (Calls Tryz.prog 98 #[.int .i64 n] w fun e w'=>e=.returned (.string t)∧Below w.heap.size w w'):=Hd ((Xj1 n h0 h1 w hE.pow).mono fun e w' ⟨a,k,os,b⟩=>⟨by rw[ht];exact a,by rw[b];exact Xvf w k os⟩)
 have B:Hid (bs t=Xd1 n):=Hd (by rw[ht,Xip];exact Xxt n h0 h1)
 have S:Hid (t.size≤21):=Hd (by
  have hb:=ht
  have:=Lib.itoa_length_le n h0 h1
  rw[ht];simpa [ByteArray.size] using this)
 clear ht h0 h1 hE
 go_enter Tryz.func56,Tryz.ntmps56
 go_wp2_with fail
 refine I.out.mono ?_
 rintro e w1 ⟨rfl,hb⟩
 have HB:=Hd hb
 clear hb I
 go_wp2_with fail
 go_ret
 exact⟨t,rfl,B.out,S.out,HB.out⟩
set_option maxHeartbeats 1000000 in
theorem Xp5 (w:World) (h:Nat) (h1:1≤h) (h8:h≤8) {r:List Nat} (hr:B16 r):
    Calls Tryz.prog 139 #[.agg (pkC h r)] w fun e w'=>∃b cap,e=.returned (.slice (some ⟨b,0,none⟩) 17 cap)∧Rd w' (some ⟨b,0,none⟩) (h::r)∧Below w.heap.size w w':=by
 obtain⟨i0,hi0,hz0,hz1,hz2⟩:=info_parts Xio
 have c0:=Yeq h r
 obtain⟨cs,hcs⟩:∃cs,cs=pkC h r:=⟨_,rfl⟩
 rw[←hcs] at c0⊢
 have cv:IntKind.u8.wrap (h:Int)=(h:Int):=by rw[IntKind.wrap_u8];omega
 have NW:Hid (∀w':World,w'.heap[w.heap.size]?=some (.cells cs 35 (0,0))→∀k u,(r.map U)[k]?=some u→w'.cell? ⟨w.heap.size,1+k,none⟩=some u):=Hd (fun w' hw k u hu=>by
  rw[cell_of_row _ _ _ _ _ _ hw,hcs];unfold pkC;rw[Nat.add_comm];simpa using hu)
 have HR:=Hd hr
 clear hcs hr
 go_enter Tryz.func139,Tryz.ntmps139
 go_wp2_with fail
 have OWN:Hid ((((w.alloc (.cells cs 35)).drew).alloc (.cells #[.int .u8 (h:Int)] 5)).ownsRow w.heap.size 5 1 (.slice (some ⟨w.heap.size+1,0,none⟩) 1 1) 1 [.int .u8 (h:Int)]):=Hd
  ⟨rfl,.inr ⟨w.heap.size+1,1,#[.int .u8 (h:Int)],rfl,by omega,by have:=heap_alloc_new ((w.alloc (.cells cs 35)).drew) (.cells #[.int .u8 (h:Int)] 5);simpa using this,Nat.le_refl _,by unfold maxLen;omega,rfl,rfl⟩⟩
 have NEWS:Hid (∀j u,(r.map U)[j]?=some u→(((w.alloc (.cells cs 35)).drew).alloc (.cells #[.int .u8 (h:Int)] 5)).cell? ((⟨w.heap.size,1,none⟩:Addr).add j)=some u):=Hd (fun j u hu=>by
  have hadd:(⟨w.heap.size,1,none⟩:Addr).add j=⟨w.heap.size,1+j,none⟩:=by unfold Addr.add;split<;>simp_all
  rw[hadd]
  exact NW.out _ (Xaf (heap_alloc_new w _)) j u hu)
 have ONE:Hid (∀u∈r.map U,u.oneCell'=true):=Hd (fun u hu=>by obtain⟨n,_,rfl⟩:=List.mem_map.1 hu;rfl)
 have BEL:Hid (Below w.heap.size w (((w.alloc (.cells cs 35)).drew).alloc (.cells #[.int .u8 (h:Int)] 5))):=Hd ((((Below.refl _ w).alloc (Nat.le_refl _) _).drew).alloc (by simp) _)
 go_region_law ((refine step_append_lies _ (by rfl) _ _ _ (by rfl) w.heap.size 5 i0 _ 1 1 Tryz.underlying62 hi0 hz0 hz1 hz2 rfl (by omega) (.slice (some ⟨w.heap.size+1,0,none⟩) 1 1) 1 [.int .u8 (h:Int)] (by rfl) OWN.out ⟨w.heap.size,1,none⟩ 16 16 (r.map U) (by rfl) (by rw[List.length_map,HR.out.len]) NEWS.out ONE.out (by omega) (by unfold maxLen;omega) (by omega) (by simp;omega) (w.heap.size+2) (by simp) ?_;intro gg cap' w1 hown1 hgrow hat hlt2))
 all_goals
  have O1:=Hd hown1
  have B1:Hid (Below w.heap.size w w1):=Hd (Below.grown BEL.out hgrow (by simp;omega) (fun k hk=>(OWN.out.lt k hk).1))
  clear hown1 hgrow hat hlt2
  go_wp2_with fail
  go_ret
  refine⟨gg,cap',rfl,⟨fun x hx=>?_,fun _=>⟨gg,0,rfl,?_,fun i hi=>?_⟩⟩,B1.out⟩
  ·rcases List.mem_cons.1 hx with rfl|hx
   ·omega
   ·exact HR.out.lt x hx
  ·exact(O1.out.lt gg rfl).2
  ·have hi17:i<17:=by simpa [HR.out.len] using hi
   rw[Nat.zero_add,O1.out.cellAt i (by omega)]
   have:((.int .u8 (h:Int)::r.map U:List Value))[i]?=some (U (h::r)[i]):=by
    have e:(.int .u8 (h:Int)::r.map U:List Value)=(h::r).map U:=rfl
    rw[e,List.getElem?_map,List.getElem?_eq_getElem hi];rfl
   exact this
def Yix (h:Int) (r:List Nat) (w:World) (e:Ending) (w':World):Prop:=
 ∃t:ByteArray,e=.returned (.tuple #[.string t,.int .i64 (eIf (!Xau h) 2:Nat)])∧(Xau h=true→bs t=Xe5 ((h%256).toNat::r))∧t.size≤1000∧Below w.heap.size w w'
set_option maxHeartbeats 1000000 in
theorem Xww (w:World) (h:Int) {r:List Nat} (hr:B16 r) (hE:Env w):
    Calls Tryz.prog 97 #[.agg (pkC h r)] w (Yix h r w):=by
 have LD:Hid (∀w',Below (w.alloc (.cells (pkC h r) 35)).heap.size (w.alloc (.cells (pkC h r) 35)) w'→(loadVar 35 ⟨w.heap.size,0,none⟩).run Tryz.prog w'=.ok (.agg (pkC h r)) w'):=Hd (fun w' hb=>
  Xqb w' w.heap.size 0 (h:=h) hr.len (Xfy _ _ _ _ _ ((hb.block w.heap.size (by simp)).trans (heap_alloc_last w _))))
 have P:=Hd (Xet (w.alloc (.cells (pkC h r) 35)) h hr.len)
 have LD0:=Hd (LD.out _ (Below.refl _ _))
 have B0:Hid (Below w.heap.size w (w.alloc (.cells (pkC h r) 35))):=Hd ((Below.refl _ _).alloc (Nat.le_refl _) _)
 have HE:=Hd hE
 obtain⟨b,hb⟩:∃b,b=Xau h:=⟨_,rfl⟩
 rw[←hb] at P
 have HB:=Hd hb
 cases b
 ·obtain⟨cs,hcs⟩:∃cs,cs=pkC h r:=⟨_,rfl⟩
  rw[←hcs] at P LD0 B0⊢
  clear hcs hr hE LD hb
  go_enter Tryz.func97,Tryz.ntmps97
  go_upto_region 1 with fail
  refine wp_region_list ?_
  simp only[]
  refine Xac 35 rfl _ rfl ⟨_,_,rfl,LD0.out,?_⟩
  go_wp2_with fail
  refine P.out.mono ?_
  rintro e w1 ⟨rfl,hb1⟩
  have B1:=Hd (B0.out.trans (hb1.mono B0.out.size))
  have q:(((eIf (!false) 2:Nat):Int) !=0)=true:=by decide
  clear hb1
  go_wp2_with fail
  go_ret2
  exact⟨⟨#[]⟩,by rw[←HB.out];rfl,(fun h=>by rw[←HB.out] at h;cases h),by decide,B1.out⟩
 ·have hh:1≤h∧h≤8:=by unfold Xau at hb;have:=hb.symm;simpa using this
  obtain⟨k,rfl⟩:∃k:Nat,h=(k:Int):=⟨h.toNat,by omega⟩
  have BY:Hid (∀w',Calls Tryz.prog 139 #[.agg (pkC k r)] w' fun e w''=>∃b cap,e=.returned (.slice (some ⟨b,0,none⟩) 17 cap)∧Rd w'' (some ⟨b,0,none⟩) (k::r)∧Below w'.heap.size w' w''):=Hd (fun w'=>Xp5 w' k (by omega) (by omega) hr)
  have EN:Hid (∀(w':World) (b cap:Nat),Rd w' (some ⟨b,0,none⟩) (k::r)→Tab w'→Calls Tryz.prog 138 #[.slice (some ⟨b,0,none⟩) 17 cap] w' fun e w''=>e=.returned (.tuple #[.string (Xaq (Xe5 (k::r))),.int .i64 0])∧Below w'.heap.size w' w''):=Hd (fun w' b cap hrd ht=>by
   have:=Xqw w' (some ⟨b,0,none⟩) cap (k::r) (by simp[hr.len]) hrd ht
   simpa [hr.len] using this)
  have KM:Hid (((k:Int)%256).toNat=k):=Hd (by omega)
  have EL:Hid (bs (Xaq (Xe5 (k::r)))=Xe5 (k::r)):=Hd (Xc1 _ (Xyo _))
  have ES:Hid ((Xaq (Xe5 (k::r))).size≤1000):=Hd (by
   rw[Xan]
   rw[Xi1 (k::r) (fun x hx=>by rcases List.mem_cons.1 hx with rfl|hx;· omega
                               exact hr.lt x hx)]
   simp[hr.len])
  obtain⟨cs,hcs⟩:∃cs,cs=pkC k r:=⟨_,rfl⟩
  rw[←hcs] at P LD0 B0 LD BY⊢
  clear hcs hr hE hb hh
  go_enter Tryz.func97,Tryz.ntmps97
  go_upto_region 1 with fail
  refine wp_region_list ?_
  simp only[]
  refine Xac 35 rfl _ rfl ⟨_,_,rfl,LD0.out,?_⟩
  go_wp2_with fail
  refine P.out.mono ?_
  rintro e w1 ⟨rfl,hb1⟩
  have B1:=Hd (B0.out.trans (hb1.mono B0.out.size))
  have LD1:=Hd (LD.out w1 hb1)
  have q:(((eIf (!true) 2:Nat):Int) !=0)=false:=by decide
  clear hb1 LD LD0
  go_upto_region 4 with fail
  refine wp_region_list ?_
  simp only[]
  refine Xac 35 rfl _ rfl ⟨_,_,rfl,LD1.out,?_⟩
  go_wp2_with fail
  refine(BY.out _).mono ?_
  rintro e w2 ⟨b,cap,rfl,hrd,hb2⟩
  have B2:=Hd (B1.out.trans (hb2.mono B1.out.size))
  have E2:=Hd (EN.out w2 b cap hrd (HE.out.on B2.out).tab)
  clear hrd hb2 BY EN LD1
  go_wp2_with fail
  refine E2.out.mono ?_
  rintro e w3 ⟨rfl,hb3⟩
  have B3:=Hd (B2.out.trans (hb3.mono B2.out.size))
  clear hb3 E2
  go_wp2_with fail
  go_ret2
  exact⟨_,by rw[←HB.out];rfl,(fun _=>by rw[KM.out];exact EL.out),ES.out,B3.out⟩
end Go.Proofs.YtohmdledkhgdaaaGreatDoor
