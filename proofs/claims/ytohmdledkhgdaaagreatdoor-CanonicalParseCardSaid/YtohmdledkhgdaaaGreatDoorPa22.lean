/- bulletinref18.Same (printed by gen_rsame.py). -/
import Derived.Test.YtohmdledkhgdaaaGreatDoorPa21
import Derived.Laws.OwnMore
namespace Go.Proofs.YtohmdledkhgdaaaGreatDoor
open Go.RowKit
set_option linter.unusedVariables false
set_option maxRecDepth 100000
theorem Xft {x y:Int} (h:¬x=y):(x !=y)=true:=by simpa using h
theorem Xay {x y:Int} (h:x=y):(x !=y)=false:=by rw[h];simp
theorem Xpt:(Tryz.prog.info? 28).map (·.size)=some 75:=by kernel_rfl
theorem Xrx:(Tryz.prog.info? 22).map (·.size)=some 16:=by kernel_rfl
theorem CB.author16 {w:World} {b:Nat} {c:Cn} {gv rv:Value} {T:TypeId} (h:CB w b c gv rv T) (hc:c.Ok):(loadVar 22 ⟨b,1,none⟩).run Tryz.prog w=.ok (.agg (idA c.author)) w:=Xai w b 1 22 _ _ Tryz.underlying22 rfl (by rw[Xag,hc.author.len];exact Xrx) (h.part 1 (Xo8 c gv rv))
theorem CB.root16 {w:World} {b:Nat} {c:Cn} {gv rv:Value} {T:TypeId} (h:CB w b c gv rv T) (hc:c.Ok):(loadVar 22 ⟨b,57,none⟩).run Tryz.prog w=.ok (.agg (idA c.root)) w:=Xai w b 57 22 _ _ Tryz.underlying22 rfl (by rw[Xag,hc.root.len];exact Xrx) (h.part 57 (Xyy hc gv rv))
theorem CB.allR {w:World} {b:Nat} {c:Cn} {gv rv:Value} {T:TypeId} (h:CB w b c gv rv T) (hc:c.Ok):(loadVar 28 ⟨b,0,none⟩).run Tryz.prog w=.ok (.agg (c.cells gv rv)) w:=
 Xai w b 0 28 _ _ Tryz.underlying28 rfl (by rw[Xb1 hc];exact Xpt) (Xfy w b T _ _ h)
set_option maxHeartbeats 4000000 in
theorem Xwf (w:World) (a b:Cn) (ga ra gb rb:Value) (ha:CnIn w a ga ra) (hb:CnIn w b gb rb):
    Calls Tryz.prog 13 #[.agg (a.cells ga ra),.agg (b.cells gb rb)] w fun e w'=>e=.returned (.bool (decide (a.p=b.p)))∧Below w.heap.size w w':=by
 obtain⟨w0,hw0⟩:∃w0,w0=(w.alloc (.cells (a.cells ga ra) 28)).alloc (.cells (b.cells gb rb) 28):=⟨_,rfl⟩
 have B0:Hid (Below w.heap.size w w0):=Hd (by rw[hw0];exact((Below.refl _ _).alloc (Nat.le_refl _) _).alloc (by simp) _)
 have CA:Hid (∀wx,Dr w0 wx→CB wx w.heap.size a ga ra 28):=Hd (fun wx hd=>by
  have:CB w0 w.heap.size a ga ra 28:=by unfold CB;rw[hw0];exact Xaf (heap_alloc_last w _)
  exact this.on (Dr.below hd))
 have CC:Hid (∀wx,Dr w0 wx→CB wx (w.heap.size+1) b gb rb 28):=Hd (fun wx hd=>by
  have:CB w0 (w.heap.size+1) b gb rb 28:=by
   unfold CB;rw[hw0];have:=heap_alloc_last (w.alloc (.cells (a.cells ga ra) 28)) (.cells (b.cells gb rb) 28);rw[World.size_alloc] at this;exact this
  exact this.on (Dr.below hd))
 have OA:=Hd ha.ok;have OB:=Hd hb.ok
 have SA:=ha.srow.below B0.out
 have SB:=hb.srow.below B0.out
 have IA:=ha.irow.below B0.out
 have IB':=hb.irow.below B0.out
 have gla:=ha.gl;have glb:=hb.gl;have rla:=ha.rl;have rlb:=hb.rl
 obtain⟨aa,haa⟩:∃x,x=idA a.author:=⟨_,rfl⟩
 obtain⟨ab,hab⟩:∃x,x=idA b.author:=⟨_,rfl⟩
 obtain⟨sa,hsa⟩:∃x,x=idA a.sup:=⟨_,rfl⟩
 obtain⟨sb,hsb⟩:∃x,x=idA b.sup:=⟨_,rfl⟩
 obtain⟨pa,hpa⟩:∃x,x=idA a.root:=⟨_,rfl⟩
 obtain⟨pb,hpb⟩:∃x,x=idA b.root:=⟨_,rfl⟩
 have D0:Hid (Dr w0 w0):=Hd (Dr.refl w0)
 have LAA:Hid ((loadVar 22 ⟨w.heap.size,1,none⟩).run Tryz.prog w0=.ok (.agg aa) w0):=Hd (by rw[haa];exact CB.author16 (CA.out w0 D0.out) OA.out)
 have LAB:Hid ((loadVar 22 ⟨w.heap.size+1,1,none⟩).run Tryz.prog w0=.ok (.agg ab) w0):=Hd (by rw[hab];exact CB.author16 (CC.out w0 D0.out) OB.out)
 have LSA:Hid ((loadVar 26 ⟨w.heap.size,21,none⟩).run Tryz.prog w0=.ok (.agg sa) w0):=Hd (by rw[hsa];exact CB.sup (CA.out w0 D0.out) OA.out)
 have LSB:Hid ((loadVar 26 ⟨w.heap.size+1,21,none⟩).run Tryz.prog w0=.ok (.agg sb) w0):=Hd (by rw[hsb];exact CB.sup (CC.out w0 D0.out) OB.out)
 have LPA:Hid ((loadVar 22 ⟨w.heap.size,57,none⟩).run Tryz.prog w0=.ok (.agg pa) w0):=Hd (by rw[hpa];exact CB.root16 (CA.out w0 D0.out) OA.out)
 have LPB:Hid ((loadVar 22 ⟨w.heap.size+1,57,none⟩).run Tryz.prog w0=.ok (.agg pb) w0):=Hd (by rw[hpb];exact CB.root16 (CC.out w0 D0.out) OB.out)
 have EA:Hid (∀w,(Op.equal 22 (.agg aa) (.agg ab)).run Tryz.prog w=.ok (decide (a.author=b.author)) w):=Hd (fun w=>by rw[haa,hab];exact Ydp w OA.out.author OB.out.author)
 have ES:Hid (∀w,(Op.equal 26 (.agg sa) (.agg sb)).run Tryz.prog w=.ok (decide (a.sup=b.sup)) w):=Hd (fun w=>by rw[hsa,hsb];exact Xuw w OA.out.sup OB.out.sup)
 have EP:Hid (∀w,(Op.equal 22 (.agg pa) (.agg pb)).run Tryz.prog w=.ok (decide (a.root=b.root)) w):=Hd (fun w=>by rw[hpa,hpb];exact Ydp w OA.out.root OB.out.root)
 obtain⟨cs,hcs⟩:∃x,x=a.cells ga ra:=⟨_,rfl⟩
 obtain⟨ds,hds⟩:∃x,x=b.cells gb rb:=⟨_,rfl⟩
 rw[←hcs,←hds] at hw0⊢
 have HW:=Hd hw0
 have PQ:Hid (a.p=b.p↔a.name=b.name∧a.author=b.author∧a.date=b.date∧a.subject=b.subject∧a.sup=b.sup∧a.ctl=b.ctl∧a.dist=b.dist∧a.number=b.number∧a.height=b.height∧a.root=b.root∧a.leaf=b.leaf∧a.body=b.body∧a.groups=b.groups∧a.refs=b.refs):=Hd (by
  constructor
  ·intro h
   have h':=h
   unfold Cn.p at h'
   injection h' with h1 h2 h3 h4 h5 h6 h7 h8 h9 h10 h11 h12 h13 h14
   exact⟨Xfj h1,h2,h3,Xfj h5,h7,Xfj h8,Xfj h9,h10,h11,h12,h13,Xfj h14,Ye7 h4,h6⟩
  ·rintro⟨h1,h2,h3,h5,h7,h8,h9,h10,h11,h12,h13,h14,h4,h6⟩
   unfold Cn.p
   rw[h1,h2,h3,h4,h5,h6,h7,h8,h9,h10,h11,h12,h13,h14])
 clear haa hab hsa hsb hpa hpb hcs hds hw0 ha hb
 obtain⟨xa,xc,rfl,hxc,rxa⟩:=SA
 obtain⟨xb,xd,rfl,hxd,rxb⟩:=SB
 obtain⟨ya,yc,rfl,hyc,rya⟩:=IA
 obtain⟨yb,yd,rfl,hyd,ryb⟩:=IB'
 obtain⟨n1,hn1⟩:∃n,n=a.groups.length:=⟨_,rfl⟩
 obtain⟨n2,hn2⟩:∃n,n=b.groups.length:=⟨_,rfl⟩
 obtain⟨m1,hm1⟩:∃n,n=a.refs.length:=⟨_,rfl⟩
 obtain⟨m2,hm2⟩:∃n,n=b.refs.length:=⟨_,rfl⟩
 rw[←hn1] at CA gla
 rw[←hn2] at CC glb
 rw[←hm1] at CA rla
 rw[←hm2] at CC rlb
 have HN1:=Hd hn1;have HN2:=Hd hn2;have HM1:=Hd hm1;have HM2:=Hd hm2
 have RXA:=Hd rxa;have RXB:=Hd rxb;have RYA:=Hd rya;have RYB:=Hd ryb
 clear hn1 hn2 hm1 hm2 rxa rxb rya ryb hxc hxd hyc hyd
 go_enter Tryz.func13,Tryz.ntmps13
 go_upto_region 1 with fail
 rw[←HW.out]
 clear HW
 simp only[List.append_eq,List.cons_append,List.nil_append]
 by_cases h0:a.name=b.name
 case neg=>
  have n0:=h0
  clear h0
  have e0:=Xdq n0
  have ca0:=(CA.out _ D0.out).at (Xe6 a _ _)
  have cb0:=(CC.out _ D0.out).at (Xe6 b _ _)
  go_wp2_with (first
   |((with_reducible refine Xah 22 _ rfl (by kernel_rfl) ?_);first|(refine⟨_,_,rfl,LAA.out,?_⟩)|(refine⟨_,_,rfl,LAB.out,?_⟩)|(refine⟨_,_,rfl,LPA.out,?_⟩)|(refine⟨_,_,rfl,LPB.out,?_⟩))
   |((with_reducible refine Xaj 22 _ _ rfl (by kernel_rfl) Xbj ?_);first|(refine⟨_,_,_,rfl,rfl,EA.out _,?_⟩;skip)|(refine⟨_,_,_,rfl,rfl,EP.out _,?_⟩;skip))
   |((with_reducible refine Xah 26 _ rfl (by kernel_rfl) ?_);first|(refine⟨_,_,rfl,LSA.out,?_⟩)|(refine⟨_,_,rfl,LSB.out,?_⟩))
   |((with_reducible refine Xaj 26 _ _ rfl (by kernel_rfl) Xbw ?_);refine⟨_,_,_,rfl,rfl,ES.out _,?_⟩;skip))
  go_ret
  exact⟨by rw[show decide (a.p=b.p)=false from decide_eq_false (fun e=>n0 (by have:=PQ.out.1 e;exact this.1))];rfl,B0.out⟩
 by_cases h1:a.author=b.author
 case neg=>
  have n1:=h1
  clear h1
  have e0:=toList_eq h0
  have ca0:=(CA.out _ D0.out).at (Xe6 a _ _)
  have cb0:=(CC.out _ D0.out).at (Xe6 b _ _)
  go_wp2_with (first
   |((with_reducible refine Xah 22 _ rfl (by kernel_rfl) ?_);first|(refine⟨_,_,rfl,LAA.out,?_⟩)|(refine⟨_,_,rfl,LAB.out,?_⟩)|(refine⟨_,_,rfl,LPA.out,?_⟩)|(refine⟨_,_,rfl,LPB.out,?_⟩))
   |((with_reducible refine Xaj 22 _ _ rfl (by kernel_rfl) Xbj ?_);first|(refine⟨_,_,_,rfl,rfl,EA.out _,?_⟩;rw[decide_eq_false n1])|(refine⟨_,_,_,rfl,rfl,EP.out _,?_⟩;skip))
   |((with_reducible refine Xah 26 _ rfl (by kernel_rfl) ?_);first|(refine⟨_,_,rfl,LSA.out,?_⟩)|(refine⟨_,_,rfl,LSB.out,?_⟩))
   |((with_reducible refine Xaj 26 _ _ rfl (by kernel_rfl) Xbw ?_);refine⟨_,_,_,rfl,rfl,ES.out _,?_⟩;skip))
  go_ret
  exact⟨by rw[show decide (a.p=b.p)=false from decide_eq_false (fun e=>n1 (by have:=PQ.out.1 e;exact this.2.1))];rfl,B0.out⟩
 by_cases h2:a.date=b.date
 case neg=>
  have n2:=h2
  clear h2
  have e0:=toList_eq h0
  have e2:=Xft n2
  have ca0:=(CA.out _ D0.out).at (Xe6 a _ _)
  have cb0:=(CC.out _ D0.out).at (Xe6 b _ _)
  have ca17:=(CA.out _ D0.out).at (Xcn OA.out _ _)
  have cb17:=(CC.out _ D0.out).at (Xcn OB.out _ _)
  go_wp2_with (first
   |((with_reducible refine Xah 22 _ rfl (by kernel_rfl) ?_);first|(refine⟨_,_,rfl,LAA.out,?_⟩)|(refine⟨_,_,rfl,LAB.out,?_⟩)|(refine⟨_,_,rfl,LPA.out,?_⟩)|(refine⟨_,_,rfl,LPB.out,?_⟩))
   |((with_reducible refine Xaj 22 _ _ rfl (by kernel_rfl) Xbj ?_);first|(refine⟨_,_,_,rfl,rfl,EA.out _,?_⟩;rw[decide_eq_true h1])|(refine⟨_,_,_,rfl,rfl,EP.out _,?_⟩;skip))
   |((with_reducible refine Xah 26 _ rfl (by kernel_rfl) ?_);first|(refine⟨_,_,rfl,LSA.out,?_⟩)|(refine⟨_,_,rfl,LSB.out,?_⟩))
   |((with_reducible refine Xaj 26 _ _ rfl (by kernel_rfl) Xbw ?_);refine⟨_,_,_,rfl,rfl,ES.out _,?_⟩;skip))
  go_ret
  exact⟨by rw[show decide (a.p=b.p)=false from decide_eq_false (fun e=>n2 (by have:=PQ.out.1 e;exact this.2.2.1))];rfl,B0.out⟩
 by_cases h3:a.subject=b.subject
 case neg=>
  have n3:=h3
  clear h3
  have e0:=toList_eq h0
  have e2:=Xay h2
  have e3:=Xdq n3
  have ca0:=(CA.out _ D0.out).at (Xe6 a _ _)
  have cb0:=(CC.out _ D0.out).at (Xe6 b _ _)
  have ca17:=(CA.out _ D0.out).at (Xcn OA.out _ _)
  have cb17:=(CC.out _ D0.out).at (Xcn OB.out _ _)
  have ca19:=(CA.out _ D0.out).at (Xct OA.out _ _)
  have cb19:=(CC.out _ D0.out).at (Xct OB.out _ _)
  go_wp2_with (first
   |((with_reducible refine Xah 22 _ rfl (by kernel_rfl) ?_);first|(refine⟨_,_,rfl,LAA.out,?_⟩)|(refine⟨_,_,rfl,LAB.out,?_⟩)|(refine⟨_,_,rfl,LPA.out,?_⟩)|(refine⟨_,_,rfl,LPB.out,?_⟩))
   |((with_reducible refine Xaj 22 _ _ rfl (by kernel_rfl) Xbj ?_);first|(refine⟨_,_,_,rfl,rfl,EA.out _,?_⟩;rw[decide_eq_true h1])|(refine⟨_,_,_,rfl,rfl,EP.out _,?_⟩;skip))
   |((with_reducible refine Xah 26 _ rfl (by kernel_rfl) ?_);first|(refine⟨_,_,rfl,LSA.out,?_⟩)|(refine⟨_,_,rfl,LSB.out,?_⟩))
   |((with_reducible refine Xaj 26 _ _ rfl (by kernel_rfl) Xbw ?_);refine⟨_,_,_,rfl,rfl,ES.out _,?_⟩;skip))
  go_ret
  exact⟨by rw[show decide (a.p=b.p)=false from decide_eq_false (fun e=>n3 (by have:=PQ.out.1 e;exact this.2.2.2.1))];rfl,B0.out⟩
 by_cases h4:a.sup=b.sup
 case neg=>
  have n4:=h4
  clear h4
  have e0:=toList_eq h0
  have e2:=Xay h2
  have e3:=toList_eq h3
  have ca0:=(CA.out _ D0.out).at (Xe6 a _ _)
  have cb0:=(CC.out _ D0.out).at (Xe6 b _ _)
  have ca17:=(CA.out _ D0.out).at (Xcn OA.out _ _)
  have cb17:=(CC.out _ D0.out).at (Xcn OB.out _ _)
  have ca19:=(CA.out _ D0.out).at (Xct OA.out _ _)
  have cb19:=(CC.out _ D0.out).at (Xct OB.out _ _)
  go_wp2_with (first
   |((with_reducible refine Xah 22 _ rfl (by kernel_rfl) ?_);first|(refine⟨_,_,rfl,LAA.out,?_⟩)|(refine⟨_,_,rfl,LAB.out,?_⟩)|(refine⟨_,_,rfl,LPA.out,?_⟩)|(refine⟨_,_,rfl,LPB.out,?_⟩))
   |((with_reducible refine Xaj 22 _ _ rfl (by kernel_rfl) Xbj ?_);first|(refine⟨_,_,_,rfl,rfl,EA.out _,?_⟩;rw[decide_eq_true h1])|(refine⟨_,_,_,rfl,rfl,EP.out _,?_⟩;skip))
   |((with_reducible refine Xah 26 _ rfl (by kernel_rfl) ?_);first|(refine⟨_,_,rfl,LSA.out,?_⟩)|(refine⟨_,_,rfl,LSB.out,?_⟩))
   |((with_reducible refine Xaj 26 _ _ rfl (by kernel_rfl) Xbw ?_);refine⟨_,_,_,rfl,rfl,ES.out _,?_⟩;rw[decide_eq_false n4]))
  go_ret
  exact⟨by rw[show decide (a.p=b.p)=false from decide_eq_false (fun e=>n4 (by have:=PQ.out.1 e;exact this.2.2.2.2.1))];rfl,B0.out⟩
 by_cases h5:a.ctl=b.ctl
 case neg=>
  have n5:=h5
  clear h5
  have e0:=toList_eq h0
  have e2:=Xay h2
  have e3:=toList_eq h3
  have e5:=Xdq n5
  have ca0:=(CA.out _ D0.out).at (Xe6 a _ _)
  have cb0:=(CC.out _ D0.out).at (Xe6 b _ _)
  have ca17:=(CA.out _ D0.out).at (Xcn OA.out _ _)
  have cb17:=(CC.out _ D0.out).at (Xcn OB.out _ _)
  have ca19:=(CA.out _ D0.out).at (Xct OA.out _ _)
  have cb19:=(CC.out _ D0.out).at (Xct OB.out _ _)
  have ca53:=(CA.out _ D0.out).at (Xc8 OA.out _ _)
  have cb53:=(CC.out _ D0.out).at (Xc8 OB.out _ _)
  go_wp2_with (first
   |((with_reducible refine Xah 22 _ rfl (by kernel_rfl) ?_);first|(refine⟨_,_,rfl,LAA.out,?_⟩)|(refine⟨_,_,rfl,LAB.out,?_⟩)|(refine⟨_,_,rfl,LPA.out,?_⟩)|(refine⟨_,_,rfl,LPB.out,?_⟩))
   |((with_reducible refine Xaj 22 _ _ rfl (by kernel_rfl) Xbj ?_);first|(refine⟨_,_,_,rfl,rfl,EA.out _,?_⟩;rw[decide_eq_true h1])|(refine⟨_,_,_,rfl,rfl,EP.out _,?_⟩;skip))
   |((with_reducible refine Xah 26 _ rfl (by kernel_rfl) ?_);first|(refine⟨_,_,rfl,LSA.out,?_⟩)|(refine⟨_,_,rfl,LSB.out,?_⟩))
   |((with_reducible refine Xaj 26 _ _ rfl (by kernel_rfl) Xbw ?_);refine⟨_,_,_,rfl,rfl,ES.out _,?_⟩;rw[decide_eq_true h4]))
  go_ret
  exact⟨by rw[show decide (a.p=b.p)=false from decide_eq_false (fun e=>n5 (by have:=PQ.out.1 e;exact this.2.2.2.2.2.1))];rfl,B0.out⟩
 by_cases h6:a.dist=b.dist
 case neg=>
  have n6:=h6
  clear h6
  have e0:=toList_eq h0
  have e2:=Xay h2
  have e3:=toList_eq h3
  have e5:=toList_eq h5
  have e6:=Xdq n6
  have ca0:=(CA.out _ D0.out).at (Xe6 a _ _)
  have cb0:=(CC.out _ D0.out).at (Xe6 b _ _)
  have ca17:=(CA.out _ D0.out).at (Xcn OA.out _ _)
  have cb17:=(CC.out _ D0.out).at (Xcn OB.out _ _)
  have ca19:=(CA.out _ D0.out).at (Xct OA.out _ _)
  have cb19:=(CC.out _ D0.out).at (Xct OB.out _ _)
  have ca53:=(CA.out _ D0.out).at (Xc8 OA.out _ _)
  have cb53:=(CC.out _ D0.out).at (Xc8 OB.out _ _)
  have ca54:=(CA.out _ D0.out).at (Xdn OA.out _ _)
  have cb54:=(CC.out _ D0.out).at (Xdn OB.out _ _)
  go_wp2_with (first
   |((with_reducible refine Xah 22 _ rfl (by kernel_rfl) ?_);first|(refine⟨_,_,rfl,LAA.out,?_⟩)|(refine⟨_,_,rfl,LAB.out,?_⟩)|(refine⟨_,_,rfl,LPA.out,?_⟩)|(refine⟨_,_,rfl,LPB.out,?_⟩))
   |((with_reducible refine Xaj 22 _ _ rfl (by kernel_rfl) Xbj ?_);first|(refine⟨_,_,_,rfl,rfl,EA.out _,?_⟩;rw[decide_eq_true h1])|(refine⟨_,_,_,rfl,rfl,EP.out _,?_⟩;skip))
   |((with_reducible refine Xah 26 _ rfl (by kernel_rfl) ?_);first|(refine⟨_,_,rfl,LSA.out,?_⟩)|(refine⟨_,_,rfl,LSB.out,?_⟩))
   |((with_reducible refine Xaj 26 _ _ rfl (by kernel_rfl) Xbw ?_);refine⟨_,_,_,rfl,rfl,ES.out _,?_⟩;rw[decide_eq_true h4]))
  go_ret
  exact⟨by rw[show decide (a.p=b.p)=false from decide_eq_false (fun e=>n6 (by have:=PQ.out.1 e;exact this.2.2.2.2.2.2.1))];rfl,B0.out⟩
 by_cases h7:a.number=b.number
 case neg=>
  have n7:=h7
  clear h7
  have e0:=toList_eq h0
  have e2:=Xay h2
  have e3:=toList_eq h3
  have e5:=toList_eq h5
  have e6:=toList_eq h6
  have e7:=Xft n7
  have ca0:=(CA.out _ D0.out).at (Xe6 a _ _)
  have cb0:=(CC.out _ D0.out).at (Xe6 b _ _)
  have ca17:=(CA.out _ D0.out).at (Xcn OA.out _ _)
  have cb17:=(CC.out _ D0.out).at (Xcn OB.out _ _)
  have ca19:=(CA.out _ D0.out).at (Xct OA.out _ _)
  have cb19:=(CC.out _ D0.out).at (Xct OB.out _ _)
  have ca53:=(CA.out _ D0.out).at (Xc8 OA.out _ _)
  have cb53:=(CC.out _ D0.out).at (Xc8 OB.out _ _)
  have ca54:=(CA.out _ D0.out).at (Xdn OA.out _ _)
  have cb54:=(CC.out _ D0.out).at (Xdn OB.out _ _)
  have ca55:=(CA.out _ D0.out).at (Xdy OA.out _ _)
  have cb55:=(CC.out _ D0.out).at (Xdy OB.out _ _)
  go_wp2_with (first
   |((with_reducible refine Xah 22 _ rfl (by kernel_rfl) ?_);first|(refine⟨_,_,rfl,LAA.out,?_⟩)|(refine⟨_,_,rfl,LAB.out,?_⟩)|(refine⟨_,_,rfl,LPA.out,?_⟩)|(refine⟨_,_,rfl,LPB.out,?_⟩))
   |((with_reducible refine Xaj 22 _ _ rfl (by kernel_rfl) Xbj ?_);first|(refine⟨_,_,_,rfl,rfl,EA.out _,?_⟩;rw[decide_eq_true h1])|(refine⟨_,_,_,rfl,rfl,EP.out _,?_⟩;skip))
   |((with_reducible refine Xah 26 _ rfl (by kernel_rfl) ?_);first|(refine⟨_,_,rfl,LSA.out,?_⟩)|(refine⟨_,_,rfl,LSB.out,?_⟩))
   |((with_reducible refine Xaj 26 _ _ rfl (by kernel_rfl) Xbw ?_);refine⟨_,_,_,rfl,rfl,ES.out _,?_⟩;rw[decide_eq_true h4]))
  go_ret
  exact⟨by rw[show decide (a.p=b.p)=false from decide_eq_false (fun e=>n7 (by have:=PQ.out.1 e;exact this.2.2.2.2.2.2.2.1))];rfl,B0.out⟩
 by_cases h8:a.height=b.height
 case neg=>
  have n8:=h8
  clear h8
  have e0:=toList_eq h0
  have e2:=Xay h2
  have e3:=toList_eq h3
  have e5:=toList_eq h5
  have e6:=toList_eq h6
  have e7:=Xay h7
  have e8:=Xft n8
  have ca0:=(CA.out _ D0.out).at (Xe6 a _ _)
  have cb0:=(CC.out _ D0.out).at (Xe6 b _ _)
  have ca17:=(CA.out _ D0.out).at (Xcn OA.out _ _)
  have cb17:=(CC.out _ D0.out).at (Xcn OB.out _ _)
  have ca19:=(CA.out _ D0.out).at (Xct OA.out _ _)
  have cb19:=(CC.out _ D0.out).at (Xct OB.out _ _)
  have ca53:=(CA.out _ D0.out).at (Xc8 OA.out _ _)
  have cb53:=(CC.out _ D0.out).at (Xc8 OB.out _ _)
  have ca54:=(CA.out _ D0.out).at (Xdn OA.out _ _)
  have cb54:=(CC.out _ D0.out).at (Xdn OB.out _ _)
  have ca55:=(CA.out _ D0.out).at (Xdy OA.out _ _)
  have cb55:=(CC.out _ D0.out).at (Xdy OB.out _ _)
  have ca56:=(CA.out _ D0.out).at (Xe3 OA.out _ _)
  have cb56:=(CC.out _ D0.out).at (Xe3 OB.out _ _)
  go_wp2_with (first
   |((with_reducible refine Xah 22 _ rfl (by kernel_rfl) ?_);first|(refine⟨_,_,rfl,LAA.out,?_⟩)|(refine⟨_,_,rfl,LAB.out,?_⟩)|(refine⟨_,_,rfl,LPA.out,?_⟩)|(refine⟨_,_,rfl,LPB.out,?_⟩))
   |((with_reducible refine Xaj 22 _ _ rfl (by kernel_rfl) Xbj ?_);first|(refine⟨_,_,_,rfl,rfl,EA.out _,?_⟩;rw[decide_eq_true h1])|(refine⟨_,_,_,rfl,rfl,EP.out _,?_⟩;skip))
   |((with_reducible refine Xah 26 _ rfl (by kernel_rfl) ?_);first|(refine⟨_,_,rfl,LSA.out,?_⟩)|(refine⟨_,_,rfl,LSB.out,?_⟩))
   |((with_reducible refine Xaj 26 _ _ rfl (by kernel_rfl) Xbw ?_);refine⟨_,_,_,rfl,rfl,ES.out _,?_⟩;rw[decide_eq_true h4]))
  go_ret
  exact⟨by rw[show decide (a.p=b.p)=false from decide_eq_false (fun e=>n8 (by have:=PQ.out.1 e;exact this.2.2.2.2.2.2.2.2.1))];rfl,B0.out⟩
 by_cases h9:a.root=b.root
 case neg=>
  have n9:=h9
  clear h9
  have e0:=toList_eq h0
  have e2:=Xay h2
  have e3:=toList_eq h3
  have e5:=toList_eq h5
  have e6:=toList_eq h6
  have e7:=Xay h7
  have e8:=Xay h8
  have ca0:=(CA.out _ D0.out).at (Xe6 a _ _)
  have cb0:=(CC.out _ D0.out).at (Xe6 b _ _)
  have ca17:=(CA.out _ D0.out).at (Xcn OA.out _ _)
  have cb17:=(CC.out _ D0.out).at (Xcn OB.out _ _)
  have ca19:=(CA.out _ D0.out).at (Xct OA.out _ _)
  have cb19:=(CC.out _ D0.out).at (Xct OB.out _ _)
  have ca53:=(CA.out _ D0.out).at (Xc8 OA.out _ _)
  have cb53:=(CC.out _ D0.out).at (Xc8 OB.out _ _)
  have ca54:=(CA.out _ D0.out).at (Xdn OA.out _ _)
  have cb54:=(CC.out _ D0.out).at (Xdn OB.out _ _)
  have ca55:=(CA.out _ D0.out).at (Xdy OA.out _ _)
  have cb55:=(CC.out _ D0.out).at (Xdy OB.out _ _)
  have ca56:=(CA.out _ D0.out).at (Xe3 OA.out _ _)
  have cb56:=(CC.out _ D0.out).at (Xe3 OB.out _ _)
  go_wp2_with (first
   |((with_reducible refine Xah 22 _ rfl (by kernel_rfl) ?_);first|(refine⟨_,_,rfl,LAA.out,?_⟩)|(refine⟨_,_,rfl,LAB.out,?_⟩)|(refine⟨_,_,rfl,LPA.out,?_⟩)|(refine⟨_,_,rfl,LPB.out,?_⟩))
   |((with_reducible refine Xaj 22 _ _ rfl (by kernel_rfl) Xbj ?_);first|(refine⟨_,_,_,rfl,rfl,EA.out _,?_⟩;rw[decide_eq_true h1])|(refine⟨_,_,_,rfl,rfl,EP.out _,?_⟩;rw[decide_eq_false n9]))
   |((with_reducible refine Xah 26 _ rfl (by kernel_rfl) ?_);first|(refine⟨_,_,rfl,LSA.out,?_⟩)|(refine⟨_,_,rfl,LSB.out,?_⟩))
   |((with_reducible refine Xaj 26 _ _ rfl (by kernel_rfl) Xbw ?_);refine⟨_,_,_,rfl,rfl,ES.out _,?_⟩;rw[decide_eq_true h4]))
  go_ret
  exact⟨by rw[show decide (a.p=b.p)=false from decide_eq_false (fun e=>n9 (by have:=PQ.out.1 e;exact this.2.2.2.2.2.2.2.2.2.1))];rfl,B0.out⟩
 by_cases h10:a.leaf=b.leaf
 case neg=>
  have n10:=h10
  clear h10
  have e0:=toList_eq h0
  have e2:=Xay h2
  have e3:=toList_eq h3
  have e5:=toList_eq h5
  have e6:=toList_eq h6
  have e7:=Xay h7
  have e8:=Xay h8
  have e10:=Xft n10
  have ca0:=(CA.out _ D0.out).at (Xe6 a _ _)
  have cb0:=(CC.out _ D0.out).at (Xe6 b _ _)
  have ca17:=(CA.out _ D0.out).at (Xcn OA.out _ _)
  have cb17:=(CC.out _ D0.out).at (Xcn OB.out _ _)
  have ca19:=(CA.out _ D0.out).at (Xct OA.out _ _)
  have cb19:=(CC.out _ D0.out).at (Xct OB.out _ _)
  have ca53:=(CA.out _ D0.out).at (Xc8 OA.out _ _)
  have cb53:=(CC.out _ D0.out).at (Xc8 OB.out _ _)
  have ca54:=(CA.out _ D0.out).at (Xdn OA.out _ _)
  have cb54:=(CC.out _ D0.out).at (Xdn OB.out _ _)
  have ca55:=(CA.out _ D0.out).at (Xdy OA.out _ _)
  have cb55:=(CC.out _ D0.out).at (Xdy OB.out _ _)
  have ca56:=(CA.out _ D0.out).at (Xe3 OA.out _ _)
  have cb56:=(CC.out _ D0.out).at (Xe3 OB.out _ _)
  have ca73:=(CA.out _ D0.out).at (Xev OA.out _ _)
  have cb73:=(CC.out _ D0.out).at (Xev OB.out _ _)
  go_wp2_with (first
   |((with_reducible refine Xah 22 _ rfl (by kernel_rfl) ?_);first|(refine⟨_,_,rfl,LAA.out,?_⟩)|(refine⟨_,_,rfl,LAB.out,?_⟩)|(refine⟨_,_,rfl,LPA.out,?_⟩)|(refine⟨_,_,rfl,LPB.out,?_⟩))
   |((with_reducible refine Xaj 22 _ _ rfl (by kernel_rfl) Xbj ?_);first|(refine⟨_,_,_,rfl,rfl,EA.out _,?_⟩;rw[decide_eq_true h1])|(refine⟨_,_,_,rfl,rfl,EP.out _,?_⟩;rw[decide_eq_true h9]))
   |((with_reducible refine Xah 26 _ rfl (by kernel_rfl) ?_);first|(refine⟨_,_,rfl,LSA.out,?_⟩)|(refine⟨_,_,rfl,LSB.out,?_⟩))
   |((with_reducible refine Xaj 26 _ _ rfl (by kernel_rfl) Xbw ?_);refine⟨_,_,_,rfl,rfl,ES.out _,?_⟩;rw[decide_eq_true h4]))
  go_ret
  exact⟨by rw[show decide (a.p=b.p)=false from decide_eq_false (fun e=>n10 (by have:=PQ.out.1 e;exact this.2.2.2.2.2.2.2.2.2.2.1))];rfl,B0.out⟩
 by_cases h11:a.body=b.body
 case neg=>
  have n11:=h11
  clear h11
  have e0:=toList_eq h0
  have e2:=Xay h2
  have e3:=toList_eq h3
  have e5:=toList_eq h5
  have e6:=toList_eq h6
  have e7:=Xay h7
  have e8:=Xay h8
  have e10:=Xay h10
  have e11:=Xdq n11
  have ca0:=(CA.out _ D0.out).at (Xe6 a _ _)
  have cb0:=(CC.out _ D0.out).at (Xe6 b _ _)
  have ca17:=(CA.out _ D0.out).at (Xcn OA.out _ _)
  have cb17:=(CC.out _ D0.out).at (Xcn OB.out _ _)
  have ca19:=(CA.out _ D0.out).at (Xct OA.out _ _)
  have cb19:=(CC.out _ D0.out).at (Xct OB.out _ _)
  have ca53:=(CA.out _ D0.out).at (Xc8 OA.out _ _)
  have cb53:=(CC.out _ D0.out).at (Xc8 OB.out _ _)
  have ca54:=(CA.out _ D0.out).at (Xdn OA.out _ _)
  have cb54:=(CC.out _ D0.out).at (Xdn OB.out _ _)
  have ca55:=(CA.out _ D0.out).at (Xdy OA.out _ _)
  have cb55:=(CC.out _ D0.out).at (Xdy OB.out _ _)
  have ca56:=(CA.out _ D0.out).at (Xe3 OA.out _ _)
  have cb56:=(CC.out _ D0.out).at (Xe3 OB.out _ _)
  have ca73:=(CA.out _ D0.out).at (Xev OA.out _ _)
  have cb73:=(CC.out _ D0.out).at (Xev OB.out _ _)
  have ca74:=(CA.out _ D0.out).at (Xgu OA.out _ _)
  have cb74:=(CC.out _ D0.out).at (Xgu OB.out _ _)
  go_wp2_with (first
   |((with_reducible refine Xah 22 _ rfl (by kernel_rfl) ?_);first|(refine⟨_,_,rfl,LAA.out,?_⟩)|(refine⟨_,_,rfl,LAB.out,?_⟩)|(refine⟨_,_,rfl,LPA.out,?_⟩)|(refine⟨_,_,rfl,LPB.out,?_⟩))
   |((with_reducible refine Xaj 22 _ _ rfl (by kernel_rfl) Xbj ?_);first|(refine⟨_,_,_,rfl,rfl,EA.out _,?_⟩;rw[decide_eq_true h1])|(refine⟨_,_,_,rfl,rfl,EP.out _,?_⟩;rw[decide_eq_true h9]))
   |((with_reducible refine Xah 26 _ rfl (by kernel_rfl) ?_);first|(refine⟨_,_,rfl,LSA.out,?_⟩)|(refine⟨_,_,rfl,LSB.out,?_⟩))
   |((with_reducible refine Xaj 26 _ _ rfl (by kernel_rfl) Xbw ?_);refine⟨_,_,_,rfl,rfl,ES.out _,?_⟩;rw[decide_eq_true h4]))
  go_ret
  exact⟨by rw[show decide (a.p=b.p)=false from decide_eq_false (fun e=>n11 (by have:=PQ.out.1 e;exact this.2.2.2.2.2.2.2.2.2.2.2.1))];rfl,B0.out⟩
 by_cases h12:n1=n2
 case neg=>
  have n12:=h12
  clear h12
  have e0:=toList_eq h0
  have e2:=Xay h2
  have e3:=toList_eq h3
  have e5:=toList_eq h5
  have e6:=toList_eq h6
  have e7:=Xay h7
  have e8:=Xay h8
  have e10:=Xay h10
  have e11:=toList_eq h11
  have e12:(((n1:Nat):Int) !=((n2:Nat):Int))=true:=Xft (by omega)
  have ca0:=(CA.out _ D0.out).at (Xe6 a _ _)
  have cb0:=(CC.out _ D0.out).at (Xe6 b _ _)
  have ca17:=(CA.out _ D0.out).at (Xcn OA.out _ _)
  have cb17:=(CC.out _ D0.out).at (Xcn OB.out _ _)
  have ca19:=(CA.out _ D0.out).at (Xct OA.out _ _)
  have cb19:=(CC.out _ D0.out).at (Xct OB.out _ _)
  have ca53:=(CA.out _ D0.out).at (Xc8 OA.out _ _)
  have cb53:=(CC.out _ D0.out).at (Xc8 OB.out _ _)
  have ca54:=(CA.out _ D0.out).at (Xdn OA.out _ _)
  have cb54:=(CC.out _ D0.out).at (Xdn OB.out _ _)
  have ca55:=(CA.out _ D0.out).at (Xdy OA.out _ _)
  have cb55:=(CC.out _ D0.out).at (Xdy OB.out _ _)
  have ca56:=(CA.out _ D0.out).at (Xe3 OA.out _ _)
  have cb56:=(CC.out _ D0.out).at (Xe3 OB.out _ _)
  have ca73:=(CA.out _ D0.out).at (Xev OA.out _ _)
  have cb73:=(CC.out _ D0.out).at (Xev OB.out _ _)
  have ca74:=(CA.out _ D0.out).at (Xgu OA.out _ _)
  have cb74:=(CC.out _ D0.out).at (Xgu OB.out _ _)
  have ca18:=(CA.out _ D0.out).at (Xgv OA.out _ _)
  have cb18:=(CC.out _ D0.out).at (Xgv OB.out _ _)
  go_wp2_with (first
   |((with_reducible refine Xah 22 _ rfl (by kernel_rfl) ?_);first|(refine⟨_,_,rfl,LAA.out,?_⟩)|(refine⟨_,_,rfl,LAB.out,?_⟩)|(refine⟨_,_,rfl,LPA.out,?_⟩)|(refine⟨_,_,rfl,LPB.out,?_⟩))
   |((with_reducible refine Xaj 22 _ _ rfl (by kernel_rfl) Xbj ?_);first|(refine⟨_,_,_,rfl,rfl,EA.out _,?_⟩;rw[decide_eq_true h1])|(refine⟨_,_,_,rfl,rfl,EP.out _,?_⟩;rw[decide_eq_true h9]))
   |((with_reducible refine Xah 26 _ rfl (by kernel_rfl) ?_);first|(refine⟨_,_,rfl,LSA.out,?_⟩)|(refine⟨_,_,rfl,LSB.out,?_⟩))
   |((with_reducible refine Xaj 26 _ _ rfl (by kernel_rfl) Xbw ?_);refine⟨_,_,_,rfl,rfl,ES.out _,?_⟩;rw[decide_eq_true h4]))
  go_ret
  exact⟨by rw[show decide (a.p=b.p)=false from decide_eq_false (fun e=>n12 (by have:=PQ.out.1 e;rw[HN1.out,HN2.out,this.2.2.2.2.2.2.2.2.2.2.2.2.1]))];rfl,B0.out⟩
 by_cases h13:m1=m2
 case neg=>
  have n13:=h13
  clear h13
  have e0:=toList_eq h0
  have e2:=Xay h2
  have e3:=toList_eq h3
  have e5:=toList_eq h5
  have e6:=toList_eq h6
  have e7:=Xay h7
  have e8:=Xay h8
  have e10:=Xay h10
  have e11:=toList_eq h11
  have e12:(((n1:Nat):Int) !=((n2:Nat):Int))=false:=Xay (by omega)
  have e13:(((m1:Nat):Int) !=((m2:Nat):Int))=true:=Xft (by omega)
  have ca0:=(CA.out _ D0.out).at (Xe6 a _ _)
  have cb0:=(CC.out _ D0.out).at (Xe6 b _ _)
  have ca17:=(CA.out _ D0.out).at (Xcn OA.out _ _)
  have cb17:=(CC.out _ D0.out).at (Xcn OB.out _ _)
  have ca19:=(CA.out _ D0.out).at (Xct OA.out _ _)
  have cb19:=(CC.out _ D0.out).at (Xct OB.out _ _)
  have ca53:=(CA.out _ D0.out).at (Xc8 OA.out _ _)
  have cb53:=(CC.out _ D0.out).at (Xc8 OB.out _ _)
  have ca54:=(CA.out _ D0.out).at (Xdn OA.out _ _)
  have cb54:=(CC.out _ D0.out).at (Xdn OB.out _ _)
  have ca55:=(CA.out _ D0.out).at (Xdy OA.out _ _)
  have cb55:=(CC.out _ D0.out).at (Xdy OB.out _ _)
  have ca56:=(CA.out _ D0.out).at (Xe3 OA.out _ _)
  have cb56:=(CC.out _ D0.out).at (Xe3 OB.out _ _)
  have ca73:=(CA.out _ D0.out).at (Xev OA.out _ _)
  have cb73:=(CC.out _ D0.out).at (Xev OB.out _ _)
  have ca74:=(CA.out _ D0.out).at (Xgu OA.out _ _)
  have cb74:=(CC.out _ D0.out).at (Xgu OB.out _ _)
  have ca18:=(CA.out _ D0.out).at (Xgv OA.out _ _)
  have cb18:=(CC.out _ D0.out).at (Xgv OB.out _ _)
  have ca20:=(CA.out _ D0.out).at (Xhz OA.out _ _)
  have cb20:=(CC.out _ D0.out).at (Xhz OB.out _ _)
  go_wp2_with (first
   |((with_reducible refine Xah 22 _ rfl (by kernel_rfl) ?_);first|(refine⟨_,_,rfl,LAA.out,?_⟩)|(refine⟨_,_,rfl,LAB.out,?_⟩)|(refine⟨_,_,rfl,LPA.out,?_⟩)|(refine⟨_,_,rfl,LPB.out,?_⟩))
   |((with_reducible refine Xaj 22 _ _ rfl (by kernel_rfl) Xbj ?_);first|(refine⟨_,_,_,rfl,rfl,EA.out _,?_⟩;rw[decide_eq_true h1])|(refine⟨_,_,_,rfl,rfl,EP.out _,?_⟩;rw[decide_eq_true h9]))
   |((with_reducible refine Xah 26 _ rfl (by kernel_rfl) ?_);first|(refine⟨_,_,rfl,LSA.out,?_⟩)|(refine⟨_,_,rfl,LSB.out,?_⟩))
   |((with_reducible refine Xaj 26 _ _ rfl (by kernel_rfl) Xbw ?_);refine⟨_,_,_,rfl,rfl,ES.out _,?_⟩;rw[decide_eq_true h4]))
  go_ret
  exact⟨by rw[show decide (a.p=b.p)=false from decide_eq_false (fun e=>n13 (by have:=PQ.out.1 e;rw[HM1.out,HM2.out,this.2.2.2.2.2.2.2.2.2.2.2.2.2]))];rfl,B0.out⟩
 have e0:=toList_eq h0
 have e2:=Xay h2
 have e3:=toList_eq h3
 have e5:=toList_eq h5
 have e6:=toList_eq h6
 have e7:=Xay h7
 have e8:=Xay h8
 have e10:=Xay h10
 have e11:=toList_eq h11
 have e12:(((n1:Nat):Int) !=((n2:Nat):Int))=false:=Xay (by omega)
 have e13:(((m1:Nat):Int) !=((m2:Nat):Int))=false:=Xay (by omega)
 have ca0:=(CA.out _ D0.out).at (Xe6 a _ _)
 have cb0:=(CC.out _ D0.out).at (Xe6 b _ _)
 have ca17:=(CA.out _ D0.out).at (Xcn OA.out _ _)
 have cb17:=(CC.out _ D0.out).at (Xcn OB.out _ _)
 have ca19:=(CA.out _ D0.out).at (Xct OA.out _ _)
 have cb19:=(CC.out _ D0.out).at (Xct OB.out _ _)
 have ca53:=(CA.out _ D0.out).at (Xc8 OA.out _ _)
 have cb53:=(CC.out _ D0.out).at (Xc8 OB.out _ _)
 have ca54:=(CA.out _ D0.out).at (Xdn OA.out _ _)
 have cb54:=(CC.out _ D0.out).at (Xdn OB.out _ _)
 have ca55:=(CA.out _ D0.out).at (Xdy OA.out _ _)
 have cb55:=(CC.out _ D0.out).at (Xdy OB.out _ _)
 have ca56:=(CA.out _ D0.out).at (Xe3 OA.out _ _)
 have cb56:=(CC.out _ D0.out).at (Xe3 OB.out _ _)
 have ca73:=(CA.out _ D0.out).at (Xev OA.out _ _)
 have cb73:=(CC.out _ D0.out).at (Xev OB.out _ _)
 have ca74:=(CA.out _ D0.out).at (Xgu OA.out _ _)
 have cb74:=(CC.out _ D0.out).at (Xgu OB.out _ _)
 have ca18:=(CA.out _ D0.out).at (Xgv OA.out _ _)
 have cb18:=(CC.out _ D0.out).at (Xgv OB.out _ _)
 have ca20:=(CA.out _ D0.out).at (Xhz OA.out _ _)
 have cb20:=(CC.out _ D0.out).at (Xhz OB.out _ _)
 go_upto_region 3 with(first
     |((with_reducible refine Xah 22 _ rfl (by kernel_rfl) ?_);first|(refine⟨_,_,rfl,LAA.out,?_⟩)|(refine⟨_,_,rfl,LAB.out,?_⟩)|(refine⟨_,_,rfl,LPA.out,?_⟩)|(refine⟨_,_,rfl,LPB.out,?_⟩))
     |((with_reducible refine Xaj 22 _ _ rfl (by kernel_rfl) Xbj ?_);first|(refine⟨_,_,_,rfl,rfl,EA.out _,?_⟩;rw[decide_eq_true h1])|(refine⟨_,_,_,rfl,rfl,EP.out _,?_⟩;rw[decide_eq_true h9]))
     |((with_reducible refine Xah 26 _ rfl (by kernel_rfl) ?_);first|(refine⟨_,_,rfl,LSA.out,?_⟩)|(refine⟨_,_,rfl,LSB.out,?_⟩))
     |((with_reducible refine Xaj 26 _ _ rfl (by kernel_rfl) Xbw ?_);refine⟨_,_,_,rfl,rfl,ES.out _,?_⟩;rw[decide_eq_true h4]))
 clear e0 e2 e3 e5 e6 e7 e8 e10 e11 e12 e13 ca0 cb0 ca17 cb17 ca19 cb19 ca53 cb53 ca54 cb54 ca55 cb55 ca56 cb56 ca73 cb73 ca74 cb74 ca18 cb18 ca20 cb20
 clear LAA LAB LSA LSB LPA LPB EA ES EP
 have HH:Hid (a.groups=b.groups→a.refs=b.refs→a.p=b.p):=Hd (fun e1 e2=>PQ.out.2 ⟨h0,h1,h2,h3,h4,h5,h6,h7,h8,h9,h10,h11,e1,e2⟩)
 clear h0 h1 h2 h3 h4 h5 h6 h7 h8 h9 h10 h11
 have H12:=Hd h12;have H13:=Hd h13
 clear h12 h13
 go_wp2_with fail
 go_loopg [5] n1 (fun k i wr=>∃j:Nat,j≤n1∧k=n1-j∧i=.int .i64 (j:Int)∧Hid (∀q (h:q<a.groups.length) (h':q<b.groups.length),q<j→a.groups[q]=b.groups[q])∧Hid (Dr w0 wr))
 case atStart=>exact⟨0,by omega,rfl,rfl,Hd (fun q _ _ hq=>by omega),D0⟩
 case round=>
  obtain⟨j,hj,rfl,rfl,hg,hdr⟩:=hrel
  have ca18:=(CA.out _ hdr.out).at (Xgv OA.out _ _)
  have cb18:=(CC.out _ hdr.out).at (Xgv OB.out _ _)
  by_cases hlt:j<n1
  ·have hl1:j<a.groups.length:=by rw[←HN1.out];exact hlt
   have hl2:j<b.groups.length:=by rw[←HN2.out,←H12.out];exact hlt
   obtain⟨b1,f1,rfl,_,q1⟩:=RXA.out (fun e=>by rw[e] at hl1;simp at hl1)
   obtain⟨b2,f2,rfl,_,q2⟩:=RXB.out (fun e=>by rw[e] at hl2;simp at hl2)
   have hlt2:j<n2:=by have:=H12.out;omega
   obtain⟨x1,hx1⟩:∃x,x=a.groups[j]:=⟨_,rfl⟩
   obtain⟨x2,hx2⟩:∃x,x=b.groups[j]:=⟨_,rfl⟩
   have k1:wr.cell? ⟨b1,f1+j,none⟩=some (.string x1):=by obtain⟨p,hp⟩:=hdr.out;rw[hp,hx1];exact q1 j hl1
   have k2:wr.cell? ⟨b2,f2+j,none⟩=some (.string x2):=by obtain⟨p,hp⟩:=hdr.out;rw[hp,hx2];exact q2 j hl2
   have HX1:=Hd hx1;have HX2:=Hd hx2
   clear hx1 hx2 q1 q2
   by_cases hx:x1=x2
   ·have G2:Hid (∀q (h:q<a.groups.length) (h':q<b.groups.length),q<j+1→a.groups[q]=b.groups[q]):=Hd (fun q h h' hq=>by
       by_cases e:q=j
       ·subst e;rw[←HX1.out,←HX2.out];exact hx
       ·exact hg.out q h h' (by omega))
    have e:=toList_eq hx
    clear HX1 HX2 hx hg hl1 hl2
    go_upto_region 6 with fail
    go_quiet (fail)
    go_wp2_with fail
    go_roundg (n1-(j+1))
    case measure=>omega
    case rel=>exact⟨j+1,by omega,rfl,by go_num,G2,Hd (Xk9 hdr.out ⟨nq,rfl⟩)⟩
   ·have NE:Hid (decide (a.p=b.p)=false):=Hd (decide_eq_false (fun e=>hx (by
       have e2:a.groups=b.groups:=(PQ.out.1 e).2.2.2.2.2.2.2.2.2.2.2.2.1
       rw[HX1.out,HX2.out]
       simp only[e2])))
    have e:=Xdq hx
    clear HX1 HX2 hx hg hl1 hl2
    go_upto_region 6 with fail
    go_quiet (fail)
    go_wp2_with fail
    go_ret
    exact⟨by rw[NE.out];rfl,B0.out.trans ((Dr.below (Xk9 hdr.out ⟨nq,rfl⟩)).mono B0.out.size)⟩
  ·obtain rfl:j=n1:=by omega
   have GE:Hid (a.groups=b.groups):=Hd (List.ext_getElem (by rw[←HN1.out,←HN2.out];exact H12.out) (fun q h h'=>hg.out q h h' (by rw[HN1.out];exact h)))
   clear hg
   go_wp2_with fail
   have D1:=hdr
   clear hdr ca18 cb18
   go_loopg [6] m1 (fun k i wq=>∃j:Nat,j≤m1∧k=m1-j∧i=.int .i64 (j:Int)∧Hid (∀q (h:q<a.refs.length) (h':q<b.refs.length),q<j→a.refs[q]=b.refs[q])∧Hid (Dr w0 wq))
   case atStart=>exact⟨0,by omega,rfl,rfl,Hd (fun q _ _ hq=>by omega),D1⟩
   case round=>
    clear D1
    obtain⟨j2,hj2,rfl,rfl,hg,hdr⟩:=hrel
    have ca20:=(CA.out _ hdr.out).at (Xhz OA.out _ _)
    have cb20:=(CC.out _ hdr.out).at (Xhz OB.out _ _)
    by_cases hlt2:j2<m1
    ·have hl1:j2<a.refs.length:=by rw[←HM1.out];exact hlt2
     have hl2:j2<b.refs.length:=by rw[←HM2.out,←H13.out];exact hlt2
     obtain⟨b1,f1,rfl,_,q1⟩:=RYA.out (fun e=>by rw[e] at hl1;simp at hl1)
     obtain⟨b2,f2,rfl,_,q2⟩:=RYB.out (fun e=>by rw[e] at hl2;simp at hl2)
     have hlt3:j2<m2:=by have:=H13.out;omega
     have ok1:=OA.out.refs _ (List.getElem_mem hl1)
     have ok2:=OB.out.refs _ (List.getElem_mem hl2)
     have CAQ:Hid (∀q,(wr.drewN q).cell? ⟨w.heap.size,20,none⟩=wr.cell? ⟨w.heap.size,20,none⟩):=Hd (fun q=>rfl)
     have LD1:Hid (∀q,(loadVar 26 ⟨b1,f1+j2*32,none⟩).run Tryz.prog (wr.drewN q)=.ok (.agg (idA a.refs[j2])) (wr.drewN q)):=Hd (fun q=>by
      obtain⟨p,hp⟩:=hdr.out
      rw[hp]
      exact Xai _ b1 (f1+j2*32) 26 _ _ Tryz.underlying26 rfl (by rw[Xag,ok1.len];exact Xbf) (fun k u hu=>q1 j2 hl1 k u hu))
     have LD2:Hid (∀q,(loadVar 26 ⟨b2,f2+j2*32,none⟩).run Tryz.prog (wr.drewN q)=.ok (.agg (idA b.refs[j2])) (wr.drewN q)):=Hd (fun q=>by
      obtain⟨p,hp⟩:=hdr.out
      rw[hp]
      exact Xai _ b2 (f2+j2*32) 26 _ _ Tryz.underlying26 rfl (by rw[Xag,ok2.len];exact Xbf) (fun k u hu=>q2 j2 hl2 k u hu))
     have EQ:Hid (∀w,(Op.equal 26 (.agg (idA a.refs[j2])) (.agg (idA b.refs[j2]))).run Tryz.prog w=.ok (decide (a.refs[j2]=b.refs[j2])) w):=Hd (fun w=>Xuw w ok1 ok2)
     obtain⟨x1,hx1⟩:∃x,x=idA a.refs[j2]:=⟨_,rfl⟩
     obtain⟨x2,hx2⟩:∃x,x=idA b.refs[j2]:=⟨_,rfl⟩
     obtain⟨r,hr⟩:∃r,r=decide (a.refs[j2]=b.refs[j2]):=⟨_,rfl⟩
     rw[←hx1] at LD1 EQ
     rw[←hx2] at LD2 EQ
     rw[←hr] at EQ
     have HR:=Hd hr
     clear hx1 hx2 hr ok1 ok2 q1 q2
     go_upto_region 11 with fail
     refine wp_region_quiet_lit (by kernel_rfl) (by kernel_rfl) ?_
     quiet_step (fail)
     quiet_step (fail)
     quiet_step (fail)
     quiet_step (fail)
     refine Xd5 26 rfl _ rfl ⟨_,.agg x1,rfl,?_,?_⟩
     ·rintro w2 ⟨q,rfl⟩
      exact LD1.out q
     quiet_step (fail)
     quiet_step (fail)
     quiet_step (fail)
     quiet_step (fail)
     refine Xd5 26 rfl _ rfl ⟨_,.agg x2,rfl,?_,?_⟩
     ·rintro w2 ⟨q,rfl⟩
      exact LD2.out q
     refine Xpl 26 rfl _ _ rfl Xbw ⟨_,_,_,rfl,rfl,EQ.out,?_⟩
     refine wpQuiet_nil ?_
     rintro _ ⟨nq,rfl⟩
     clear LD1 LD2 EQ
     cases r
     ·have NE:Hid (decide (a.p=b.p)=false):=Hd (decide_eq_false (fun e=>by
         have e2:a.refs=b.refs:=(PQ.out.1 e).2.2.2.2.2.2.2.2.2.2.2.2.2
         have:=of_decide_eq_false HR.out.symm
         exact this (by simp only[e2])))
      clear HR hl1 hl2
      go_wp2_with fail
      go_ret
      exact⟨by rw[NE.out];rfl,B0.out.trans ((Dr.below (Xk9 hdr.out ⟨nq,rfl⟩)).mono B0.out.size)⟩
     ·have G2:Hid (∀q (h:q<a.refs.length) (h':q<b.refs.length),q<j2+1→a.refs[q]=b.refs[q]):=Hd (fun q h h' hq=>by
         by_cases e:q=j2
         ·subst e;exact of_decide_eq_true HR.out.symm
         ·exact hg.out q h h' (by omega))
      clear HR hl1 hl2 hg
      go_wp2_with fail
      go_roundg (m1-(j2+1))
      case measure=>omega
      case rel=>exact⟨j2+1,by omega,rfl,by go_num,G2,Hd (Xk9 hdr.out ⟨nq,rfl⟩)⟩
    ·obtain rfl:j2=m1:=by omega
     have RE:Hid (a.refs=b.refs):=Hd (List.ext_getElem (by rw[←HM1.out,←HM2.out];exact H13.out) (fun q h h'=>hg.out q h h' (by rw[HM1.out];exact h)))
     have PE:Hid (decide (a.p=b.p)=true):=Hd (decide_eq_true (HH.out GE.out RE.out))
     clear hg
     go_wp2_with fail
     go_ret
     exact⟨by rw[PE.out];rfl,B0.out.trans ((Dr.below hdr.out).mono B0.out.size)⟩
theorem Xqr {P:Program} {o:Oper} {a:Act} {w:World} {v:Value} {t:TypeId} {ps:Array (Nat×Operand)} {vs:Array (Nat×Value)} (ho:o.op=.build t ps) (hv:ps.map (fun(i,x)=>(i,a.eval x))=vs) (h:(Instr.build t vs).run P w=.ok v w):(execOp a.eval o).run P w=.ok (.value v) w:=by
 subst hv
 exact Xcr ho h
theorem Xki {P:Program} {o:Oper} {a:Act} {w w':World} {s x:Operand} {t:TypeId} {v u v':Value} (ho:o.op=.call {callee:=.builtin .append,args:=#[s,x],argTypes:=#[t,t]}) (hs:a.eval s=v) (hx:a.eval x=u) (h:(Builtin.append_ #[t,t] o.type #[v,u]).run P w=.ok v' w'):(execOp a.eval o).run P w=.ok (.value v') w':=by
 unfold execOp
 simp only[ho,resolve,invoke,builtin,Sem.run_bind,Sem.run_pure,Result.andThen_ok,List.map_toArray,List.map_cons,List.map_nil,hs,hx,h]
theorem Xy8 (w:World) (nm su ct di bo:ByteArray) (da nu he le:Int) (ga ra:Option Addr) (gn gc rn rc:Nat):∀(au sp ro:List Value),au.length=16→sp.length=32→ro.length=16→
    (Instr.build 28 #[(0,.string nm),(1,.agg au.toArray),(2,.int .i64 da),(3,.slice ga gn gc),(4,.string su),(5,.slice ra rn rc),(6,.agg sp.toArray),(7,.string ct),(8,.string di),(9,.int .i64 nu),(10,.int .i64 he),(11,.agg ro.toArray),(12,.int .i64 le),(13,.string bo)]).run Tryz.prog w=
     .ok (.agg (([Value.string nm]:List Value)++(au++(([.int .i64 da,.slice ga gn gc,.string su,.slice ra rn rc]:List Value)++(sp++(([.string ct,.string di,.int .i64 nu,.int .i64 he]:List Value)++(ro++([.int .i64 le,.string bo]:List Value))))))).toArray) w
 |[a0,a1,a2,a3,a4,a5,a6,a7,a8,a9,a10,a11,a12,a13,a14,a15],[s0,s1,s2,s3,s4,s5,s6,s7,s8,s9,s10,s11,s12,s13,s14,s15,s16,s17,s18,s19,s20,s21,s22,s23,s24,s25,s26,s27,s28,s29,s30,s31],[r0,r1,r2,r3,r4,r5,r6,r7,r8,r9,r10,r11,r12,r13,r14,r15],_,_,_=>by kernel_rfl
theorem Yi6:cn0.cells (.slice none 0 0) (.slice none 0 0)=Tryz.zeroCells28:=by kernel_rfl
set_option maxHeartbeats 4000000 in
theorem Ycr (w:World) (c:Cn) (ok:c.Ok) (ga ra:Option Addr) (gn gc rn rc:Nat):
    Calls Tryz.prog 16 #[.agg (c.cells (.slice ga gn gc) (.slice ra rn rc))] w fun e w'=>e=.returned (.agg (c.cells (.slice ga gn gc) (.slice ra rn rc)))∧Below w.heap.size w w':=by
 obtain⟨zs,hzs⟩:∃zs,zs=cn0.cells (.slice none 0 0) (.slice none 0 0):=⟨_,rfl⟩
 have Z0:Hid (zs=Tryz.zeroCells28):=Hd (by rw[hzs];exact Yi6)
 obtain⟨w0,hw0⟩:∃w0,w0=(w.alloc (.cells (c.cells (.slice ga gn gc) (.slice ra rn rc)) 37)).alloc (.cells zs 28):=⟨_,rfl⟩
 have B0:Hid (Below w.heap.size w w0):=Hd (by rw[hw0];exact((Below.refl _ _).alloc (Nat.le_refl _) _).alloc (by simp) _)
 have C0:CB w0 w.heap.size c (.slice ga gn gc) (.slice ra rn rc) 37:=by unfold CB;rw[hw0];exact Xaf (heap_alloc_last w _)
 have R0:CB w0 (w.heap.size+1) cn0 (.slice none 0 0) (.slice none 0 0) 28:=by
  unfold CB;rw[hw0,←hzs];have:=heap_alloc_last (w.alloc (.cells (c.cells (.slice ga gn gc) (.slice ra rn rc)) 37)) (.cells zs 28);rw[World.size_alloc] at this;exact this
 obtain⟨au,hau⟩:∃s,s=idA c.author:=⟨_,rfl⟩
 obtain⟨sp,hsp⟩:∃s,s=idA c.sup:=⟨_,rfl⟩
 obtain⟨ro,hro⟩:∃s,s=idA c.root:=⟨_,rfl⟩
 obtain⟨cs,hcs⟩:∃cs,cs=c.cells (.slice ga gn gc) (.slice ra rn rc):=⟨_,rfl⟩
 have LDA:Hid ((loadVar 33 ⟨w.heap.size,1,none⟩).run Tryz.prog w0=.ok (.agg au) w0):=Hd (by rw[hau];exact C0.author ok)
 have LDS:Hid ((loadVar 26 ⟨w.heap.size,21,none⟩).run Tryz.prog w0=.ok (.agg sp) w0):=Hd (by rw[hsp];exact C0.sup ok)
 have LDR:Hid ((loadVar 22 ⟨w.heap.size,57,none⟩).run Tryz.prog w0=.ok (.agg ro) w0):=Hd (by rw[hro];exact C0.root16 ok)
 have BRC:Hid (∀w,(Instr.build 28 #[(0,.string c.name),(1,.agg au),(2,.int .i64 c.date),(3,.slice ga gn gc),(4,.string c.subject),(5,.slice ra rn rc),(6,.agg sp),(7,.string c.ctl),(8,.string c.dist),(9,.int .i64 c.number),(10,.int .i64 c.height),(11,.agg ro),(12,.int .i64 c.leaf),(13,.string c.body)]).run Tryz.prog w=.ok (.agg cs) w):=Hd (fun w=>by
  rw[hau,hsp,hro,hcs]
  exact Xy8 w c.name c.subject c.ctl c.dist c.body c.date c.number c.height c.leaf ga ra gn gc rn rc (c.author.map U) (c.sup.map U) (c.root.map U) (by simp[ok.author.len]) (by simp[ok.sup.len]) (by simp[ok.root.len]))
 have STR:=Hd (run_storeVar_row (P:=Tryz.prog) w0 (w.heap.size+1) _ 28 _ (c.cells (.slice ga gn gc) (.slice ra rn rc)) R0 (by rw[Xb1 ok];exact Xpt) (by rw[Xb1 ok,Xb1 Xkn]) (Xc0 c _ _ rfl rfl))
 have W5:=Hd (setRow_heap w0 (w.heap.size+1) _ (c.cells (.slice ga gn gc) (.slice ra rn rc)) _ _ R0)
 have FIN:=Hd (below_setRow B0.out (Nat.le_succ _) (c.cells (.slice ga gn gc) (.slice ra rn rc)))
 have SZ:Hid ((Tryz.prog.info? 28).map (·.size)=some (c.cells (.slice ga gn gc) (.slice ra rn rc)).size):=Hd (by rw[Xb1 ok];exact Xpt)
 have c0:=C0.at (Xe6 c (.slice ga gn gc) (.slice ra rn rc))
 have c17:=C0.at (Xcn ok (.slice ga gn gc) (.slice ra rn rc))
 have c18:=C0.at (Xgv ok (.slice ga gn gc) (.slice ra rn rc))
 have c19:=C0.at (Xct ok (.slice ga gn gc) (.slice ra rn rc))
 have c20:=C0.at (Xhz ok (.slice ga gn gc) (.slice ra rn rc))
 have c53:=C0.at (Xc8 ok (.slice ga gn gc) (.slice ra rn rc))
 have c54:=C0.at (Xdn ok (.slice ga gn gc) (.slice ra rn rc))
 have c55:=C0.at (Xdy ok (.slice ga gn gc) (.slice ra rn rc))
 have c56:=C0.at (Xe3 ok (.slice ga gn gc) (.slice ra rn rc))
 have c73:=C0.at (Xev ok (.slice ga gn gc) (.slice ra rn rc))
 have c74:=C0.at (Xgu ok (.slice ga gn gc) (.slice ra rn rc))
 rw[←hcs] at hw0 STR W5 FIN SZ⊢
 have HW:=Hd hw0
 clear hw0 hzs hcs hau hsp hro C0 R0 ok
 go_enter Tryz.func16,Tryz.ntmps16
 go_upto_region 1 with fail
 have W':=HW.out
 rw[Z0.out] at W'
 rw[←W']
 clear W' HW
 go_wp2_with (first
  |((with_reducible refine Xac 33 rfl _ rfl ?_);refine⟨_,_,rfl,LDA.out,?_⟩)
  |((with_reducible refine Xac 26 rfl _ rfl ?_);refine⟨_,_,rfl,LDS.out,?_⟩)
  |((with_reducible refine Xac 22 rfl _ rfl ?_);refine⟨_,_,rfl,LDR.out,?_⟩)
  |((with_reducible refine Xdi 28 rfl _ rfl ?_);refine⟨_,_,by kernel_rfl,BRC.out _,?_⟩)
  |((with_reducible refine Xab 28 rfl _ _ rfl ?_);refine⟨_,_,_,rfl,rfl,STR.out,?_⟩))
 exact bodyPost_ret (results_cell_row Tryz.results16 _ _ (w.heap.size+1) _ _ _ _ rfl W5.out Tryz.underlying28 rfl SZ.out) rfl ⟨rfl,FIN.out⟩
end Go.Proofs.YtohmdledkhgdaaaGreatDoor
