/- The methods of a nil taker. -/
import Derived.Test.YtdkjgcfhepplbaaGreatDoorMAnw
namespace Go.Proofs.YtdkjgcfhepplbaaGreatDoor
open Go.RowKit
open Go.RowKit
set_option maxRecDepth 100000 in
set_option maxHeartbeats 6400000 in
theorem offer37 (b:Nat) (s:Tk) (F:List Nat) (c:Cm) (w:World) (h:TkAt b s F w) (hna:s.act.length≤100) (hnk:s.kept.length≤100) :
  Calls Tryz.prog 65 #[.pointer (some ⟨b,0,none⟩),vC c] w (HearP b (offerT s c).1 (offerT s c).2.1 [] (offerT s c).2.2 F w):=by
 obtain⟨va,vk,h⟩:=h
 obtain⟨F0,h0,hK0,hlt⟩:=h.shrink
 obtain⟨g,hg⟩:∃ g,w.heap.size=g:=⟨_,rfl⟩
 obtain⟨W1,hW1⟩:∃ W1,w.alloc (.cells (aC c) 74)=W1:=⟨_,rfl⟩
 have hb1:Below w.heap.size w W1:=by rw[← hW1];exact below_alloc _ _
 have hrow:Row W1 g (cC c) 74:=by rw[← hW1,← hg];exact Row.new w (cC c) _
 have H1:=Lib.hid (And.intro hrow (And.intro (h0.keep hb1) (And.intro (hK0.trans (Kp.of_below hb1)) (show g∉F0 from fun hm=>by have:=hlt g hm;omega))))
 have HNA:=Lib.hid (show s.act.length≤1000000 by omega)
 have HNK:=Lib.hid (show s.kept.length≤1000000 by omega)
 clear hb1 h hrow h0 hK0 hlt
 cases hr:posL s.act c.id with
 | some k =>
  have e:offerT s c=(s,[],7):=by unfold offerT;rw[hr]
  rw[e]
  clear e
  have hr:idxL s.act c.id=(k:Int):=idx_some hr
  have HR:=Lib.hid hr
  clear hr
  go_enter Tryz.func65,Tryz.ntmps65
  go_wp2
  refine AnyO.wp_anyI (by kernel_rfl) (by kernel_rfl) (AnyO.InvG (σ:=Unit) (fun σ=>AnyO.pvL [some (.pointer (some ⟨b,0,none⟩)),some (.pointer (some ⟨b,0,none⟩)),some (.pointer (some ⟨b,2,none⟩)),some (.slice va.1 s.act.length va.2.2),some (.pointer (some ⟨g,2,none⟩)),some (vI c.id),some (.int .i64 (k:Int)),some (.bool true)]) (fun _ _ u=>Below W1.heap.size W1 u)) (AnyO.InvG.start (g:=()) (below_drew _)) ?_ ?_
  ·intro i hi
   have hi2:i=6∨i=0∨i=1∨i=2∨i=3∨i=4∨i=5∨i=7:=by simp only[List.size_toArray,List.length_cons,List.length_nil] at hi;omega
   clear hi
   rcases hi2 with rfl|rfl|rfl|rfl|rfl|rfl|rfl|rfl
   ·refine AnyO.I rfl [3,5] ?_;rintro D vs u σ Q h0 hC hp ac hb K hK
    have s11:_=_:=AnyO.sv 11 3 hb hp Q
    have s13:_=_:=AnyO.sv 13 5 hb hp Q
    go_simp
    go_at_call 68
    refine (find40 va.1 va.2.2 s.act c.id u (Own.slOf ((H1.out.2.1.keep Q.out.2).oa)) HNA.out).mono ?_
    rintro e w2 ⟨rfl,hcb⟩
    rw[HR.out]
    exact hK _ _ (AnyO.InvG.step (g:=σ) Q.out.1 rfl (Below.step Q.out.2 hcb))
   all_goals
    refine AnyO.J rfl ?_;rintro D vs u σ Q h0 hC hp ac hb K hK
    try have s0:ac.tmps[0]?.getD undef=.pointer (some ⟨b,0,none⟩):=by rw[hb.out];kernel_rfl
    try have s8:_=_:=AnyO.sv 8 0 hb hp Q
    try have s9:_=_:=AnyO.sv 9 1 hb hp Q
    try have s10:_=_:=AnyO.sv 10 2 hb hp Q
    try have s3:ac.tmps[3]?.getD undef=.pointer (some ⟨g,0,none⟩):=by rw[hb.out];kernel_rfl
    try have s12:_=_:=AnyO.sv 12 4 hb hp Q
    try have s14:_=_:=AnyO.sv 14 6 hb hp Q
    have rr_0:=(H1.out.2.1.keep Q.out.2).c2
    rw[(H1.out.2.1).la] at rr_0
    obtain⟨rr1_1,rr2_1⟩:=(H1.out.1.keep Q.out.2).idC
    go_simp
    exact hK _ _ (AnyO.InvG.step (g:=σ) Q.out.1 rfl Q.out.2)
  ·intro D vs u hI hD
   obtain⟨σ,hP,hW⟩:=hI
   have e0:_=_:=hP 0 (hD 0 (by decide))
   have e1:_=_:=hP 1 (hD 1 (by decide))
   have e2:_=_:=hP 2 (hD 2 (by decide))
   have e3:_=_:=hP 3 (hD 3 (by decide))
   have e4:_=_:=hP 4 (hD 4 (by decide))
   have e5:_=_:=hP 5 (hD 5 (by decide))
   have e6:_=_:=hP 6 (hD 6 (by decide))
   have e7:_=_:=hP 7 (hD 7 (by decide))
   have HW:=Lib.hid hW
   clear hW hP hD
   rw[puts_range [some 8,some 9,some 10,some 11,some 12,some 13,some 14,some 15] (by kernel_rfl)]
   simp only[putL,Nat.reduceAdd,e0,e1,e2,e3,e4,e5,e6,e7]
   clear e0 e1 e2 e3 e4 e5 e6 e7
   go_simp
   go_wp2
   go_ret3
   exact HearP.none (F':=F0) ⟨va,vk,H1.out.2.1.keep HW.out⟩ (H1.out.2.2.1.trans (Kp.of_below HW.out))
 | none =>
  have HP:=Lib.hid hr
  have hr:idxL s.act c.id=-1:=idx_none hr
  have HR:=Lib.hid hr
  clear hr
  by_cases hw:s.win≤s.act.length
  ·have e:offerT s c=(s,[],9):=by unfold offerT;rw[HP.out];exact if_pos hw
   rw[e]
   clear e
   go_enter Tryz.func65,Tryz.ntmps65
   go_wp2
   refine AnyO.wp_anyI (by kernel_rfl) (by kernel_rfl) (AnyO.InvG (σ:=Unit) (fun σ=>AnyO.pvL [some (.pointer (some ⟨b,0,none⟩)),some (.pointer (some ⟨b,0,none⟩)),some (.pointer (some ⟨b,2,none⟩)),some (.slice va.1 s.act.length va.2.2),some (.pointer (some ⟨g,2,none⟩)),some (vI c.id),some (.int .i64 (-1)),some (.bool false)]) (fun _ _ u=>Below W1.heap.size W1 u)) (AnyO.InvG.start (g:=()) (below_drew _)) ?_ ?_
   ·intro i hi
    have hi2:i=6∨i=0∨i=1∨i=2∨i=3∨i=4∨i=5∨i=7:=by simp only[List.size_toArray,List.length_cons,List.length_nil] at hi;omega
    clear hi
    rcases hi2 with rfl|rfl|rfl|rfl|rfl|rfl|rfl|rfl
    ·refine AnyO.I rfl [3,5] ?_;rintro D vs u σ Q h0 hC hp ac hb K hK
     have s11:_=_:=AnyO.sv 11 3 hb hp Q
     have s13:_=_:=AnyO.sv 13 5 hb hp Q
     go_simp
     go_at_call 68
     refine (find40 va.1 va.2.2 s.act c.id u (Own.slOf ((H1.out.2.1.keep Q.out.2).oa)) HNA.out).mono ?_
     rintro e w2 ⟨rfl,hcb⟩
     rw[HR.out]
     exact hK _ _ (AnyO.InvG.step (g:=σ) Q.out.1 rfl (Below.step Q.out.2 hcb))
    all_goals
     refine AnyO.J rfl ?_;rintro D vs u σ Q h0 hC hp ac hb K hK
     try have s0:ac.tmps[0]?.getD undef=.pointer (some ⟨b,0,none⟩):=by rw[hb.out];kernel_rfl
     try have s8:_=_:=AnyO.sv 8 0 hb hp Q
     try have s9:_=_:=AnyO.sv 9 1 hb hp Q
     try have s10:_=_:=AnyO.sv 10 2 hb hp Q
     try have s3:ac.tmps[3]?.getD undef=.pointer (some ⟨g,0,none⟩):=by rw[hb.out];kernel_rfl
     try have s12:_=_:=AnyO.sv 12 4 hb hp Q
     try have s14:_=_:=AnyO.sv 14 6 hb hp Q
     have rr_0:=(H1.out.2.1.keep Q.out.2).c2
     rw[(H1.out.2.1).la] at rr_0
     obtain⟨rr1_1,rr2_1⟩:=(H1.out.1.keep Q.out.2).idC
     go_simp
     exact hK _ _ (AnyO.InvG.step (g:=σ) Q.out.1 rfl Q.out.2)
   ·intro D vs u hI hD
    obtain⟨σ,hP,hW⟩:=hI
    have e0:_=_:=hP 0 (hD 0 (by decide))
    have e1:_=_:=hP 1 (hD 1 (by decide))
    have e2:_=_:=hP 2 (hD 2 (by decide))
    have e3:_=_:=hP 3 (hD 3 (by decide))
    have e4:_=_:=hP 4 (hD 4 (by decide))
    have e5:_=_:=hP 5 (hD 5 (by decide))
    have e6:_=_:=hP 6 (hD 6 (by decide))
    have e7:_=_:=hP 7 (hD 7 (by decide))
    have HW:=Lib.hid hW
    clear hW hP hD
    rw[puts_range [some 8,some 9,some 10,some 11,some 12,some 13,some 14,some 15] (by kernel_rfl)]
    simp only[putL,Nat.reduceAdd,e0,e1,e2,e3,e4,e5,e6,e7]
    clear e0 e1 e2 e3 e4 e5 e6 e7
    go_simp
    go_wp2
    have rr2:=(H1.out.2.1.keep HW.out).c2
    rw[(H1.out.2.1).la] at rr2
    have rr0:=(H1.out.2.1.keep HW.out).c0
    go_quiet (fail)
    go_wp2
    go_ret3
    exact HearP.none (F':=F0) ⟨va,vk,(H1.out.2.1.keep HW.out).keep (below_drewN _ _)⟩ (H1.out.2.2.1.trans (Kp.of_below (Below.step HW.out (below_drewN _ _))))
  ·have e:offerT s c=(⟨s.win,s.opn,s.act++[newP c],offK s c⟩,[(c.id,c.size,gotL (offK s c) c.id)],0):=by unfold offerT;rw[HP.out];exact if_neg hw
   rw[e]
   clear e
   obtain⟨j,hj⟩:∃ j,idxL s.kept c.id=j:=⟨_,rfl⟩
   have HJ:=Lib.hid hj
   clear hj
   go_enter Tryz.func65,Tryz.ntmps65
   go_wp2
   refine AnyO.wp_anyI (by kernel_rfl) (by kernel_rfl) (AnyO.InvG (σ:=Unit) (fun σ=>AnyO.pvL [some (.pointer (some ⟨b,0,none⟩)),some (.pointer (some ⟨b,0,none⟩)),some (.pointer (some ⟨b,2,none⟩)),some (.slice va.1 s.act.length va.2.2),some (.pointer (some ⟨g,2,none⟩)),some (vI c.id),some (.int .i64 (-1)),some (.bool false)]) (fun _ _ u=>Below W1.heap.size W1 u)) (AnyO.InvG.start (g:=()) (below_drew _)) ?_ ?_
   ·intro i hi
    have hi2:i=6∨i=0∨i=1∨i=2∨i=3∨i=4∨i=5∨i=7:=by simp only[List.size_toArray,List.length_cons,List.length_nil] at hi;omega
    clear hi
    rcases hi2 with rfl|rfl|rfl|rfl|rfl|rfl|rfl|rfl
    ·refine AnyO.I rfl [3,5] ?_;rintro D vs u σ Q h0 hC hp ac hb K hK
     have s11:_=_:=AnyO.sv 11 3 hb hp Q
     have s13:_=_:=AnyO.sv 13 5 hb hp Q
     go_simp
     go_at_call 68
     refine (find40 va.1 va.2.2 s.act c.id u (Own.slOf ((H1.out.2.1.keep Q.out.2).oa)) HNA.out).mono ?_
     rintro e w2 ⟨rfl,hcb⟩
     rw[HR.out]
     exact hK _ _ (AnyO.InvG.step (g:=σ) Q.out.1 rfl (Below.step Q.out.2 hcb))
    all_goals
     refine AnyO.J rfl ?_;rintro D vs u σ Q h0 hC hp ac hb K hK
     try have s0:ac.tmps[0]?.getD undef=.pointer (some ⟨b,0,none⟩):=by rw[hb.out];kernel_rfl
     try have s8:_=_:=AnyO.sv 8 0 hb hp Q
     try have s9:_=_:=AnyO.sv 9 1 hb hp Q
     try have s10:_=_:=AnyO.sv 10 2 hb hp Q
     try have s3:ac.tmps[3]?.getD undef=.pointer (some ⟨g,0,none⟩):=by rw[hb.out];kernel_rfl
     try have s12:_=_:=AnyO.sv 12 4 hb hp Q
     try have s14:_=_:=AnyO.sv 14 6 hb hp Q
     have rr_0:=(H1.out.2.1.keep Q.out.2).c2
     rw[(H1.out.2.1).la] at rr_0
     obtain⟨rr1_1,rr2_1⟩:=(H1.out.1.keep Q.out.2).idC
     go_simp
     exact hK _ _ (AnyO.InvG.step (g:=σ) Q.out.1 rfl Q.out.2)
   ·intro D vs u hI hD
    obtain⟨σ,hP,hW⟩:=hI
    have e0:_=_:=hP 0 (hD 0 (by decide))
    have e1:_=_:=hP 1 (hD 1 (by decide))
    have e2:_=_:=hP 2 (hD 2 (by decide))
    have e3:_=_:=hP 3 (hD 3 (by decide))
    have e4:_=_:=hP 4 (hD 4 (by decide))
    have e5:_=_:=hP 5 (hD 5 (by decide))
    have e6:_=_:=hP 6 (hD 6 (by decide))
    have e7:_=_:=hP 7 (hD 7 (by decide))
    have HW:=Lib.hid hW
    clear hW hP hD
    rw[puts_range [some 8,some 9,some 10,some 11,some 12,some 13,some 14,some 15] (by kernel_rfl)]
    simp only[putL,Nat.reduceAdd,e0,e1,e2,e3,e4,e5,e6,e7]
    clear e0 e1 e2 e3 e4 e5 e6 e7
    go_simp
    go_wp2
    have rr2:=(H1.out.2.1.keep HW.out).c2
    rw[(H1.out.2.1).la] at rr2
    have rr0:=(H1.out.2.1.keep HW.out).c0
    go_quiet (fail)
    go_wp2
    obtain⟨U1,rfl⟩:∃ U1,U1=u:=⟨_,rfl⟩
    refine AnyO.wp_anyI (by kernel_rfl) (by kernel_rfl) (AnyO.InvG (σ:=Unit) (fun σ=>AnyO.pvL [some (.pointer (some ⟨b,0,none⟩)),some (.pointer (some ⟨b,0,none⟩)),some (.pointer (some ⟨b,3,none⟩)),some (.slice vk.1 s.kept.length vk.2.2),some (.pointer (some ⟨g,2,none⟩)),some (vI c.id),some (.int .i64 j),some (.int .i64 j)]) (fun _ _ u=>Below W1.heap.size W1 u)) (AnyO.InvG.start (g:=()) (Below.step (Below.step HW.out (below_drewN _ _)) (below_drew _))) ?_ ?_
    ·intro i hi
     have hi2:i=6∨i=0∨i=1∨i=2∨i=3∨i=4∨i=5∨i=7:=by simp only[List.size_toArray,List.length_cons,List.length_nil] at hi;omega
     clear hi
     rcases hi2 with rfl|rfl|rfl|rfl|rfl|rfl|rfl|rfl
     ·refine AnyO.I rfl [3,5] ?_;rintro D vs u σ Q h0 hC hp ac hb K hK
      have s29:_=_:=AnyO.sv 29 3 hb hp Q
      have s31:_=_:=AnyO.sv 31 5 hb hp Q
      go_simp
      go_at_call 68
      refine (find40 vk.1 vk.2.2 s.kept c.id u (Own.slOf ((H1.out.2.1.keep Q.out.2).ok)) HNK.out).mono ?_
      rintro e w2 ⟨rfl,hcb⟩
      rw[HJ.out]
      exact hK _ _ (AnyO.InvG.step (g:=σ) Q.out.1 rfl (Below.step Q.out.2 hcb))
     all_goals
      refine AnyO.J rfl ?_;rintro D vs u σ Q h0 hC hp ac hb K hK
      try have s0:ac.tmps[0]?.getD undef=.pointer (some ⟨b,0,none⟩):=by rw[hb.out];kernel_rfl
      try have s26:_=_:=AnyO.sv 26 0 hb hp Q
      try have s27:_=_:=AnyO.sv 27 1 hb hp Q
      try have s28:_=_:=AnyO.sv 28 2 hb hp Q
      try have s3:ac.tmps[3]?.getD undef=.pointer (some ⟨g,0,none⟩):=by rw[hb.out];kernel_rfl
      try have s30:_=_:=AnyO.sv 30 4 hb hp Q
      try have s32:_=_:=AnyO.sv 32 6 hb hp Q
      have rr_0:=(H1.out.2.1.keep Q.out.2).c3
      rw[(H1.out.2.1).lk] at rr_0
      obtain⟨rr1_1,rr2_1⟩:=(H1.out.1.keep Q.out.2).idC
      go_simp
      exact hK _ _ (AnyO.InvG.step (g:=σ) Q.out.1 rfl Q.out.2)
    ·intro D vs u hI hD
     obtain⟨σ,hP,hW⟩:=hI
     have e0:_=_:=hP 0 (hD 0 (by decide))
     have e1:_=_:=hP 1 (hD 1 (by decide))
     have e2:_=_:=hP 2 (hD 2 (by decide))
     have e3:_=_:=hP 3 (hD 3 (by decide))
     have e4:_=_:=hP 4 (hD 4 (by decide))
     have e5:_=_:=hP 5 (hD 5 (by decide))
     have e6:_=_:=hP 6 (hD 6 (by decide))
     have e7:_=_:=hP 7 (hD 7 (by decide))
     have HW:=Lib.hid hW
     clear hW hP hD
     rw[puts_range [some 26,some 27,some 28,some 29,some 30,some 31,some 32,some 7] (by kernel_rfl)]
     simp only[putL,Nat.reduceAdd,e0,e1,e2,e3,e4,e5,e6,e7]
     clear e0 e1 e2 e3 e4 e5 e6 e7
     go_simp
     clear rr2 rr0
     obtain⟨U5,rfl⟩:∃ U5,U5=u:=⟨_,rfl⟩
     have HT5:=Lib.hid (And.intro (H1.out.2.1.keep HW.out) (And.intro (H1.out.1.keep HW.out) (H1.out.2.2.1.trans (Kp.of_below HW.out))))
     cases hp2:posL s.kept c.id with
     | none =>
      have hjj:j=-1:=by rw[← HJ.out];exact idx_none hp2
      have HOK:=Lib.hid (show offK s c=s.kept by unfold offK;rw[hp2])
      subst hjj
      clear hp2
      go_wp2
      go_quiet (fail)
      go_wp2
      have HT:=Lib.hid (And.intro HT5.out.1 (And.intro HT5.out.2.1 (And.intro HT5.out.2.2 H1.out.2.2.2)))
      have HNK2:=Lib.hid HNK.out
      have HNA2:=Lib.hid (show s.act.length≤1000000 from HNA.out)
      refine AnyO.wp_anyI (by kernel_rfl) (by kernel_rfl) (AnyO.InvG (σ:=Nat×SlV) (fun σ=>AnyO.pvL [some (.pointer (some ⟨b,0,none⟩)),some (.pointer (some ⟨b,0,none⟩)),some (.pointer (some ⟨b,0,none⟩)),some (.pointer (some ⟨b,2,none⟩)),some (.slice va.1 va.2.1 va.2.2),some (.pointer (some ⟨g,2,none⟩)),some (vI c.id),some (.pointer (some ⟨g,34,none⟩)),some (.int .i64 c.size),some (vA (newP c)),some (.slice (some ⟨σ.1,0,none⟩) 1 1),some (.slice σ.2.1 σ.2.2.1 σ.2.2.2),some (.pointer (some ⟨b,0,none⟩)),some (.pointer (some ⟨b,2,none⟩)),none]) (fun σ D u=>APW b s F0 va vk (newP c) U5 σ (D 10) (D 11) (D 14) u)) (AnyO.InvG.start (g:=(0,(none,0,0))) (⟨fun h=>(by cases h),Below.step (below_drewN _ _) (below_drew _)⟩)) ?_ ?_
      ·intro i hi
       have hi2:i=4∨i=10∨i=11∨i=14∨i=0∨i=1∨i=2∨i=3∨i=5∨i=6∨i=7∨i=8∨i=9∨i=12∨i=13:=by simp only[List.size_toArray,List.length_cons,List.length_nil] at hi;omega
       clear hi
       rcases hi2 with rfl|rfl|rfl|rfl|rfl|rfl|rfl|rfl|rfl|rfl|rfl|rfl|rfl|rfl|rfl
       ·refine AnyO.I rfl [3] ?_;rintro D vs u σ Q h0 hC hp ac hb K hK
        have s61:_=_:=AnyO.sv 61 3 hb hp Q
        have hf11:=AnyO.fls (hC.out 11) h0 (by kernel_rfl)
        have hst:=Q.out.2.st
        rw[show D 11=false from hf11] at hst
        have rr:=(HT.out.1.keep hst).c2
        clear hst hf11
        go_simp
        exact hK _ _ (AnyO.InvG.step (g:=σ) Q.out.1 rfl (APW.read Q.out.2 (Below.refl _ _)))
       ·refine AnyO.I rfl [9] ?_;rintro D vs u σ Q h0 hC hp ac hb K hK
        have s67:_=_:=AnyO.sv 67 9 hb hp Q
        have hf11:=AnyO.fls (hC.out 11) h0 (by kernel_rfl)
        go_simp
        refine hK _ _ (AnyO.InvG.ghost (g:=σ) (u.heap.size,σ.2) Q.out.1 ?_ rfl ?_)
        ·intro j hj hq
         rcases j with _|_|_|_|_|_|_|_|_|_|_|_|_|_|_|j
         all_goals first|exact hq|exact absurd (show D 10=true from hj) (by rw[h0];decide)
        exact⟨fun _ _=>fun _=>⟨_,rfl,at_new u _ _ _ rfl⟩,Q.out.2.st.read (below_alloc _ _)⟩
       ·refine AnyO.I rfl [4,10] ?_;rintro D vs u σ Q h0 hC hp ac hb K hK
        have s62:_=_:=AnyO.sv 62 4 hb hp Q
        have s68:_=_:=AnyO.sv 68 10 hb hp Q
        have hp10:D 10=true:=hp.out 10 (by decide)
        have hf14:=AnyO.fls (hC.out 14) h0 (by kernel_rfl)
        have hst:=Q.out.2.st
        rw[show D 11=false from h0] at hst
        have h91:=Q.out.2.one hp10 h0
        refine wp_append_slat u (.tmp 62) (.tmp 68) 102 rfl 0 145 35 64 cA underPAs rowPA (by decide) cA_length cA_one _ s.act (ev_tmp s62) (HT.out.1.keep hst).oa _ 1 1 [newP c] rfl (ev_tmp s68) h91 (by have:=HNA2.out;omega) (by have:=HNA2.out;omega) (Nat.zero_le _) ?_
        intro v2 w2 ho2 hg2 hat2
        obtain⟨A2,c2,rfl, -, -⟩:=Own.sl ho2
        refine hK _ _ (AnyO.InvG.ghost (g:=σ) (σ.1,(A2,_,c2)) Q.out.1 ?_ rfl ?_)
        ·intro j hj hq
         rcases j with _|_|_|_|_|_|_|_|_|_|_|_|_|_|_|j
         all_goals first|exact hq|exact absurd (show D 11=true from hj) (by rw[h0];decide)
        refine⟨fun _ h=>(by have h2:true=false:=h;cases h2),?_⟩
        rw[show AnyO.addD D 11 11=true from rfl,show AnyO.addD D 11 14=D 14 from rfl,hf14]
        exact WA.grow hst ho2 hg2 hat2
       ·refine AnyO.I rfl [13,11,11,0,1,2,3,4,5,6,7,8,9,10,11] ?_;rintro D vs u σ Q h0 hC hp ac hb K hK
        have s71:_=_:=AnyO.sv 71 13 hb hp Q
        have s69:_=_:=AnyO.sv 69 11 hb hp Q
        have hp11:D 11=true:=hp.out 11 (by decide)
        have hst:=Q.out.2.st
        rw[show D 11=true from hp11,show D 14=false from h0] at hst
        obtain⟨rf,rc,rp⟩:=WA.put hst HT.out.1
        have RP:=Lib.hid rp
        clear hst rp
        go_simp
        exact hK undef _ (AnyO.InvG.step (g:=σ) Q.out.1 trivial ⟨fun _ h=>absurd (show D 11=false from h) (by rw[hp11];decide),by rw[show AnyO.addD D 14 11=D 11 from rfl,hp11,show AnyO.addD D 14 14=true from rfl];exact RP.out⟩)
       all_goals
        refine AnyO.J rfl ?_;rintro D vs u σ Q h0 hC hp ac hb K hK
        try have s0:ac.tmps[0]?.getD undef=.pointer (some ⟨b,0,none⟩):=by rw[hb.out];kernel_rfl
        try have s59:_=_:=AnyO.sv 59 1 hb hp Q
        try have s60:_=_:=AnyO.sv 60 2 hb hp Q
        try have s3:ac.tmps[3]?.getD undef=.pointer (some ⟨g,0,none⟩):=by rw[hb.out];kernel_rfl
        try have s63:_=_:=AnyO.sv 63 5 hb hp Q
        try have s65:_=_:=AnyO.sv 65 7 hb hp Q
        try have s64:_=_:=AnyO.sv 64 6 hb hp Q
        try have s66:_=_:=AnyO.sv 66 8 hb hp Q
        try have s58:_=_:=AnyO.sv 58 0 hb hp Q
        try have s70:_=_:=AnyO.sv 70 12 hb hp Q
        obtain⟨rr1_0,rr2_0⟩:=(Q.out.2.st.row HT.out.1 HT.out.2.1 HT.out.2.2.2).idC
        have rr_1:=((Q.out.2.st.row HT.out.1 HT.out.2.1 HT.out.2.2.2).cell 34).trans (cC_at (aC_34 c))
        go_simp
        exact hK _ _ (AnyO.InvG.step (g:=σ) Q.out.1 rfl (APW.read Q.out.2 (Below.refl _ _)))
      ·intro D vs u hI hD
       obtain⟨σ,hP,hW⟩:=hI
       have e0:_=_:=hP 0 (hD 0 (by decide))
       have e1:_=_:=hP 1 (hD 1 (by decide))
       have e2:_=_:=hP 2 (hD 2 (by decide))
       have e3:_=_:=hP 3 (hD 3 (by decide))
       have e4:_=_:=hP 4 (hD 4 (by decide))
       have e5:_=_:=hP 5 (hD 5 (by decide))
       have e6:_=_:=hP 6 (hD 6 (by decide))
       have e7:_=_:=hP 7 (hD 7 (by decide))
       have e8:_=_:=hP 8 (hD 8 (by decide))
       have e9:_=_:=hP 9 (hD 9 (by decide))
       have e10:_=_:=hP 10 (hD 10 (by decide))
       have e11:_=_:=hP 11 (hD 11 (by decide))
       have e12:_=_:=hP 12 (hD 12 (by decide))
       have e13:_=_:=hP 13 (hD 13 (by decide))
       have hst:=hW.st
       rw[show D 11=true from hD 11 (by decide),show D 14=true from hD 14 (by decide)] at hst
       have HST:=Lib.hid hst
       clear hst
       have HW:=Lib.hid hW
       clear hW hP hD
       rw[puts_range [some 58,some 59,some 60,some 61,some 62,some 63,some 64,some 65,some 66,some 67,some 68,some 69,some 70,some 71,none] (by kernel_rfl)]
       simp only[putL,Nat.reduceAdd,e0,e1,e2,e3,e4,e5,e6,e7,e8,e9,e10,e11,e12,e13]
       clear e0 e1 e2 e3 e4 e5 e6 e7 e8 e9 e10 e11 e12 e13
       obtain⟨hT8,hK8⟩:=HST.out
       go_simp
       go_wp2
       obtain⟨F9,hT9,hK9,hF9⟩:=hT8.shrink
       have hr9:=HT.out.2.1.kp hK8 HT.out.2.2.2
       obtain⟨n9,hn9⟩:∃ n9,gotL s.kept c.id=n9:=⟨_,rfl⟩
       have H9:=Lib.hid (And.intro hT9 (And.intro (HT.out.2.2.1.trans (hK8.trans hK9)) (And.intro hF9 (And.intro hr9 hn9))))
       clear hT8 hK8 hT9 hK9 hF9 hr9 hn9
       obtain⟨U8,rfl⟩:∃ U8,U8=u:=⟨_,rfl⟩
       obtain⟨v8,hv8⟩:∃ v8,σ.2=v8:=⟨_,rfl⟩
       rw[hv8] at H9
       refine AnyO.wp_anyI (by kernel_rfl) (by kernel_rfl) (AnyO.InvG (σ:=Nat) (fun σ=>AnyO.pvL [some (.pointer (some ⟨g,2,none⟩)),some (vI c.id),some (.pointer (some ⟨g,34,none⟩)),some (.int .i64 c.size),some (.pointer (some ⟨b,0,none⟩)),some (.pointer (some ⟨g,2,none⟩)),some (vI c.id),some (.int .i64 n9),some (vQn (c.id,c.size,n9)),some (.slice (some ⟨σ,0,none⟩) 1 1),some (.slice (some ⟨σ,0,none⟩) 1 1),some (Value.slice none 0 0),some (Value.int IntKind.i64 0)]) (fun σ D u=>OneW cQn U8 (c.id,c.size,n9) σ (D 9) u)) (AnyO.InvG.start (g:=0) (⟨below_drew _,fun h=>by cases h⟩)) ?_ ?_
       ·intro i hi
        have hi2:i=7∨i=9∨i=0∨i=1∨i=2∨i=3∨i=4∨i=5∨i=6∨i=8∨i=10∨i=11∨i=12:=by simp only[List.size_toArray,List.length_cons,List.length_nil] at hi;omega
        clear hi
        rcases hi2 with rfl|rfl|rfl|rfl|rfl|rfl|rfl|rfl|rfl|rfl|rfl|rfl|rfl
        ·refine AnyO.I rfl [4,6] ?_;rintro D vs u σ Q h0 hC hp ac hb K hK
         have s76:_=_:=AnyO.sv 76 4 hb hp Q
         have s78:_=_:=AnyO.sv 78 6 hb hp Q
         go_simp
         go_at_call 69
         refine (keptBytes41 b _ F9 v8 vk c.id u (H9.out.1.keep Q.out.2.bl) HNK2.out).mono ?_
         rintro e w2 ⟨rfl,hcb⟩
         rw[H9.out.2.2.2.2]
         exact hK _ _ (AnyO.InvG.step (g:=σ) Q.out.1 rfl (OneW.read Q.out.2 hcb))
        ·refine AnyO.I rfl [8] ?_;rintro D vs u σ Q h0 hC hp ac hb K hK
         have s80:_=_:=AnyO.sv 80 8 hb hp Q
         have hf10:=AnyO.fls (hC.out 10) h0 (by kernel_rfl)
         go_simp
         refine hK _ _ (AnyO.InvG.ghost (g:=σ) u.heap.size Q.out.1 ?_ rfl ?_)
         ·intro j hj hq
          rcases j with _|_|_|_|_|_|_|_|_|_|_|_|_|j
          all_goals first|exact hq|exact absurd (show D 9=true from hj) (by rw[h0];decide)|exact absurd (show D 10=true from hj) (by rw[hf10];decide)
         exact⟨Below.step Q.out.2.bl (below_alloc _ _),fun _=>⟨fun _=>⟨_,rfl,at_new u _ _ _ rfl⟩,Q.out.2.bl.size⟩⟩
        all_goals
         refine AnyO.J rfl ?_;rintro D vs u σ Q h0 hC hp ac hb K hK
         try have s3:ac.tmps[3]?.getD undef=.pointer (some ⟨g,0,none⟩):=by rw[hb.out];kernel_rfl
         try have s72:_=_:=AnyO.sv 72 0 hb hp Q
         try have s74:_=_:=AnyO.sv 74 2 hb hp Q
         try have s0:ac.tmps[0]?.getD undef=.pointer (some ⟨b,0,none⟩):=by rw[hb.out];kernel_rfl
         try have s77:_=_:=AnyO.sv 77 5 hb hp Q
         try have s73:_=_:=AnyO.sv 73 1 hb hp Q
         try have s75:_=_:=AnyO.sv 75 3 hb hp Q
         try have s79:_=_:=AnyO.sv 79 7 hb hp Q
         try have s81:_=_:=AnyO.sv 81 9 hb hp Q
         obtain⟨rr1_0,rr2_0⟩:=(H9.out.2.2.2.1.keep Q.out.2.bl).idC
         have rr_1:=((H9.out.2.2.2.1.keep Q.out.2.bl).cell 34).trans (cC_at (aC_34 c))
         go_simp
         exact hK _ _ (AnyO.InvG.step (g:=σ) Q.out.1 rfl (OneW.read Q.out.2 (Below.refl _ _)))
       ·intro D vs u hI hD
        obtain⟨σ,hP,hW⟩:=hI
        have e0:_=_:=hP 0 (hD 0 (by decide))
        have e1:_=_:=hP 1 (hD 1 (by decide))
        have e2:_=_:=hP 2 (hD 2 (by decide))
        have e3:_=_:=hP 3 (hD 3 (by decide))
        have e4:_=_:=hP 4 (hD 4 (by decide))
        have e5:_=_:=hP 5 (hD 5 (by decide))
        have e6:_=_:=hP 6 (hD 6 (by decide))
        have e7:_=_:=hP 7 (hD 7 (by decide))
        have e8:_=_:=hP 8 (hD 8 (by decide))
        have e9:_=_:=hP 9 (hD 9 (by decide))
        have e10:_=_:=hP 10 (hD 10 (by decide))
        have e11:_=_:=hP 11 (hD 11 (by decide))
        have e12:_=_:=hP 12 (hD 12 (by decide))
        have hst:=hW.one (hD 9 (by decide))
        have HST9:=Lib.hid (And.intro hW.bl hst)
        clear hst
        have HW:=Lib.hid hW
        clear hW hP hD
        rw[puts_range [some 72,some 73,some 74,some 75,some 76,some 77,some 78,some 79,some 80,some 81,some 4,some 5,some 6] (by kernel_rfl)]
        simp only[putL,Nat.reduceAdd,e0,e1,e2,e3,e4,e5,e6,e7,e8,e9,e10,e11,e12]
        clear e0 e1 e2 e3 e4 e5 e6 e7 e8 e9 e10 e11 e12
        go_simp
        go_wp2
        go_ret3
        refine⟨(some ⟨σ,0,none⟩,1,1),(none,0,0),rfl,F9,⟨v8,vk,by rw[HOK.out];exact H9.out.1.keep HST9.out.1⟩,H9.out.2.1.trans (Kp.of_below HST9.out.1),⟨rfl,Nat.le_refl _,by rw[HOK.out,H9.out.2.2.2.2];exact HST9.out.2.1,fun ad e _ hm=>?_⟩,SlF.nil _ _ _⟩
        cases e
        have h1:=H9.out.2.2.1 _ hm
        have h2:=HST9.out.2.2
        dsimp only at h1
        omega
     | some k2 =>
      obtain⟨hk2, -, -⟩:=pos_some hp2
      have hjj:j=(k2:Int):=by rw[← HJ.out];exact idx_some hp2
      subst hjj
      obtain⟨ad,hae, -, -,hat⟩:=Sl.pt (Own.slOf HT5.out.1.ok) hk2
      have rr:=HT5.out.1.c3
      rw[HT5.out.1.lk] at rr
      have r32:=hat.f32
      have q34:=(HT5.out.2.1.cell 34).trans (cC_at (aC_34 c))
      have hk1:(k2:Int)<(s.kept.length:Int):=by omega
      have hpk:ptK s.kept k2=s.kept[k2]:=ptK_eq hk2
      clear hat
      rw[hae] at rr
      by_cases hz:s.kept[k2].size=c.size
      ·have HOK:=Lib.hid (show offK s c=s.kept by unfold offK;rw[hp2];dsimp only;rw[hpk];exact if_pos hz)
       rw[hz] at r32
       clear hz hpk hp2
       go_wp2
       go_quiet (fail)
       go_wp2
       have HT:=Lib.hid (And.intro HT5.out.1 (And.intro HT5.out.2.1 (And.intro HT5.out.2.2 H1.out.2.2.2)))
       have HNK2:=Lib.hid HNK.out
       clear r32 q34 rr
       have HNA2:=Lib.hid (show s.act.length≤1000000 from HNA.out)
       refine AnyO.wp_anyI (by kernel_rfl) (by kernel_rfl) (AnyO.InvG (σ:=Nat×SlV) (fun σ=>AnyO.pvL [some (.pointer (some ⟨b,0,none⟩)),some (.pointer (some ⟨b,0,none⟩)),some (.pointer (some ⟨b,0,none⟩)),some (.pointer (some ⟨b,2,none⟩)),some (.slice va.1 va.2.1 va.2.2),some (.pointer (some ⟨g,2,none⟩)),some (vI c.id),some (.pointer (some ⟨g,34,none⟩)),some (.int .i64 c.size),some (vA (newP c)),some (.slice (some ⟨σ.1,0,none⟩) 1 1),some (.slice σ.2.1 σ.2.2.1 σ.2.2.2),some (.pointer (some ⟨b,0,none⟩)),some (.pointer (some ⟨b,2,none⟩)),none]) (fun σ D u=>APW b s F0 va vk (newP c) U5 σ (D 10) (D 11) (D 14) u)) (AnyO.InvG.start (g:=(0,(none,0,0))) (⟨fun h=>(by cases h),Below.step (below_drewN _ _) (below_drew _)⟩)) ?_ ?_
       ·intro i hi
        have hi2:i=4∨i=10∨i=11∨i=14∨i=0∨i=1∨i=2∨i=3∨i=5∨i=6∨i=7∨i=8∨i=9∨i=12∨i=13:=by simp only[List.size_toArray,List.length_cons,List.length_nil] at hi;omega
        clear hi
        rcases hi2 with rfl|rfl|rfl|rfl|rfl|rfl|rfl|rfl|rfl|rfl|rfl|rfl|rfl|rfl|rfl
        ·refine AnyO.I rfl [3] ?_;rintro D vs u σ Q h0 hC hp ac hb K hK
         have s61:_=_:=AnyO.sv 61 3 hb hp Q
         have hf11:=AnyO.fls (hC.out 11) h0 (by kernel_rfl)
         have hst:=Q.out.2.st
         rw[show D 11=false from hf11] at hst
         have rr:=(HT.out.1.keep hst).c2
         clear hst hf11
         go_simp
         exact hK _ _ (AnyO.InvG.step (g:=σ) Q.out.1 rfl (APW.read Q.out.2 (Below.refl _ _)))
        ·refine AnyO.I rfl [9] ?_;rintro D vs u σ Q h0 hC hp ac hb K hK
         have s67:_=_:=AnyO.sv 67 9 hb hp Q
         have hf11:=AnyO.fls (hC.out 11) h0 (by kernel_rfl)
         go_simp
         refine hK _ _ (AnyO.InvG.ghost (g:=σ) (u.heap.size,σ.2) Q.out.1 ?_ rfl ?_)
         ·intro j hj hq
          rcases j with _|_|_|_|_|_|_|_|_|_|_|_|_|_|_|j
          all_goals first|exact hq|exact absurd (show D 10=true from hj) (by rw[h0];decide)
         exact⟨fun _ _=>fun _=>⟨_,rfl,at_new u _ _ _ rfl⟩,Q.out.2.st.read (below_alloc _ _)⟩
        ·refine AnyO.I rfl [4,10] ?_;rintro D vs u σ Q h0 hC hp ac hb K hK
         have s62:_=_:=AnyO.sv 62 4 hb hp Q
         have s68:_=_:=AnyO.sv 68 10 hb hp Q
         have hp10:D 10=true:=hp.out 10 (by decide)
         have hf14:=AnyO.fls (hC.out 14) h0 (by kernel_rfl)
         have hst:=Q.out.2.st
         rw[show D 11=false from h0] at hst
         have h91:=Q.out.2.one hp10 h0
         refine wp_append_slat u (.tmp 62) (.tmp 68) 102 rfl 0 145 35 64 cA underPAs rowPA (by decide) cA_length cA_one _ s.act (ev_tmp s62) (HT.out.1.keep hst).oa _ 1 1 [newP c] rfl (ev_tmp s68) h91 (by have:=HNA2.out;omega) (by have:=HNA2.out;omega) (Nat.zero_le _) ?_
         intro v2 w2 ho2 hg2 hat2
         obtain⟨A2,c2,rfl, -, -⟩:=Own.sl ho2
         refine hK _ _ (AnyO.InvG.ghost (g:=σ) (σ.1,(A2,_,c2)) Q.out.1 ?_ rfl ?_)
         ·intro j hj hq
          rcases j with _|_|_|_|_|_|_|_|_|_|_|_|_|_|_|j
          all_goals first|exact hq|exact absurd (show D 11=true from hj) (by rw[h0];decide)
         refine⟨fun _ h=>(by have h2:true=false:=h;cases h2),?_⟩
         rw[show AnyO.addD D 11 11=true from rfl,show AnyO.addD D 11 14=D 14 from rfl,hf14]
         exact WA.grow hst ho2 hg2 hat2
        ·refine AnyO.I rfl [13,11,11,0,1,2,3,4,5,6,7,8,9,10,11] ?_;rintro D vs u σ Q h0 hC hp ac hb K hK
         have s71:_=_:=AnyO.sv 71 13 hb hp Q
         have s69:_=_:=AnyO.sv 69 11 hb hp Q
         have hp11:D 11=true:=hp.out 11 (by decide)
         have hst:=Q.out.2.st
         rw[show D 11=true from hp11,show D 14=false from h0] at hst
         obtain⟨rf,rc,rp⟩:=WA.put hst HT.out.1
         have RP:=Lib.hid rp
         clear hst rp
         go_simp
         exact hK undef _ (AnyO.InvG.step (g:=σ) Q.out.1 trivial ⟨fun _ h=>absurd (show D 11=false from h) (by rw[hp11];decide),by rw[show AnyO.addD D 14 11=D 11 from rfl,hp11,show AnyO.addD D 14 14=true from rfl];exact RP.out⟩)
        all_goals
         refine AnyO.J rfl ?_;rintro D vs u σ Q h0 hC hp ac hb K hK
         try have s0:ac.tmps[0]?.getD undef=.pointer (some ⟨b,0,none⟩):=by rw[hb.out];kernel_rfl
         try have s59:_=_:=AnyO.sv 59 1 hb hp Q
         try have s60:_=_:=AnyO.sv 60 2 hb hp Q
         try have s3:ac.tmps[3]?.getD undef=.pointer (some ⟨g,0,none⟩):=by rw[hb.out];kernel_rfl
         try have s63:_=_:=AnyO.sv 63 5 hb hp Q
         try have s65:_=_:=AnyO.sv 65 7 hb hp Q
         try have s64:_=_:=AnyO.sv 64 6 hb hp Q
         try have s66:_=_:=AnyO.sv 66 8 hb hp Q
         try have s58:_=_:=AnyO.sv 58 0 hb hp Q
         try have s70:_=_:=AnyO.sv 70 12 hb hp Q
         obtain⟨rr1_0,rr2_0⟩:=(Q.out.2.st.row HT.out.1 HT.out.2.1 HT.out.2.2.2).idC
         have rr_1:=((Q.out.2.st.row HT.out.1 HT.out.2.1 HT.out.2.2.2).cell 34).trans (cC_at (aC_34 c))
         go_simp
         exact hK _ _ (AnyO.InvG.step (g:=σ) Q.out.1 rfl (APW.read Q.out.2 (Below.refl _ _)))
       ·intro D vs u hI hD
        obtain⟨σ,hP,hW⟩:=hI
        have e0:_=_:=hP 0 (hD 0 (by decide))
        have e1:_=_:=hP 1 (hD 1 (by decide))
        have e2:_=_:=hP 2 (hD 2 (by decide))
        have e3:_=_:=hP 3 (hD 3 (by decide))
        have e4:_=_:=hP 4 (hD 4 (by decide))
        have e5:_=_:=hP 5 (hD 5 (by decide))
        have e6:_=_:=hP 6 (hD 6 (by decide))
        have e7:_=_:=hP 7 (hD 7 (by decide))
        have e8:_=_:=hP 8 (hD 8 (by decide))
        have e9:_=_:=hP 9 (hD 9 (by decide))
        have e10:_=_:=hP 10 (hD 10 (by decide))
        have e11:_=_:=hP 11 (hD 11 (by decide))
        have e12:_=_:=hP 12 (hD 12 (by decide))
        have e13:_=_:=hP 13 (hD 13 (by decide))
        have hst:=hW.st
        rw[show D 11=true from hD 11 (by decide),show D 14=true from hD 14 (by decide)] at hst
        have HST:=Lib.hid hst
        clear hst
        have HW:=Lib.hid hW
        clear hW hP hD
        rw[puts_range [some 58,some 59,some 60,some 61,some 62,some 63,some 64,some 65,some 66,some 67,some 68,some 69,some 70,some 71,none] (by kernel_rfl)]
        simp only[putL,Nat.reduceAdd,e0,e1,e2,e3,e4,e5,e6,e7,e8,e9,e10,e11,e12,e13]
        clear e0 e1 e2 e3 e4 e5 e6 e7 e8 e9 e10 e11 e12 e13
        obtain⟨hT8,hK8⟩:=HST.out
        go_simp
        go_wp2
        obtain⟨F9,hT9,hK9,hF9⟩:=hT8.shrink
        have hr9:=HT.out.2.1.kp hK8 HT.out.2.2.2
        obtain⟨n9,hn9⟩:∃ n9,gotL s.kept c.id=n9:=⟨_,rfl⟩
        have H9:=Lib.hid (And.intro hT9 (And.intro (HT.out.2.2.1.trans (hK8.trans hK9)) (And.intro hF9 (And.intro hr9 hn9))))
        clear hT8 hK8 hT9 hK9 hF9 hr9 hn9
        obtain⟨U8,rfl⟩:∃ U8,U8=u:=⟨_,rfl⟩
        obtain⟨v8,hv8⟩:∃ v8,σ.2=v8:=⟨_,rfl⟩
        rw[hv8] at H9
        refine AnyO.wp_anyI (by kernel_rfl) (by kernel_rfl) (AnyO.InvG (σ:=Nat) (fun σ=>AnyO.pvL [some (.pointer (some ⟨g,2,none⟩)),some (vI c.id),some (.pointer (some ⟨g,34,none⟩)),some (.int .i64 c.size),some (.pointer (some ⟨b,0,none⟩)),some (.pointer (some ⟨g,2,none⟩)),some (vI c.id),some (.int .i64 n9),some (vQn (c.id,c.size,n9)),some (.slice (some ⟨σ,0,none⟩) 1 1),some (.slice (some ⟨σ,0,none⟩) 1 1),some (Value.slice none 0 0),some (Value.int IntKind.i64 0)]) (fun σ D u=>OneW cQn U8 (c.id,c.size,n9) σ (D 9) u)) (AnyO.InvG.start (g:=0) (⟨below_drew _,fun h=>by cases h⟩)) ?_ ?_
        ·intro i hi
         have hi2:i=7∨i=9∨i=0∨i=1∨i=2∨i=3∨i=4∨i=5∨i=6∨i=8∨i=10∨i=11∨i=12:=by simp only[List.size_toArray,List.length_cons,List.length_nil] at hi;omega
         clear hi
         rcases hi2 with rfl|rfl|rfl|rfl|rfl|rfl|rfl|rfl|rfl|rfl|rfl|rfl|rfl
         ·refine AnyO.I rfl [4,6] ?_;rintro D vs u σ Q h0 hC hp ac hb K hK
          have s76:_=_:=AnyO.sv 76 4 hb hp Q
          have s78:_=_:=AnyO.sv 78 6 hb hp Q
          go_simp
          go_at_call 69
          refine (keptBytes41 b _ F9 v8 vk c.id u (H9.out.1.keep Q.out.2.bl) HNK2.out).mono ?_
          rintro e w2 ⟨rfl,hcb⟩
          rw[H9.out.2.2.2.2]
          exact hK _ _ (AnyO.InvG.step (g:=σ) Q.out.1 rfl (OneW.read Q.out.2 hcb))
         ·refine AnyO.I rfl [8] ?_;rintro D vs u σ Q h0 hC hp ac hb K hK
          have s80:_=_:=AnyO.sv 80 8 hb hp Q
          have hf10:=AnyO.fls (hC.out 10) h0 (by kernel_rfl)
          go_simp
          refine hK _ _ (AnyO.InvG.ghost (g:=σ) u.heap.size Q.out.1 ?_ rfl ?_)
          ·intro j hj hq
           rcases j with _|_|_|_|_|_|_|_|_|_|_|_|_|j
           all_goals first|exact hq|exact absurd (show D 9=true from hj) (by rw[h0];decide)|exact absurd (show D 10=true from hj) (by rw[hf10];decide)
          exact⟨Below.step Q.out.2.bl (below_alloc _ _),fun _=>⟨fun _=>⟨_,rfl,at_new u _ _ _ rfl⟩,Q.out.2.bl.size⟩⟩
         all_goals
          refine AnyO.J rfl ?_;rintro D vs u σ Q h0 hC hp ac hb K hK
          try have s3:ac.tmps[3]?.getD undef=.pointer (some ⟨g,0,none⟩):=by rw[hb.out];kernel_rfl
          try have s72:_=_:=AnyO.sv 72 0 hb hp Q
          try have s74:_=_:=AnyO.sv 74 2 hb hp Q
          try have s0:ac.tmps[0]?.getD undef=.pointer (some ⟨b,0,none⟩):=by rw[hb.out];kernel_rfl
          try have s77:_=_:=AnyO.sv 77 5 hb hp Q
          try have s73:_=_:=AnyO.sv 73 1 hb hp Q
          try have s75:_=_:=AnyO.sv 75 3 hb hp Q
          try have s79:_=_:=AnyO.sv 79 7 hb hp Q
          try have s81:_=_:=AnyO.sv 81 9 hb hp Q
          obtain⟨rr1_0,rr2_0⟩:=(H9.out.2.2.2.1.keep Q.out.2.bl).idC
          have rr_1:=((H9.out.2.2.2.1.keep Q.out.2.bl).cell 34).trans (cC_at (aC_34 c))
          go_simp
          exact hK _ _ (AnyO.InvG.step (g:=σ) Q.out.1 rfl (OneW.read Q.out.2 (Below.refl _ _)))
        ·intro D vs u hI hD
         obtain⟨σ,hP,hW⟩:=hI
         have e0:_=_:=hP 0 (hD 0 (by decide))
         have e1:_=_:=hP 1 (hD 1 (by decide))
         have e2:_=_:=hP 2 (hD 2 (by decide))
         have e3:_=_:=hP 3 (hD 3 (by decide))
         have e4:_=_:=hP 4 (hD 4 (by decide))
         have e5:_=_:=hP 5 (hD 5 (by decide))
         have e6:_=_:=hP 6 (hD 6 (by decide))
         have e7:_=_:=hP 7 (hD 7 (by decide))
         have e8:_=_:=hP 8 (hD 8 (by decide))
         have e9:_=_:=hP 9 (hD 9 (by decide))
         have e10:_=_:=hP 10 (hD 10 (by decide))
         have e11:_=_:=hP 11 (hD 11 (by decide))
         have e12:_=_:=hP 12 (hD 12 (by decide))
         have hst:=hW.one (hD 9 (by decide))
         have HST9:=Lib.hid (And.intro hW.bl hst)
         clear hst
         have HW:=Lib.hid hW
         clear hW hP hD
         rw[puts_range [some 72,some 73,some 74,some 75,some 76,some 77,some 78,some 79,some 80,some 81,some 4,some 5,some 6] (by kernel_rfl)]
         simp only[putL,Nat.reduceAdd,e0,e1,e2,e3,e4,e5,e6,e7,e8,e9,e10,e11,e12]
         clear e0 e1 e2 e3 e4 e5 e6 e7 e8 e9 e10 e11 e12
         go_simp
         go_wp2
         go_ret3
         refine⟨(some ⟨σ,0,none⟩,1,1),(none,0,0),rfl,F9,⟨v8,vk,by rw[HOK.out];exact H9.out.1.keep HST9.out.1⟩,H9.out.2.1.trans (Kp.of_below HST9.out.1),⟨rfl,Nat.le_refl _,by rw[HOK.out,H9.out.2.2.2.2];exact HST9.out.2.1,fun ad e _ hm=>?_⟩,SlF.nil _ _ _⟩
         cases e
         have h1:=H9.out.2.2.1 _ hm
         have h2:=HST9.out.2.2
         dsimp only at h1
         omega
      ·have HOK:=Lib.hid (show offK s c=withoutL s.kept c.id by unfold offK;rw[hp2];dsimp only;rw[hpk];exact if_neg hz)
       have q1:(s.kept[k2].size != c.size)=true:=by simpa using hz
       clear hz hpk hp2
       go_wp2
       go_quiet (fail)
       go_wp2
       clear r32 q34 rr hae
       refine AnyO.wp_anyI (by kernel_rfl) (by kernel_rfl) (AnyO.InvG (σ:=SlV) (fun σ=>AnyO.pvL [some (.pointer (some ⟨b,0,none⟩)),some (.pointer (some ⟨b,0,none⟩)),some (.pointer (some ⟨b,0,none⟩)),some (.pointer (some ⟨b,3,none⟩)),some (.slice vk.1 vk.2.1 vk.2.2),some (.pointer (some ⟨g,2,none⟩)),some (vI c.id),some (.slice σ.1 σ.2.1 σ.2.2),some (.pointer (some ⟨b,0,none⟩)),some (.pointer (some ⟨b,3,none⟩)),none]) (fun σ D u=>WK b s F0 va vk (withoutL s.kept c.id) U5 σ u (D 7) (D 10))) (AnyO.InvG.start (g:=(none,0,0)) (Below.step (below_drewN _ _) (below_drew _))) ?_ ?_
       ·intro i hi
        have hi2:i=4∨i=7∨i=10∨i=0∨i=1∨i=2∨i=3∨i=5∨i=6∨i=8∨i=9:=by simp only[List.size_toArray,List.length_cons,List.length_nil] at hi;omega
        clear hi
        rcases hi2 with rfl|rfl|rfl|rfl|rfl|rfl|rfl|rfl|rfl|rfl|rfl
        ·refine AnyO.I rfl [3] ?_;rintro D vs u σ Q h0 hC hp ac hb K hK
         have s51:_=_:=AnyO.sv 51 3 hb hp Q
         have hf7:=AnyO.fls (hC.out 7) h0 (by kernel_rfl)
         have hst:=Q.out.2
         rw[show D 7=false from hf7] at hst
         have rr:=(HT5.out.1.keep hst).c3
         clear hst hf7
         go_simp
         exact hK _ _ (AnyO.InvG.step (g:=σ) Q.out.1 rfl (WK.read Q.out.2 (Below.refl _ _)))
        ·refine AnyO.I rfl [4,6] ?_;rintro D vs u σ Q h0 hC hp ac hb K hK
         have s52:_=_:=AnyO.sv 52 4 hb hp Q
         have s54:_=_:=AnyO.sv 54 6 hb hp Q
         have hf10:=AnyO.fls (hC.out 10) h0 (by kernel_rfl)
         go_simp
         have hst:=Q.out.2
         rw[show D 7=false from h0] at hst
         go_at_call 70
         refine (without42 0 _ s.kept c.id u (HT5.out.1.keep hst).ok HNK.out).mono ?_
         rintro e w2 ⟨v',rfl,ho',hg',hat'⟩
         obtain⟨A1,c1,rfl, -, -⟩:=Own.sl ho'
         refine hK _ _ (AnyO.InvG.ghost (g:=σ) (A1,_,c1) Q.out.1 ?_ rfl ?_)
         ·intro j hj hq
          rcases j with _|_|_|_|_|_|_|_|_|_|_|j
          all_goals first|exact hq|exact absurd (show D 7=true from hj) (by rw[h0];decide)
         rw[show AnyO.addD D 7 7=true from rfl,show AnyO.addD D 7 10=D 10 from rfl,hf10]
         exact WK.grow hst ho' hg' (Or.inl hat')
        ·refine AnyO.I rfl [9,7,7,0,1,2,3,4,5,6,7] ?_;rintro D vs u σ Q h0 hC hp ac hb K hK
         have s57:_=_:=AnyO.sv 57 9 hb hp Q
         have s55:_=_:=AnyO.sv 55 7 hb hp Q
         have hp7:D 7=true:=hp.out 7 (by decide)
         have hst:=Q.out.2
         rw[show D 7=true from hp7,show D 10=false from h0] at hst
         obtain⟨rf,rc,rp⟩:=WK.put hst HT5.out.1
         have RP:=Lib.hid rp
         clear hst rp
         go_simp
         exact hK undef _ (AnyO.InvG.step (g:=σ) Q.out.1 trivial (by rw[show AnyO.addD D 10 7=D 7 from rfl,hp7,show AnyO.addD D 10 10=true from rfl];exact RP.out))
        all_goals
         refine AnyO.J rfl ?_;rintro D vs u σ Q h0 hC hp ac hb K hK
         try have s0:ac.tmps[0]?.getD undef=.pointer (some ⟨b,0,none⟩):=by rw[hb.out];kernel_rfl
         try have s49:_=_:=AnyO.sv 49 1 hb hp Q
         try have s50:_=_:=AnyO.sv 50 2 hb hp Q
         try have s3:ac.tmps[3]?.getD undef=.pointer (some ⟨g,0,none⟩):=by rw[hb.out];kernel_rfl
         try have s53:_=_:=AnyO.sv 53 5 hb hp Q
         try have s48:_=_:=AnyO.sv 48 0 hb hp Q
         try have s56:_=_:=AnyO.sv 56 8 hb hp Q
         obtain⟨rr1,rr2⟩:=(Q.out.2.row HT5.out.1 HT5.out.2.1 H1.out.2.2.2).idC
         go_simp
         exact hK _ _ (AnyO.InvG.step (g:=σ) Q.out.1 rfl (WK.read Q.out.2 (Below.refl _ _)))
       ·intro D vs u hI hD
        obtain⟨σ,hP,hW⟩:=hI
        have e0:_=_:=hP 0 (hD 0 (by decide))
        have e1:_=_:=hP 1 (hD 1 (by decide))
        have e2:_=_:=hP 2 (hD 2 (by decide))
        have e3:_=_:=hP 3 (hD 3 (by decide))
        have e4:_=_:=hP 4 (hD 4 (by decide))
        have e5:_=_:=hP 5 (hD 5 (by decide))
        have e6:_=_:=hP 6 (hD 6 (by decide))
        have e7:_=_:=hP 7 (hD 7 (by decide))
        have e8:_=_:=hP 8 (hD 8 (by decide))
        have e9:_=_:=hP 9 (hD 9 (by decide))
        have hst:=hW
        rw[show D 7=true from hD 7 (by decide),show D 10=true from hD 10 (by decide)] at hst
        have HST:=Lib.hid hst
        clear hst
        have HW:=Lib.hid hW
        clear hW hP hD
        rw[puts_range [some 48,some 49,some 50,some 51,some 52,some 53,some 54,some 55,some 56,some 57,none] (by kernel_rfl)]
        simp only[putL,Nat.reduceAdd,e0,e1,e2,e3,e4,e5,e6,e7,e8,e9]
        clear e0 e1 e2 e3 e4 e5 e6 e7 e8 e9
        obtain⟨hT7,hK7⟩:=HST.out
        go_simp
        go_wp2
        obtain⟨s1,hs1⟩:∃ s1:Tk,{ s with kept:=withoutL s.kept c.id }=s1:=⟨_,rfl⟩
        have HS1:=Lib.hid hs1
        have HOK1:=Lib.hid (show offK s c=s1.kept from HOK.out.trans (congrArg Tk.kept hs1))
        rw[hs1] at hT7
        clear hs1
        obtain⟨U7,rfl⟩:∃ U7,U7=u:=⟨_,rfl⟩
        obtain⟨v7,rfl⟩:∃ v7,v7=σ:=⟨_,rfl⟩
        obtain⟨F7,hF7⟩:∃ F7,blkL v7++F0=F7:=⟨_,rfl⟩
        rw[hF7] at hT7 hK7
        have HT:=Lib.hid (And.intro hT7 (And.intro (HT5.out.2.1.kp hK7 H1.out.2.2.2) (And.intro (HT5.out.2.2.trans hK7) (hK7.out g HT5.out.2.1.lt H1.out.2.2.2).1)))
        have HNK2:=Lib.hid (show s1.kept.length≤1000000 by rw[← HS1.out];exact Nat.le_trans (without_len _ _) HNK.out)
        clear hT7 hK7 hF7
        have HNA2:=Lib.hid (show s1.act.length≤1000000 from (by rw[← HS1.out];exact HNA.out))
        refine AnyO.wp_anyI (by kernel_rfl) (by kernel_rfl) (AnyO.InvG (σ:=Nat×SlV) (fun σ=>AnyO.pvL [some (.pointer (some ⟨b,0,none⟩)),some (.pointer (some ⟨b,0,none⟩)),some (.pointer (some ⟨b,0,none⟩)),some (.pointer (some ⟨b,2,none⟩)),some (.slice va.1 va.2.1 va.2.2),some (.pointer (some ⟨g,2,none⟩)),some (vI c.id),some (.pointer (some ⟨g,34,none⟩)),some (.int .i64 c.size),some (vA (newP c)),some (.slice (some ⟨σ.1,0,none⟩) 1 1),some (.slice σ.2.1 σ.2.2.1 σ.2.2.2),some (.pointer (some ⟨b,0,none⟩)),some (.pointer (some ⟨b,2,none⟩)),none]) (fun σ D u=>APW b s1 F7 va v7 (newP c) U7 σ (D 10) (D 11) (D 14) u)) (AnyO.InvG.start (g:=(0,(none,0,0))) (⟨fun h=>(by cases h),below_drew _⟩)) ?_ ?_
        ·intro i hi
         have hi2:i=4∨i=10∨i=11∨i=14∨i=0∨i=1∨i=2∨i=3∨i=5∨i=6∨i=7∨i=8∨i=9∨i=12∨i=13:=by simp only[List.size_toArray,List.length_cons,List.length_nil] at hi;omega
         clear hi
         rcases hi2 with rfl|rfl|rfl|rfl|rfl|rfl|rfl|rfl|rfl|rfl|rfl|rfl|rfl|rfl|rfl
         ·refine AnyO.I rfl [3] ?_;rintro D vs u σ Q h0 hC hp ac hb K hK
          have s61:_=_:=AnyO.sv 61 3 hb hp Q
          have hf11:=AnyO.fls (hC.out 11) h0 (by kernel_rfl)
          have hst:=Q.out.2.st
          rw[show D 11=false from hf11] at hst
          have rr:=(HT.out.1.keep hst).c2
          clear hst hf11
          go_simp
          exact hK _ _ (AnyO.InvG.step (g:=σ) Q.out.1 rfl (APW.read Q.out.2 (Below.refl _ _)))
         ·refine AnyO.I rfl [9] ?_;rintro D vs u σ Q h0 hC hp ac hb K hK
          have s67:_=_:=AnyO.sv 67 9 hb hp Q
          have hf11:=AnyO.fls (hC.out 11) h0 (by kernel_rfl)
          go_simp
          refine hK _ _ (AnyO.InvG.ghost (g:=σ) (u.heap.size,σ.2) Q.out.1 ?_ rfl ?_)
          ·intro j hj hq
           rcases j with _|_|_|_|_|_|_|_|_|_|_|_|_|_|_|j
           all_goals first|exact hq|exact absurd (show D 10=true from hj) (by rw[h0];decide)
          exact⟨fun _ _=>fun _=>⟨_,rfl,at_new u _ _ _ rfl⟩,Q.out.2.st.read (below_alloc _ _)⟩
         ·refine AnyO.I rfl [4,10] ?_;rintro D vs u σ Q h0 hC hp ac hb K hK
          have s62:_=_:=AnyO.sv 62 4 hb hp Q
          have s68:_=_:=AnyO.sv 68 10 hb hp Q
          have hp10:D 10=true:=hp.out 10 (by decide)
          have hf14:=AnyO.fls (hC.out 14) h0 (by kernel_rfl)
          have hst:=Q.out.2.st
          rw[show D 11=false from h0] at hst
          have h91:=Q.out.2.one hp10 h0
          refine wp_append_slat u (.tmp 62) (.tmp 68) 102 rfl 0 145 35 64 cA underPAs rowPA (by decide) cA_length cA_one _ s1.act (ev_tmp s62) (HT.out.1.keep hst).oa _ 1 1 [newP c] rfl (ev_tmp s68) h91 (by have:=HNA2.out;omega) (by have:=HNA2.out;omega) (Nat.zero_le _) ?_
          intro v2 w2 ho2 hg2 hat2
          obtain⟨A2,c2,rfl, -, -⟩:=Own.sl ho2
          refine hK _ _ (AnyO.InvG.ghost (g:=σ) (σ.1,(A2,_,c2)) Q.out.1 ?_ rfl ?_)
          ·intro j hj hq
           rcases j with _|_|_|_|_|_|_|_|_|_|_|_|_|_|_|j
           all_goals first|exact hq|exact absurd (show D 11=true from hj) (by rw[h0];decide)
          refine⟨fun _ h=>(by have h2:true=false:=h;cases h2),?_⟩
          rw[show AnyO.addD D 11 11=true from rfl,show AnyO.addD D 11 14=D 14 from rfl,hf14]
          exact WA.grow hst ho2 hg2 hat2
         ·refine AnyO.I rfl [13,11,11,0,1,2,3,4,5,6,7,8,9,10,11] ?_;rintro D vs u σ Q h0 hC hp ac hb K hK
          have s71:_=_:=AnyO.sv 71 13 hb hp Q
          have s69:_=_:=AnyO.sv 69 11 hb hp Q
          have hp11:D 11=true:=hp.out 11 (by decide)
          have hst:=Q.out.2.st
          rw[show D 11=true from hp11,show D 14=false from h0] at hst
          obtain⟨rf,rc,rp⟩:=WA.put hst HT.out.1
          have RP:=Lib.hid rp
          clear hst rp
          go_simp
          exact hK undef _ (AnyO.InvG.step (g:=σ) Q.out.1 trivial ⟨fun _ h=>absurd (show D 11=false from h) (by rw[hp11];decide),by rw[show AnyO.addD D 14 11=D 11 from rfl,hp11,show AnyO.addD D 14 14=true from rfl];exact RP.out⟩)
         all_goals
          refine AnyO.J rfl ?_;rintro D vs u σ Q h0 hC hp ac hb K hK
          try have s0:ac.tmps[0]?.getD undef=.pointer (some ⟨b,0,none⟩):=by rw[hb.out];kernel_rfl
          try have s59:_=_:=AnyO.sv 59 1 hb hp Q
          try have s60:_=_:=AnyO.sv 60 2 hb hp Q
          try have s3:ac.tmps[3]?.getD undef=.pointer (some ⟨g,0,none⟩):=by rw[hb.out];kernel_rfl
          try have s63:_=_:=AnyO.sv 63 5 hb hp Q
          try have s65:_=_:=AnyO.sv 65 7 hb hp Q
          try have s64:_=_:=AnyO.sv 64 6 hb hp Q
          try have s66:_=_:=AnyO.sv 66 8 hb hp Q
          try have s58:_=_:=AnyO.sv 58 0 hb hp Q
          try have s70:_=_:=AnyO.sv 70 12 hb hp Q
          obtain⟨rr1_0,rr2_0⟩:=(Q.out.2.st.row HT.out.1 HT.out.2.1 HT.out.2.2.2).idC
          have rr_1:=((Q.out.2.st.row HT.out.1 HT.out.2.1 HT.out.2.2.2).cell 34).trans (cC_at (aC_34 c))
          go_simp
          exact hK _ _ (AnyO.InvG.step (g:=σ) Q.out.1 rfl (APW.read Q.out.2 (Below.refl _ _)))
        ·intro D vs u hI hD
         obtain⟨σ,hP,hW⟩:=hI
         have e0:_=_:=hP 0 (hD 0 (by decide))
         have e1:_=_:=hP 1 (hD 1 (by decide))
         have e2:_=_:=hP 2 (hD 2 (by decide))
         have e3:_=_:=hP 3 (hD 3 (by decide))
         have e4:_=_:=hP 4 (hD 4 (by decide))
         have e5:_=_:=hP 5 (hD 5 (by decide))
         have e6:_=_:=hP 6 (hD 6 (by decide))
         have e7:_=_:=hP 7 (hD 7 (by decide))
         have e8:_=_:=hP 8 (hD 8 (by decide))
         have e9:_=_:=hP 9 (hD 9 (by decide))
         have e10:_=_:=hP 10 (hD 10 (by decide))
         have e11:_=_:=hP 11 (hD 11 (by decide))
         have e12:_=_:=hP 12 (hD 12 (by decide))
         have e13:_=_:=hP 13 (hD 13 (by decide))
         have hst:=hW.st
         rw[show D 11=true from hD 11 (by decide),show D 14=true from hD 14 (by decide)] at hst
         have HST:=Lib.hid hst
         clear hst
         have HW:=Lib.hid hW
         clear hW hP hD
         rw[puts_range [some 58,some 59,some 60,some 61,some 62,some 63,some 64,some 65,some 66,some 67,some 68,some 69,some 70,some 71,none] (by kernel_rfl)]
         simp only[putL,Nat.reduceAdd,e0,e1,e2,e3,e4,e5,e6,e7,e8,e9,e10,e11,e12,e13]
         clear e0 e1 e2 e3 e4 e5 e6 e7 e8 e9 e10 e11 e12 e13
         obtain⟨hT8,hK8⟩:=HST.out
         go_simp
         go_wp2
         obtain⟨F9,hT9,hK9,hF9⟩:=hT8.shrink
         have hr9:=HT.out.2.1.kp hK8 HT.out.2.2.2
         obtain⟨n9,hn9⟩:∃ n9,gotL s1.kept c.id=n9:=⟨_,rfl⟩
         have H9:=Lib.hid (And.intro hT9 (And.intro (HT.out.2.2.1.trans (hK8.trans hK9)) (And.intro hF9 (And.intro hr9 hn9))))
         clear hT8 hK8 hT9 hK9 hF9 hr9 hn9
         obtain⟨U8,rfl⟩:∃ U8,U8=u:=⟨_,rfl⟩
         obtain⟨v8,hv8⟩:∃ v8,σ.2=v8:=⟨_,rfl⟩
         rw[hv8] at H9
         refine AnyO.wp_anyI (by kernel_rfl) (by kernel_rfl) (AnyO.InvG (σ:=Nat) (fun σ=>AnyO.pvL [some (.pointer (some ⟨g,2,none⟩)),some (vI c.id),some (.pointer (some ⟨g,34,none⟩)),some (.int .i64 c.size),some (.pointer (some ⟨b,0,none⟩)),some (.pointer (some ⟨g,2,none⟩)),some (vI c.id),some (.int .i64 n9),some (vQn (c.id,c.size,n9)),some (.slice (some ⟨σ,0,none⟩) 1 1),some (.slice (some ⟨σ,0,none⟩) 1 1),some (Value.slice none 0 0),some (Value.int IntKind.i64 0)]) (fun σ D u=>OneW cQn U8 (c.id,c.size,n9) σ (D 9) u)) (AnyO.InvG.start (g:=0) (⟨below_drew _,fun h=>by cases h⟩)) ?_ ?_
         ·intro i hi
          have hi2:i=7∨i=9∨i=0∨i=1∨i=2∨i=3∨i=4∨i=5∨i=6∨i=8∨i=10∨i=11∨i=12:=by simp only[List.size_toArray,List.length_cons,List.length_nil] at hi;omega
          clear hi
          rcases hi2 with rfl|rfl|rfl|rfl|rfl|rfl|rfl|rfl|rfl|rfl|rfl|rfl|rfl
          ·refine AnyO.I rfl [4,6] ?_;rintro D vs u σ Q h0 hC hp ac hb K hK
           have s76:_=_:=AnyO.sv 76 4 hb hp Q
           have s78:_=_:=AnyO.sv 78 6 hb hp Q
           go_simp
           go_at_call 69
           refine (keptBytes41 b _ F9 v8 v7 c.id u (H9.out.1.keep Q.out.2.bl) HNK2.out).mono ?_
           rintro e w2 ⟨rfl,hcb⟩
           rw[H9.out.2.2.2.2]
           exact hK _ _ (AnyO.InvG.step (g:=σ) Q.out.1 rfl (OneW.read Q.out.2 hcb))
          ·refine AnyO.I rfl [8] ?_;rintro D vs u σ Q h0 hC hp ac hb K hK
           have s80:_=_:=AnyO.sv 80 8 hb hp Q
           have hf10:=AnyO.fls (hC.out 10) h0 (by kernel_rfl)
           go_simp
           refine hK _ _ (AnyO.InvG.ghost (g:=σ) u.heap.size Q.out.1 ?_ rfl ?_)
           ·intro j hj hq
            rcases j with _|_|_|_|_|_|_|_|_|_|_|_|_|j
            all_goals first|exact hq|exact absurd (show D 9=true from hj) (by rw[h0];decide)|exact absurd (show D 10=true from hj) (by rw[hf10];decide)
           exact⟨Below.step Q.out.2.bl (below_alloc _ _),fun _=>⟨fun _=>⟨_,rfl,at_new u _ _ _ rfl⟩,Q.out.2.bl.size⟩⟩
          all_goals
           refine AnyO.J rfl ?_;rintro D vs u σ Q h0 hC hp ac hb K hK
           try have s3:ac.tmps[3]?.getD undef=.pointer (some ⟨g,0,none⟩):=by rw[hb.out];kernel_rfl
           try have s72:_=_:=AnyO.sv 72 0 hb hp Q
           try have s74:_=_:=AnyO.sv 74 2 hb hp Q
           try have s0:ac.tmps[0]?.getD undef=.pointer (some ⟨b,0,none⟩):=by rw[hb.out];kernel_rfl
           try have s77:_=_:=AnyO.sv 77 5 hb hp Q
           try have s73:_=_:=AnyO.sv 73 1 hb hp Q
           try have s75:_=_:=AnyO.sv 75 3 hb hp Q
           try have s79:_=_:=AnyO.sv 79 7 hb hp Q
           try have s81:_=_:=AnyO.sv 81 9 hb hp Q
           obtain⟨rr1_0,rr2_0⟩:=(H9.out.2.2.2.1.keep Q.out.2.bl).idC
           have rr_1:=((H9.out.2.2.2.1.keep Q.out.2.bl).cell 34).trans (cC_at (aC_34 c))
           go_simp
           exact hK _ _ (AnyO.InvG.step (g:=σ) Q.out.1 rfl (OneW.read Q.out.2 (Below.refl _ _)))
         ·intro D vs u hI hD
          obtain⟨σ,hP,hW⟩:=hI
          have e0:_=_:=hP 0 (hD 0 (by decide))
          have e1:_=_:=hP 1 (hD 1 (by decide))
          have e2:_=_:=hP 2 (hD 2 (by decide))
          have e3:_=_:=hP 3 (hD 3 (by decide))
          have e4:_=_:=hP 4 (hD 4 (by decide))
          have e5:_=_:=hP 5 (hD 5 (by decide))
          have e6:_=_:=hP 6 (hD 6 (by decide))
          have e7:_=_:=hP 7 (hD 7 (by decide))
          have e8:_=_:=hP 8 (hD 8 (by decide))
          have e9:_=_:=hP 9 (hD 9 (by decide))
          have e10:_=_:=hP 10 (hD 10 (by decide))
          have e11:_=_:=hP 11 (hD 11 (by decide))
          have e12:_=_:=hP 12 (hD 12 (by decide))
          have hst:=hW.one (hD 9 (by decide))
          have HST9:=Lib.hid (And.intro hW.bl hst)
          clear hst
          have HW:=Lib.hid hW
          clear hW hP hD
          rw[puts_range [some 72,some 73,some 74,some 75,some 76,some 77,some 78,some 79,some 80,some 81,some 4,some 5,some 6] (by kernel_rfl)]
          simp only[putL,Nat.reduceAdd,e0,e1,e2,e3,e4,e5,e6,e7,e8,e9,e10,e11,e12]
          clear e0 e1 e2 e3 e4 e5 e6 e7 e8 e9 e10 e11 e12
          go_simp
          go_wp2
          go_ret3
          refine⟨(some ⟨σ,0,none⟩,1,1),(none,0,0),rfl,F9,⟨v8,v7,by rw[HOK1.out];have hs1:=HS1.out;subst hs1;exact H9.out.1.keep HST9.out.1⟩,H9.out.2.1.trans (Kp.of_below HST9.out.1),⟨rfl,Nat.le_refl _,by rw[HOK1.out,H9.out.2.2.2.2];exact HST9.out.2.1,fun ad e _ hm=>?_⟩,SlF.nil _ _ _⟩
          cases e
          have h1:=H9.out.2.2.1 _ hm
          have h2:=HST9.out.2.2
          dsimp only at h1
          omega
open Go.RowKit
set_option maxRecDepth 100000 in
set_option maxHeartbeats 6400000 in
theorem answer16_v4 (b:Nat) (s:Tk) (F:List Nat) (c:Cm) (w:World) (h:TkAt b s F w) (hL:FormsAt w) (hn:c.name.size≤1000000) (hna:s.act.length≤100) (hnk:s.kept.length≤100) (hc:chk c=0) (hv:c.verb=4) :
  Calls Tryz.prog 32 #[.pointer (some ⟨b,0,none⟩),vC c] w (AnsP b (answerT s c).1 (answerT s c).2.1 (answerT s c).2.2 F w):=by
 obtain⟨va,vk,h⟩:=h
 obtain⟨F0,h0,hK0,hlt⟩:=h.shrink
 obtain⟨g,hg⟩:∃ g,w.heap.size=g:=⟨_,rfl⟩
 obtain⟨W1,hW1⟩:∃ W1,w.alloc (.cells (aC c) 74)=W1:=⟨_,rfl⟩
 obtain⟨r0,hr0⟩:∃ r0,W1.heap.size=r0:=⟨_,rfl⟩
 obtain⟨W2,hW2⟩:∃ W2,W1.alloc (.cells (aC zC) 74)=W2:=⟨_,rfl⟩
 have hb1:Below w.heap.size w W1:=by rw[← hW1];exact below_alloc _ _
 have hb2:Below W1.heap.size W1 W2:=by rw[← hW2];exact below_alloc _ _
 have hb:=Below.step hb1 hb2
 have hrow:Row W1 g (cC c) 74:=by rw[← hW1,← hg];exact Row.new w (cC c) _
 have hro:Row W2 r0 (cC zC) 74:=by rw[← hW2,← hr0];exact Row.new W1 (cC zC) _
 have hs1:=hb1.size
 have r1:=(Row.okw (hrow.keep hb2) (cC_length c)).1
 have r2:rdA W2 ⟨g,0,none⟩ 39=vC c:=(Row.okw (hrow.keep hb2) (cC_length c)).2
 have H1:=Lib.hid (And.intro (hrow.keep hb2) (And.intro hro (And.intro (h0.keep hb) (And.intro (hK0.trans (Kp.of_below hb)) (And.intro (show g∉F0 from fun hm=>by have:=hlt g hm;omega) (And.intro (show r0∉F0 from fun hm=>by have:=hlt r0 hm;omega) (hL.keep hb)))))))
 have HR:=Lib.hid (show w.heap.size≤r0 by omega)
 have HN:=Lib.hid hn
 have HNA:=Lib.hid (show s.act.length≤1000000 by omega)
 have HNK:=Lib.hid (show s.kept.length≤1000000 by omega)
 clear hb1 hb2 hb hrow hro h h0 hK0 hlt hL hn hs1
 have HC:=Lib.hid hc
 have HV:=Lib.hid hv
 have hA:answerT s c=(match posL s.act c.id with
  | none=>(s,zC,8)
  | some k=>if (ptK s.act k).state≠1 then (s,zC,10) else (⟨s.win,s.opn,withoutL s.act c.id,withoutL s.kept c.id⟩,c,0)):=by
  unfold answerT
  rw[if_neg (by rw[hc];decide),if_neg (by rw[hv];decide),hv]
  rfl
 obtain⟨Z,hZ⟩:∃ Z,answerT s c=Z:=⟨_,rfl⟩
 rw[hZ]
 rw[hA] at hZ
 have HZ:=Lib.hid hZ
 clear hA hc hv hZ
 obtain⟨i,hi⟩:∃ i,idxL s.act c.id=i:=⟨_,rfl⟩
 have HI:=Lib.hid hi
 clear hi
 go_enter Tryz.func32,Tryz.ntmps32
 go_wp2_with (go_at_call 53;refine (check16 c W2 H1.out.2.2.2.2.2.2 HN.out).mono ?_;rintro e w3 ⟨rfl,hb3⟩;rw[HC.out];have ro:=(H1.out.2.1.keep hb3).rowOk (cC_length zC);have j0:w3.cell? ⟨g,0,none⟩=some (.int .i64 c.verb):=(H1.out.1.keep hb3).cell 0;rw[HV.out] at j0;have H3:=Lib.hid (And.intro (H1.out.1.keep hb3) (And.intro (H1.out.2.1.keep hb3) (And.intro (H1.out.2.2.1.keep hb3) (H1.out.2.2.2.1.trans (Kp.of_below hb3)))));clear hb3)
 refine AnyO.wp_anyI (by kernel_rfl) (by kernel_rfl) (AnyO.InvG (σ:=Unit) (fun σ=>AnyO.pvL [some (.pointer (some ⟨b,0,none⟩)),some (.pointer (some ⟨b,0,none⟩)),some (.pointer (some ⟨b,2,none⟩)),some (.slice va.1 s.act.length va.2.2),some (.pointer (some ⟨g,2,none⟩)),some (vI c.id),some (.int .i64 i),some (.int .i64 i)]) (fun _ _ u=>Below w3.heap.size w3 u)) (AnyO.InvG.start (g:=()) (below_drew _)) ?_ ?_
 ·intro i hi
  have hi2:i=6∨i=0∨i=1∨i=2∨i=3∨i=4∨i=5∨i=7:=by simp only[List.size_toArray,List.length_cons,List.length_nil] at hi;omega
  clear hi
  rcases hi2 with rfl|rfl|rfl|rfl|rfl|rfl|rfl|rfl
  ·refine AnyO.I rfl [3,5] ?_;rintro D vs u σ Q h0 hC hp ac hb K hK
   have s29:_=_:=AnyO.sv 29 3 hb hp Q
   have s31:_=_:=AnyO.sv 31 5 hb hp Q
   go_simp
   go_at_call 68
   refine (find40 va.1 va.2.2 s.act c.id u (Own.slOf ((H3.out.2.2.1.keep Q.out.2).oa)) HNA.out).mono ?_
   rintro e w2 ⟨rfl,hcb⟩
   rw[HI.out]
   exact hK _ _ (AnyO.InvG.step (g:=σ) Q.out.1 rfl (Below.step Q.out.2 hcb))
  all_goals
   refine AnyO.J rfl ?_;rintro D vs u σ Q h0 hC hp ac hb K hK
   try have s0:ac.tmps[0]?.getD undef=.pointer (some ⟨b,0,none⟩):=by rw[hb.out];kernel_rfl
   try have s26:_=_:=AnyO.sv 26 0 hb hp Q
   try have s27:_=_:=AnyO.sv 27 1 hb hp Q
   try have s28:_=_:=AnyO.sv 28 2 hb hp Q
   try have s3:ac.tmps[3]?.getD undef=.pointer (some ⟨g,0,none⟩):=by rw[hb.out];kernel_rfl
   try have s30:_=_:=AnyO.sv 30 4 hb hp Q
   try have s32:_=_:=AnyO.sv 32 6 hb hp Q
   have rr_0:=(H3.out.2.2.1.keep Q.out.2).c2
   rw[H3.out.2.2.1.la] at rr_0
   obtain⟨rr1_1,rr2_1⟩:=(H3.out.1.keep Q.out.2).idC
   go_simp
   exact hK _ _ (AnyO.InvG.step (g:=σ) Q.out.1 rfl Q.out.2)
 ·intro D vs u hI hD
  obtain⟨σ,hP,hW⟩:=hI
  have e0:_=_:=hP 0 (hD 0 (by decide))
  have e1:_=_:=hP 1 (hD 1 (by decide))
  have e2:_=_:=hP 2 (hD 2 (by decide))
  have e3:_=_:=hP 3 (hD 3 (by decide))
  have e4:_=_:=hP 4 (hD 4 (by decide))
  have e5:_=_:=hP 5 (hD 5 (by decide))
  have e6:_=_:=hP 6 (hD 6 (by decide))
  have e7:_=_:=hP 7 (hD 7 (by decide))
  have HW:=Lib.hid hW
  clear hW hP hD
  rw[puts_range [some 26,some 27,some 28,some 29,some 30,some 31,some 32,some 7] (by kernel_rfl)]
  simp only[putL,Nat.reduceAdd,e0,e1,e2,e3,e4,e5,e6,e7]
  clear e0 e1 e2 e3 e4 e5 e6 e7
  go_simp
  clear ro j0
  obtain⟨U,rfl⟩:∃ U,U=u:=⟨_,rfl⟩
  have ro:=(H3.out.2.1.keep HW.out).rowOk (cC_length zC)
  have j0:=(H3.out.1.keep HW.out).cell 0
  change U.cell? _=some (.int .i64 c.verb) at j0
  rw[HV.out] at j0
  have HT:=Lib.hid (And.intro (H3.out.2.2.1.keep HW.out) (And.intro (H3.out.1.keep HW.out) (And.intro (H3.out.2.1.keep HW.out) (H3.out.2.2.2.trans (Kp.of_below HW.out)))))
  cases hp:posL s.act c.id with
  | none =>
   have hii:i=-1:=by rw[← HI.out];exact idx_none hp
   subst hii
   have hz:=HZ.out
   rw[hp] at hz
   dsimp only at hz
   subst hz
   clear hp
   go_wp2
   exact bodyPost_ret (v:=.tuple #[vC zC,.int .i64 8]) (results_c2 (ad:=⟨r0,0,none⟩) rfl rfl (ld_setRow zC ro) rfl) rfl ⟨rfl,fin_row HT.out.1 HT.out.2.2.2 H1.out.2.2.2.2.2.1 HR.out zC⟩
  | some k =>
   obtain⟨hk, -, -⟩:=pos_some hp
   have hii:i=(k:Int):=by rw[← HI.out];exact idx_some hp
   subst hii
   have hz:=HZ.out
   rw[hp] at hz
   dsimp only at hz
   clear hp
   obtain⟨ad,hae, -, -,hat⟩:=Sl.pt (Own.slOf HT.out.1.oa) hk
   have rr:=HT.out.1.c2
   rw[HT.out.1.la] at rr
   have r33:=hat.f33
   have hk1:(k:Int)<(s.act.length:Int):=by omega
   have hpk:ptK s.act k=s.act[k]:=ptK_eq hk
   clear hat
   rw[hae] at rr
   by_cases h1:s.act[k].state=1
   ·rw[hpk,if_neg (by intro h;exact h h1)] at hz
    subst hz
    rw[h1] at r33
    clear h1 hpk
    go_wp2
    go_quiet (fail)
    go_wp2
    clear hae rr r33 ro
    refine AnyO.wp_anyI (by kernel_rfl) (by kernel_rfl) (AnyO.InvG (σ:=SlV) (fun σ=>AnyO.pvL [some (.pointer (some ⟨b,0,none⟩)),some (.pointer (some ⟨b,0,none⟩)),some (.pointer (some ⟨b,0,none⟩)),some (.pointer (some ⟨b,2,none⟩)),some (.slice va.1 va.2.1 va.2.2),some (.pointer (some ⟨g,2,none⟩)),some (vI c.id),some (.slice σ.1 σ.2.1 σ.2.2),some (.pointer (some ⟨b,0,none⟩)),some (.pointer (some ⟨b,2,none⟩)),none]) (fun σ D u=>WA b s F0 va vk (withoutL s.act c.id) U σ u (D 7) (D 10))) (AnyO.InvG.start (g:=(none,0,0)) (Below.step (below_drewN _ _) (below_drew _))) ?_ ?_
    ·intro i hi
     have hi2:i=4∨i=7∨i=10∨i=0∨i=1∨i=2∨i=3∨i=5∨i=6∨i=8∨i=9:=by simp only[List.size_toArray,List.length_cons,List.length_nil] at hi;omega
     clear hi
     rcases hi2 with rfl|rfl|rfl|rfl|rfl|rfl|rfl|rfl|rfl|rfl|rfl
     ·refine AnyO.I rfl [3] ?_;rintro D vs u σ Q h0 hC hp ac hb K hK
      have s72:_=_:=AnyO.sv 72 3 hb hp Q
      have hf7:=AnyO.fls (hC.out 7) h0 (by kernel_rfl)
      have hst:=Q.out.2
      rw[show D 7=false from hf7] at hst
      have rr:=(HT.out.1.keep hst).c2
      clear hst hf7
      go_simp
      exact hK _ _ (AnyO.InvG.step (g:=σ) Q.out.1 rfl (WA.read Q.out.2 (Below.refl _ _)))
     ·refine AnyO.I rfl [4,6] ?_;rintro D vs u σ Q h0 hC hp ac hb K hK
      have s73:_=_:=AnyO.sv 73 4 hb hp Q
      have s75:_=_:=AnyO.sv 75 6 hb hp Q
      have hf10:=AnyO.fls (hC.out 10) h0 (by kernel_rfl)
      go_simp
      have hst:=Q.out.2
      rw[show D 7=false from h0] at hst
      go_at_call 70
      refine (without42 0 _ s.act c.id u (HT.out.1.keep hst).oa HNA.out).mono ?_
      rintro e w2 ⟨v',rfl,ho',hg',hat'⟩
      obtain⟨A1,c1,rfl, -, -⟩:=Own.sl ho'
      refine hK _ _ (AnyO.InvG.ghost (g:=σ) (A1,_,c1) Q.out.1 ?_ rfl ?_)
      ·intro j hj hq
       rcases j with _|_|_|_|_|_|_|_|_|_|_|j
       all_goals first|exact hq|exact absurd (show D 7=true from hj) (by rw[h0];decide)
      rw[show AnyO.addD D 7 7=true from rfl,show AnyO.addD D 7 10=D 10 from rfl,hf10]
      exact WA.grow hst ho' hg' (Or.inl hat')
     ·refine AnyO.I rfl [9,7,7,0,1,2,3,4,5,6,7] ?_;rintro D vs u σ Q h0 hC hp ac hb K hK
      have s78:_=_:=AnyO.sv 78 9 hb hp Q
      have s76:_=_:=AnyO.sv 76 7 hb hp Q
      have hp7:D 7=true:=hp.out 7 (by decide)
      have hst:=Q.out.2
      rw[show D 7=true from hp7,show D 10=false from h0] at hst
      obtain⟨rf,rc,rp⟩:=WA.put hst HT.out.1
      have RP:=Lib.hid rp
      clear hst rp
      go_simp
      exact hK undef _ (AnyO.InvG.step (g:=σ) Q.out.1 trivial (by rw[show AnyO.addD D 10 7=D 7 from rfl,hp7,show AnyO.addD D 10 10=true from rfl];exact RP.out))
     all_goals
      refine AnyO.J rfl ?_;rintro D vs u σ Q h0 hC hp ac hb K hK
      try have s0:ac.tmps[0]?.getD undef=.pointer (some ⟨b,0,none⟩):=by rw[hb.out];kernel_rfl
      try have s70:_=_:=AnyO.sv 70 1 hb hp Q
      try have s71:_=_:=AnyO.sv 71 2 hb hp Q
      try have s3:ac.tmps[3]?.getD undef=.pointer (some ⟨g,0,none⟩):=by rw[hb.out];kernel_rfl
      try have s74:_=_:=AnyO.sv 74 5 hb hp Q
      try have s69:_=_:=AnyO.sv 69 0 hb hp Q
      try have s77:_=_:=AnyO.sv 77 8 hb hp Q
      obtain⟨rr1,rr2⟩:=(Q.out.2.row HT.out.1 HT.out.2.1 H1.out.2.2.2.2.1).idC
      go_simp
      exact hK _ _ (AnyO.InvG.step (g:=σ) Q.out.1 rfl (WA.read Q.out.2 (Below.refl _ _)))
    ·intro D vs u hI hD
     obtain⟨σ,hP,hW⟩:=hI
     have e0:_=_:=hP 0 (hD 0 (by decide))
     have e1:_=_:=hP 1 (hD 1 (by decide))
     have e2:_=_:=hP 2 (hD 2 (by decide))
     have e3:_=_:=hP 3 (hD 3 (by decide))
     have e4:_=_:=hP 4 (hD 4 (by decide))
     have e5:_=_:=hP 5 (hD 5 (by decide))
     have e6:_=_:=hP 6 (hD 6 (by decide))
     have e7:_=_:=hP 7 (hD 7 (by decide))
     have e8:_=_:=hP 8 (hD 8 (by decide))
     have e9:_=_:=hP 9 (hD 9 (by decide))
     have hst:=hW
     rw[show D 7=true from hD 7 (by decide),show D 10=true from hD 10 (by decide)] at hst
     have HST:=Lib.hid hst
     clear hst
     have HW:=Lib.hid hW
     clear hW hP hD
     rw[puts_range [some 69,some 70,some 71,some 72,some 73,some 74,some 75,some 76,some 77,some 78,none] (by kernel_rfl)]
     simp only[putL,Nat.reduceAdd,e0,e1,e2,e3,e4,e5,e6,e7,e8,e9]
     clear e0 e1 e2 e3 e4 e5 e6 e7 e8 e9
     obtain⟨hT7,hK7⟩:=HST.out
     go_simp
     go_wp2
     obtain⟨U7,rfl⟩:∃ U7,U7=u:=⟨_,rfl⟩
     obtain⟨v7,rfl⟩:∃ v7,v7=σ:=⟨_,rfl⟩
     obtain⟨F7,hF7⟩:∃ F7,blkL v7++F0=F7:=⟨_,rfl⟩
     rw[hF7] at hT7 hK7
     have hout:=(hK7.out r0 HT.out.2.2.1.lt H1.out.2.2.2.2.2.1)
     have hr7:=HT.out.2.2.1.kp hK7 H1.out.2.2.2.2.2.1
     obtain⟨s1,hs1⟩:∃ s1:Tk,{ s with act:=withoutL s.act c.id }=s1:=⟨_,rfl⟩
     rw[hs1] at hT7
     have HS1:=Lib.hid hs1
     have HS:=Lib.hid (And.intro hT7 (And.intro hK7 (And.intro hout.1 (And.intro (hK7.out g HT.out.2.1.lt H1.out.2.2.2.2.1).1 (And.intro (HT.out.2.1.kp hK7 H1.out.2.2.2.2.1) hr7)))))
     have HNK1:=Lib.hid (show s1.kept.length≤1000000 by rw[← hs1];exact HNK.out)
     clear hT7 hK7 hF7 hr7 hout hs1
     refine AnyO.wp_anyI (by kernel_rfl) (by kernel_rfl) (AnyO.InvG (σ:=SlV) (fun σ=>AnyO.pvL [some (.pointer (some ⟨b,0,none⟩)),some (.pointer (some ⟨b,0,none⟩)),some (.pointer (some ⟨b,0,none⟩)),some (.pointer (some ⟨b,3,none⟩)),some (.slice vk.1 vk.2.1 vk.2.2),some (.pointer (some ⟨g,2,none⟩)),some (vI c.id),some (.slice σ.1 σ.2.1 σ.2.2),some (.pointer (some ⟨b,0,none⟩)),some (.pointer (some ⟨b,3,none⟩)),none]) (fun σ D u=>WK b s1 F7 v7 vk (withoutL s1.kept c.id) U7 σ u (D 7) (D 10))) (AnyO.InvG.start (g:=(none,0,0)) (below_drew _)) ?_ ?_
     ·intro i hi
      have hi2:i=4∨i=7∨i=10∨i=0∨i=1∨i=2∨i=3∨i=5∨i=6∨i=8∨i=9:=by simp only[List.size_toArray,List.length_cons,List.length_nil] at hi;omega
      clear hi
      rcases hi2 with rfl|rfl|rfl|rfl|rfl|rfl|rfl|rfl|rfl|rfl|rfl
      ·refine AnyO.I rfl [3] ?_;rintro D vs u σ Q h0 hC hp ac hb K hK
       have s82:_=_:=AnyO.sv 82 3 hb hp Q
       have hf7:=AnyO.fls (hC.out 7) h0 (by kernel_rfl)
       have hst:=Q.out.2
       rw[show D 7=false from hf7] at hst
       have rr:=(HS.out.1.keep hst).c3
       clear hst hf7
       go_simp
       exact hK _ _ (AnyO.InvG.step (g:=σ) Q.out.1 rfl (WK.read Q.out.2 (Below.refl _ _)))
      ·refine AnyO.I rfl [4,6] ?_;rintro D vs u σ Q h0 hC hp ac hb K hK
       have s83:_=_:=AnyO.sv 83 4 hb hp Q
       have s85:_=_:=AnyO.sv 85 6 hb hp Q
       have hf10:=AnyO.fls (hC.out 10) h0 (by kernel_rfl)
       go_simp
       have hst:=Q.out.2
       rw[show D 7=false from h0] at hst
       go_at_call 70
       refine (without42 0 _ s1.kept c.id u (HS.out.1.keep hst).ok HNK1.out).mono ?_
       rintro e w2 ⟨v',rfl,ho',hg',hat'⟩
       obtain⟨A1,c1,rfl, -, -⟩:=Own.sl ho'
       refine hK _ _ (AnyO.InvG.ghost (g:=σ) (A1,_,c1) Q.out.1 ?_ rfl ?_)
       ·intro j hj hq
        rcases j with _|_|_|_|_|_|_|_|_|_|_|j
        all_goals first|exact hq|exact absurd (show D 7=true from hj) (by rw[h0];decide)
       rw[show AnyO.addD D 7 7=true from rfl,show AnyO.addD D 7 10=D 10 from rfl,hf10]
       exact WK.grow hst ho' hg' (Or.inl hat')
      ·refine AnyO.I rfl [9,7,7,0,1,2,3,4,5,6,7] ?_;rintro D vs u σ Q h0 hC hp ac hb K hK
       have s88:_=_:=AnyO.sv 88 9 hb hp Q
       have s86:_=_:=AnyO.sv 86 7 hb hp Q
       have hp7:D 7=true:=hp.out 7 (by decide)
       have hst:=Q.out.2
       rw[show D 7=true from hp7,show D 10=false from h0] at hst
       obtain⟨rf,rc,rp⟩:=WK.put hst HS.out.1
       have RP:=Lib.hid rp
       clear hst rp
       go_simp
       exact hK undef _ (AnyO.InvG.step (g:=σ) Q.out.1 trivial (by rw[show AnyO.addD D 10 7=D 7 from rfl,hp7,show AnyO.addD D 10 10=true from rfl];exact RP.out))
      all_goals
       refine AnyO.J rfl ?_;rintro D vs u σ Q h0 hC hp ac hb K hK
       try have s0:ac.tmps[0]?.getD undef=.pointer (some ⟨b,0,none⟩):=by rw[hb.out];kernel_rfl
       try have s80:_=_:=AnyO.sv 80 1 hb hp Q
       try have s81:_=_:=AnyO.sv 81 2 hb hp Q
       try have s3:ac.tmps[3]?.getD undef=.pointer (some ⟨g,0,none⟩):=by rw[hb.out];kernel_rfl
       try have s84:_=_:=AnyO.sv 84 5 hb hp Q
       try have s79:_=_:=AnyO.sv 79 0 hb hp Q
       try have s87:_=_:=AnyO.sv 87 8 hb hp Q
       obtain⟨rr1,rr2⟩:=(Q.out.2.row HS.out.1 HS.out.2.2.2.2.1 HS.out.2.2.2.1).idC
       go_simp
       exact hK _ _ (AnyO.InvG.step (g:=σ) Q.out.1 rfl (WK.read Q.out.2 (Below.refl _ _)))
     ·intro D vs u hI hD
      obtain⟨σ,hP,hW⟩:=hI
      have e0:_=_:=hP 0 (hD 0 (by decide))
      have e1:_=_:=hP 1 (hD 1 (by decide))
      have e2:_=_:=hP 2 (hD 2 (by decide))
      have e3:_=_:=hP 3 (hD 3 (by decide))
      have e4:_=_:=hP 4 (hD 4 (by decide))
      have e5:_=_:=hP 5 (hD 5 (by decide))
      have e6:_=_:=hP 6 (hD 6 (by decide))
      have e7:_=_:=hP 7 (hD 7 (by decide))
      have e8:_=_:=hP 8 (hD 8 (by decide))
      have e9:_=_:=hP 9 (hD 9 (by decide))
      have hst:=hW
      rw[show D 7=true from hD 7 (by decide),show D 10=true from hD 10 (by decide)] at hst
      have HST:=Lib.hid hst
      clear hst
      have HW:=Lib.hid hW
      clear hW hP hD
      rw[puts_range [some 79,some 80,some 81,some 82,some 83,some 84,some 85,some 86,some 87,some 88,none] (by kernel_rfl)]
      simp only[putL,Nat.reduceAdd,e0,e1,e2,e3,e4,e5,e6,e7,e8,e9]
      clear e0 e1 e2 e3 e4 e5 e6 e7 e8 e9
      obtain⟨hT8,hK8⟩:=HST.out
      obtain⟨U8,rfl⟩:∃ U8,U8=u:=⟨_,rfl⟩
      obtain⟨v8,rfl⟩:∃ v8,v8=σ:=⟨_,rfl⟩
      obtain⟨F8,hF8⟩:∃ F8,blkL v8++F7=F8:=⟨_,rfl⟩
      rw[hF8] at hT8 hK8
      have ro:=(HS.out.2.2.2.2.2.kp hK8 HS.out.2.2.1).rowOk (cC_length zC)
      have rc:=HS.out.2.2.2.2.1.kp hK8 HS.out.2.2.2.1
      have r1:=(Row.okw rc (cC_length c)).1
      have r2:rdA U8 ⟨g,0,none⟩ 39=vC c:=(Row.okw rc (cC_length c)).2
      have HS8:=Lib.hid (And.intro hT8 (And.intro hK8 (hK8.out r0 HS.out.2.2.2.2.2.lt HS.out.2.2.1).1))
      clear hT8 hK8 hF8 rc
      go_simp
      go_wp2
      have hs1:=HS1.out
      subst hs1
      exact bodyPost_ret (v:=.tuple #[vC c,.int .i64 0]) (results_c2 (ad:=⟨r0,0,none⟩) rfl rfl (ld_setRow c ro) rfl) rfl ⟨rfl,fin_row HS8.out.1 ((HT.out.2.2.2.trans HS.out.2.1).trans HS8.out.2.1) HS8.out.2.2 HR.out c⟩
   ·rw[hpk,if_pos h1] at hz
    subst hz
    have q1:(s.act[k].state != 1)=true:=by simpa using h1
    clear h1 hpk
    go_wp2
    exact bodyPost_ret (v:=.tuple #[vC zC,.int .i64 10]) (results_c2 (ad:=⟨r0,0,none⟩) rfl rfl (ld_setRow zC ro) rfl) rfl ⟨rfl,fin_row HT.out.1 HT.out.2.2.2 H1.out.2.2.2.2.2.1 HR.out zC⟩
end Go.Proofs.YtdkjgcfhepplbaaGreatDoor
