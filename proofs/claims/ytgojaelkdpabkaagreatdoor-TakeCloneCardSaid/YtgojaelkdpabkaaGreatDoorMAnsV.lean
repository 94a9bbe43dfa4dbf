/- Taker's Answer: Have, Later, Refuse. -/
import Derived.Test.YtgojaelkdpabkaaGreatDoorMAns
namespace Go.Proofs.YtgojaelkdpabkaaGreatDoor
open Go.RowKit
section
set_option maxRecDepth 100000
set_option maxHeartbeats 6400000
theorem answer16_v4 (b:Nat) (s:Tk) (F:List Nat) (c:Cm) (w:World) (h:TkAt b s F w) (hL:FormsAt w) (hn:c.name.size≤1000000) (hna:s.act.length≤100) (hnk:s.kept.length≤100) (hc:chk c=0) (hv:c.verb=4) :
  Calls Tryz.prog 16 #[.pointer (some ⟨b,0,none⟩),vC c] w (AnsP b (answerT s c).1 (answerT s c).2.1 (answerT s c).2.2 F w):=by
 obtain⟨va,vk,h⟩:=h
 obtain⟨F0,h0,hK0,hlt⟩:=h.shrink
 obtain⟨g,hg⟩:∃ g,w.heap.size=g:=⟨_,rfl⟩
 obtain⟨W1,hW1⟩:∃ W1,w.alloc (.cells (aC c) 32)=W1:=⟨_,rfl⟩
 obtain⟨r0,hr0⟩:∃ r0,W1.heap.size=r0:=⟨_,rfl⟩
 obtain⟨W2,hW2⟩:∃ W2,W1.alloc (.cells (aC zC) 32)=W2:=⟨_,rfl⟩
 have hb1:Below w.heap.size w W1:=by rw[← hW1];exact below_alloc _ _
 have hb2:Below W1.heap.size W1 W2:=by rw[← hW2];exact below_alloc _ _
 have hb:=Below.step hb1 hb2
 have hrow:Row W1 g (cC c) 32:=by rw[← hW1,← hg];exact Row.new w (cC c) _
 have hro:Row W2 r0 (cC zC) 32:=by rw[← hW2,← hr0];exact Row.new W1 (cC zC) _
 have hs1:=hb1.size
 have r1:=(Row.okw (hrow.keep hb2) (cC_length c)).1
 have r2:rdA W2 ⟨g,0,none⟩ 39=vC c:=(Row.okw (hrow.keep hb2) (cC_length c)).2
 have H1:=Lib.hid (And.intro (hrow.keep hb2) (And.intro hro (And.intro (h0.keep hb) (And.intro (hK0.trans (Kp.of_below hb)) (And.intro (show g∉F0 from fun hm=>by have:=hlt g hm;omega) (And.intro (show r0∉F0 from fun hm=>by have:=hlt r0 hm;omega) (hL.keep hb)))))))
 have HR:=Lib.hid (show w.heap.size≤r0 by omega)
 have HN:=Lib.hid hn
 have HNA:=Lib.hid (show s.act.length≤1000000 by omega)
 have HNK:=Lib.hid (show s.kept.length≤1000000 by omega)
 clear hb1 hb2 hb hrow hro h h0 hK0 hlt hL hn hs1
 have HC:=Lib.hid hc
 have HV:=Lib.hid hv
 have hA:answerT s c=(match posL s.act c.id with
  | none=>(s,zC,8)
  | some k=>if (ptK s.act k).state≠1 then (s,zC,10) else (⟨s.win,s.opn,withoutL s.act c.id,withoutL s.kept c.id⟩,c,0)):=by
  unfold answerT
  rw[if_neg (by rw[hc];decide),if_neg (by rw[hv];decide),hv]
  rfl
 obtain⟨Z,hZ⟩:∃ Z,answerT s c=Z:=⟨_,rfl⟩
 rw[hZ]
 rw[hA] at hZ
 have HZ:=Lib.hid hZ
 clear hA hc hv hZ
 obtain⟨i,hi⟩:∃ i,idxL s.act c.id=i:=⟨_,rfl⟩
 have HI:=Lib.hid hi
 clear hi
 go_enter Tryz.func16,Tryz.ntmps16
 go_wp2_with (go_at_call 32;refine (check16 c W2 H1.out.2.2.2.2.2.2 HN.out).mono ?_;rintro e w3 ⟨rfl,hb3⟩;rw[HC.out];have ro:=(H1.out.2.1.keep hb3).rowOk (cC_length zC);have j0:w3.cell? ⟨g,0,none⟩=some (.int .i64 c.verb):=(H1.out.1.keep hb3).cell 0;rw[HV.out] at j0;have H3:=Lib.hid (And.intro (H1.out.1.keep hb3) (And.intro (H1.out.2.1.keep hb3) (And.intro (H1.out.2.2.1.keep hb3) (H1.out.2.2.2.1.trans (Kp.of_below hb3)))));clear hb3)
 refine AnyO.wp_anyI (by kernel_rfl) (by kernel_rfl) (AnyO.InvG (σ:=Unit) (fun σ=>AnyO.pvL [some (.pointer (some ⟨b,0,none⟩)),some (.pointer (some ⟨b,0,none⟩)),some (.pointer (some ⟨b,2,none⟩)),some (.slice va.1 s.act.length va.2.2),some (.pointer (some ⟨g,2,none⟩)),some (vI c.id),some (.int .i64 i),some (.int .i64 i)]) (fun _ _ u=>Below w3.heap.size w3 u)) (AnyO.InvG.start (g:=()) (below_drew _)) ?_ ?_
 ·intro i hi
  have hi2:i=6∨i=0∨i=1∨i=2∨i=3∨i=4∨i=5∨i=7:=by simp only[List.size_toArray,List.length_cons,List.length_nil] at hi;omega
  clear hi
  rcases hi2 with rfl|rfl|rfl|rfl|rfl|rfl|rfl|rfl
  ·refine AnyO.I rfl [3,5] ?_;rintro D vs u σ Q h0 hC hp ac hb K hK
   have s29:_=_:=AnyO.sv 29 3 hb hp Q
   have s31:_=_:=AnyO.sv 31 5 hb hp Q
   go_simp
   go_at_call 40
   refine (find40 va.1 va.2.2 s.act c.id u (Own.slOf ((H3.out.2.2.1.keep Q.out.2).oa)) HNA.out).mono ?_
   rintro e w2 ⟨rfl,hcb⟩
   rw[HI.out]
   exact hK _ _ (AnyO.InvG.step (g:=σ) Q.out.1 rfl (Below.step Q.out.2 hcb))
  all_goals
   refine AnyO.J rfl ?_;rintro D vs u σ Q h0 hC hp ac hb K hK
   try have s0:ac.tmps[0]?.getD undef=.pointer (some ⟨b,0,none⟩):=by rw[hb.out];kernel_rfl
   try have s26:_=_:=AnyO.sv 26 0 hb hp Q
   try have s27:_=_:=AnyO.sv 27 1 hb hp Q
   try have s28:_=_:=AnyO.sv 28 2 hb hp Q
   try have s3:ac.tmps[3]?.getD undef=.pointer (some ⟨g,0,none⟩):=by rw[hb.out];kernel_rfl
   try have s30:_=_:=AnyO.sv 30 4 hb hp Q
   try have s32:_=_:=AnyO.sv 32 6 hb hp Q
   have rr_0:=(H3.out.2.2.1.keep Q.out.2).c2
   rw[H3.out.2.2.1.la] at rr_0
   obtain⟨rr1_1,rr2_1⟩:=(H3.out.1.keep Q.out.2).idC
   go_simp
   exact hK _ _ (AnyO.InvG.step (g:=σ) Q.out.1 rfl Q.out.2)
 ·intro D vs u hI hD
  obtain⟨σ,hP,hW⟩:=hI
  have e0:_=_:=hP 0 (hD 0 (by decide))
  have e1:_=_:=hP 1 (hD 1 (by decide))
  have e2:_=_:=hP 2 (hD 2 (by decide))
  have e3:_=_:=hP 3 (hD 3 (by decide))
  have e4:_=_:=hP 4 (hD 4 (by decide))
  have e5:_=_:=hP 5 (hD 5 (by decide))
  have e6:_=_:=hP 6 (hD 6 (by decide))
  have e7:_=_:=hP 7 (hD 7 (by decide))
  have HW:=Lib.hid hW
  clear hW hP hD
  rw[puts_range [some 26,some 27,some 28,some 29,some 30,some 31,some 32,some 7] (by kernel_rfl)]
  simp only[putL,Nat.reduceAdd,e0,e1,e2,e3,e4,e5,e6,e7]
  clear e0 e1 e2 e3 e4 e5 e6 e7
  go_simp
  clear ro j0
  obtain⟨U,rfl⟩:∃ U,U=u:=⟨_,rfl⟩
  have ro:=(H3.out.2.1.keep HW.out).rowOk (cC_length zC)
  have j0:=(H3.out.1.keep HW.out).cell 0
  change U.cell? _=some (.int .i64 c.verb) at j0
  rw[HV.out] at j0
  have HT:=Lib.hid (And.intro (H3.out.2.2.1.keep HW.out) (And.intro (H3.out.1.keep HW.out) (And.intro (H3.out.2.1.keep HW.out) (H3.out.2.2.2.trans (Kp.of_below HW.out)))))
  cases hp:posL s.act c.id with
  | none =>
   have hii:i=-1:=by rw[← HI.out];exact idx_none hp
   subst hii
   have hz:=HZ.out
   rw[hp] at hz
   dsimp only at hz
   subst hz
   clear hp
   go_wp2
   exact bodyPost_ret (v:=.tuple #[vC zC,.int .i64 8]) (results_c2 (ad:=⟨r0,0,none⟩) rfl rfl (ld_setRow zC ro) rfl) rfl ⟨rfl,fin_row HT.out.1 HT.out.2.2.2 H1.out.2.2.2.2.2.1 HR.out zC⟩
  | some k =>
   obtain⟨hk, -, -⟩:=pos_some hp
   have hii:i=(k:Int):=by rw[← HI.out];exact idx_some hp
   subst hii
   have hz:=HZ.out
   rw[hp] at hz
   dsimp only at hz
   clear hp
   obtain⟨ad,hae, -, -,hat⟩:=Sl.pt (Own.slOf HT.out.1.oa) hk
   have rr:=HT.out.1.c2
   rw[HT.out.1.la] at rr
   have r33:=hat.f33
   have hk1:(k:Int)<(s.act.length:Int):=by omega
   have hpk:ptK s.act k=s.act[k]:=ptK_eq hk
   clear hat
   rw[hae] at rr
   by_cases h1:s.act[k].state=1
   ·rw[hpk,if_neg (by intro h;exact h h1)] at hz
    subst hz
    rw[h1] at r33
    clear h1 hpk
    go_wp2
    go_quiet (fail)
    go_wp2
    clear hae rr r33 ro
    refine AnyO.wp_anyI (by kernel_rfl) (by kernel_rfl) (AnyO.InvG (σ:=SlV) (fun σ=>AnyO.pvL [some (.pointer (some ⟨b,0,none⟩)),some (.pointer (some ⟨b,0,none⟩)),some (.pointer (some ⟨b,0,none⟩)),some (.pointer (some ⟨b,2,none⟩)),some (.slice va.1 va.2.1 va.2.2),some (.pointer (some ⟨g,2,none⟩)),some (vI c.id),some (.slice σ.1 σ.2.1 σ.2.2),some (.pointer (some ⟨b,0,none⟩)),some (.pointer (some ⟨b,2,none⟩)),none]) (fun σ D u=>WA b s F0 va vk (withoutL s.act c.id) U σ u (D 7) (D 10))) (AnyO.InvG.start (g:=(none,0,0)) (Below.step (below_drewN _ _) (below_drew _))) ?_ ?_
    ·intro i hi
     have hi2:i=4∨i=7∨i=10∨i=0∨i=1∨i=2∨i=3∨i=5∨i=6∨i=8∨i=9:=by simp only[List.size_toArray,List.length_cons,List.length_nil] at hi;omega
     clear hi
     rcases hi2 with rfl|rfl|rfl|rfl|rfl|rfl|rfl|rfl|rfl|rfl|rfl
     ·refine AnyO.I rfl [3] ?_;rintro D vs u σ Q h0 hC hp ac hb K hK
      have s72:_=_:=AnyO.sv 72 3 hb hp Q
      have hf7:=AnyO.fls (hC.out 7) h0 (show AnyO.pre _ 7=[4,6] from by kernel_rfl) (by decide)
      have hst:=Q.out.2
      rw[show D 7=false from hf7] at hst
      have rr:=(HT.out.1.keep hst).c2
      clear hst hf7
      go_simp
      exact hK _ _ (AnyO.InvG.step (g:=σ) Q.out.1 rfl (WA.read Q.out.2 (Below.refl _ _)))
     ·refine AnyO.I rfl [4,6] ?_;rintro D vs u σ Q h0 hC hp ac hb K hK
      have s73:_=_:=AnyO.sv 73 4 hb hp Q
      have s75:_=_:=AnyO.sv 75 6 hb hp Q
      have hf10:=AnyO.fls (hC.out 10) h0 (show AnyO.pre _ 10=[9,7,7,0,1,2,3,4,5,6,7] from by kernel_rfl) (by decide)
      go_simp
      have hst:=Q.out.2
      rw[show D 7=false from h0] at hst
      go_at_call 42
      refine (without42 0 _ s.act c.id u (HT.out.1.keep hst).oa HNA.out).mono ?_
      rintro e w2 ⟨v',rfl,ho',hg',hat'⟩
      obtain⟨A1,c1,rfl, -, -⟩:=Own.sl ho'
      refine hK _ _ (AnyO.InvG.ghost (g:=σ) (A1,_,c1) Q.out.1 ?_ rfl ?_)
      ·intro j hj hq
       rcases j with _|_|_|_|_|_|_|_|_|_|_|j
       all_goals first|exact hq|exact absurd (show D 7=true from hj) (by rw[h0];decide)
      rw[show AnyO.addD D 7 7=true from rfl,show AnyO.addD D 7 10=D 10 from rfl,hf10]
      exact WA.grow hst ho' hg' (Or.inl hat')
     ·refine AnyO.I rfl [9,7,7,0,1,2,3,4,5,6,7] ?_;rintro D vs u σ Q h0 hC hp ac hb K hK
      have s78:_=_:=AnyO.sv 78 9 hb hp Q
      have s76:_=_:=AnyO.sv 76 7 hb hp Q
      have hp7:D 7=true:=hp.out 7 (by decide)
      have hst:=Q.out.2
      rw[show D 7=true from hp7,show D 10=false from h0] at hst
      obtain⟨rf,rc,rp⟩:=WA.put hst HT.out.1
      have RP:=Lib.hid rp
      clear hst rp
      go_simp
      exact hK undef _ (AnyO.InvG.step (g:=σ) Q.out.1 trivial (by rw[show AnyO.addD D 10 7=D 7 from rfl,hp7,show AnyO.addD D 10 10=true from rfl];exact RP.out))
     all_goals
      refine AnyO.J rfl ?_;rintro D vs u σ Q h0 hC hp ac hb K hK
      try have s0:ac.tmps[0]?.getD undef=.pointer (some ⟨b,0,none⟩):=by rw[hb.out];kernel_rfl
      try have s70:_=_:=AnyO.sv 70 1 hb hp Q
      try have s71:_=_:=AnyO.sv 71 2 hb hp Q
      try have s3:ac.tmps[3]?.getD undef=.pointer (some ⟨g,0,none⟩):=by rw[hb.out];kernel_rfl
      try have s74:_=_:=AnyO.sv 74 5 hb hp Q
      try have s69:_=_:=AnyO.sv 69 0 hb hp Q
      try have s77:_=_:=AnyO.sv 77 8 hb hp Q
      obtain⟨rr1,rr2⟩:=(Q.out.2.row HT.out.1 HT.out.2.1 H1.out.2.2.2.2.1).idC
      go_simp
      exact hK _ _ (AnyO.InvG.step (g:=σ) Q.out.1 rfl (WA.read Q.out.2 (Below.refl _ _)))
    ·intro D vs u hI hD
     obtain⟨σ,hP,hW⟩:=hI
     have e0:_=_:=hP 0 (hD 0 (by decide))
     have e1:_=_:=hP 1 (hD 1 (by decide))
     have e2:_=_:=hP 2 (hD 2 (by decide))
     have e3:_=_:=hP 3 (hD 3 (by decide))
     have e4:_=_:=hP 4 (hD 4 (by decide))
     have e5:_=_:=hP 5 (hD 5 (by decide))
     have e6:_=_:=hP 6 (hD 6 (by decide))
     have e7:_=_:=hP 7 (hD 7 (by decide))
     have e8:_=_:=hP 8 (hD 8 (by decide))
     have e9:_=_:=hP 9 (hD 9 (by decide))
     have hst:=hW
     rw[show D 7=true from hD 7 (by decide),show D 10=true from hD 10 (by decide)] at hst
     have HST:=Lib.hid hst
     clear hst
     have HW:=Lib.hid hW
     clear hW hP hD
     rw[puts_range [some 69,some 70,some 71,some 72,some 73,some 74,some 75,some 76,some 77,some 78,none] (by kernel_rfl)]
     simp only[putL,Nat.reduceAdd,e0,e1,e2,e3,e4,e5,e6,e7,e8,e9]
     clear e0 e1 e2 e3 e4 e5 e6 e7 e8 e9
     obtain⟨hT7,hK7⟩:=HST.out
     go_simp
     go_wp2
     obtain⟨U7,rfl⟩:∃ U7,U7=u:=⟨_,rfl⟩
     obtain⟨v7,rfl⟩:∃ v7,v7=σ:=⟨_,rfl⟩
     obtain⟨F7,hF7⟩:∃ F7,blkL v7++F0=F7:=⟨_,rfl⟩
     rw[hF7] at hT7 hK7
     have hout:=(hK7.out r0 HT.out.2.2.1.lt H1.out.2.2.2.2.2.1)
     have hr7:=HT.out.2.2.1.kp hK7 H1.out.2.2.2.2.2.1
     obtain⟨s1,hs1⟩:∃ s1:Tk,{ s with act:=withoutL s.act c.id }=s1:=⟨_,rfl⟩
     rw[hs1] at hT7
     have HS1:=Lib.hid hs1
     have HS:=Lib.hid (And.intro hT7 (And.intro hK7 (And.intro hout.1 (And.intro (hK7.out g HT.out.2.1.lt H1.out.2.2.2.2.1).1 (And.intro (HT.out.2.1.kp hK7 H1.out.2.2.2.2.1) hr7)))))
     have HNK1:=Lib.hid (show s1.kept.length≤1000000 by rw[← hs1];exact HNK.out)
     clear hT7 hK7 hF7 hr7 hout hs1
     refine AnyO.wp_anyI (by kernel_rfl) (by kernel_rfl) (AnyO.InvG (σ:=SlV) (fun σ=>AnyO.pvL [some (.pointer (some ⟨b,0,none⟩)),some (.pointer (some ⟨b,0,none⟩)),some (.pointer (some ⟨b,0,none⟩)),some (.pointer (some ⟨b,3,none⟩)),some (.slice vk.1 vk.2.1 vk.2.2),some (.pointer (some ⟨g,2,none⟩)),some (vI c.id),some (.slice σ.1 σ.2.1 σ.2.2),some (.pointer (some ⟨b,0,none⟩)),some (.pointer (some ⟨b,3,none⟩)),none]) (fun σ D u=>WK b s1 F7 v7 vk (withoutL s1.kept c.id) U7 σ u (D 7) (D 10))) (AnyO.InvG.start (g:=(none,0,0)) (below_drew _)) ?_ ?_
     ·intro i hi
      have hi2:i=4∨i=7∨i=10∨i=0∨i=1∨i=2∨i=3∨i=5∨i=6∨i=8∨i=9:=by simp only[List.size_toArray,List.length_cons,List.length_nil] at hi;omega
      clear hi
      rcases hi2 with rfl|rfl|rfl|rfl|rfl|rfl|rfl|rfl|rfl|rfl|rfl
      ·refine AnyO.I rfl [3] ?_;rintro D vs u σ Q h0 hC hp ac hb K hK
       have s82:_=_:=AnyO.sv 82 3 hb hp Q
       have hf7:=AnyO.fls (hC.out 7) h0 (show AnyO.pre _ 7=[4,6] from by kernel_rfl) (by decide)
       have hst:=Q.out.2
       rw[show D 7=false from hf7] at hst
       have rr:=(HS.out.1.keep hst).c3
       clear hst hf7
       go_simp
       exact hK _ _ (AnyO.InvG.step (g:=σ) Q.out.1 rfl (WK.read Q.out.2 (Below.refl _ _)))
      ·refine AnyO.I rfl [4,6] ?_;rintro D vs u σ Q h0 hC hp ac hb K hK
       have s83:_=_:=AnyO.sv 83 4 hb hp Q
       have s85:_=_:=AnyO.sv 85 6 hb hp Q
       have hf10:=AnyO.fls (hC.out 10) h0 (show AnyO.pre _ 10=[9,7,7,0,1,2,3,4,5,6,7] from by kernel_rfl) (by decide)
       go_simp
       have hst:=Q.out.2
       rw[show D 7=false from h0] at hst
       go_at_call 42
       refine (without42 0 _ s1.kept c.id u (HS.out.1.keep hst).ok HNK1.out).mono ?_
       rintro e w2 ⟨v',rfl,ho',hg',hat'⟩
       obtain⟨A1,c1,rfl, -, -⟩:=Own.sl ho'
       refine hK _ _ (AnyO.InvG.ghost (g:=σ) (A1,_,c1) Q.out.1 ?_ rfl ?_)
       ·intro j hj hq
        rcases j with _|_|_|_|_|_|_|_|_|_|_|j
        all_goals first|exact hq|exact absurd (show D 7=true from hj) (by rw[h0];decide)
       rw[show AnyO.addD D 7 7=true from rfl,show AnyO.addD D 7 10=D 10 from rfl,hf10]
       exact WK.grow hst ho' hg' (Or.inl hat')
      ·refine AnyO.I rfl [9,7,7,0,1,2,3,4,5,6,7] ?_;rintro D vs u σ Q h0 hC hp ac hb K hK
       have s88:_=_:=AnyO.sv 88 9 hb hp Q
       have s86:_=_:=AnyO.sv 86 7 hb hp Q
       have hp7:D 7=true:=hp.out 7 (by decide)
       have hst:=Q.out.2
       rw[show D 7=true from hp7,show D 10=false from h0] at hst
       obtain⟨rf,rc,rp⟩:=WK.put hst HS.out.1
       have RP:=Lib.hid rp
       clear hst rp
       go_simp
       exact hK undef _ (AnyO.InvG.step (g:=σ) Q.out.1 trivial (by rw[show AnyO.addD D 10 7=D 7 from rfl,hp7,show AnyO.addD D 10 10=true from rfl];exact RP.out))
      all_goals
       refine AnyO.J rfl ?_;rintro D vs u σ Q h0 hC hp ac hb K hK
       try have s0:ac.tmps[0]?.getD undef=.pointer (some ⟨b,0,none⟩):=by rw[hb.out];kernel_rfl
       try have s80:_=_:=AnyO.sv 80 1 hb hp Q
       try have s81:_=_:=AnyO.sv 81 2 hb hp Q
       try have s3:ac.tmps[3]?.getD undef=.pointer (some ⟨g,0,none⟩):=by rw[hb.out];kernel_rfl
       try have s84:_=_:=AnyO.sv 84 5 hb hp Q
       try have s79:_=_:=AnyO.sv 79 0 hb hp Q
       try have s87:_=_:=AnyO.sv 87 8 hb hp Q
       obtain⟨rr1,rr2⟩:=(Q.out.2.row HS.out.1 HS.out.2.2.2.2.1 HS.out.2.2.2.1).idC
       go_simp
       exact hK _ _ (AnyO.InvG.step (g:=σ) Q.out.1 rfl (WK.read Q.out.2 (Below.refl _ _)))
     ·intro D vs u hI hD
      obtain⟨σ,hP,hW⟩:=hI
      have e0:_=_:=hP 0 (hD 0 (by decide))
      have e1:_=_:=hP 1 (hD 1 (by decide))
      have e2:_=_:=hP 2 (hD 2 (by decide))
      have e3:_=_:=hP 3 (hD 3 (by decide))
      have e4:_=_:=hP 4 (hD 4 (by decide))
      have e5:_=_:=hP 5 (hD 5 (by decide))
      have e6:_=_:=hP 6 (hD 6 (by decide))
      have e7:_=_:=hP 7 (hD 7 (by decide))
      have e8:_=_:=hP 8 (hD 8 (by decide))
      have e9:_=_:=hP 9 (hD 9 (by decide))
      have hst:=hW
      rw[show D 7=true from hD 7 (by decide),show D 10=true from hD 10 (by decide)] at hst
      have HST:=Lib.hid hst
      clear hst
      have HW:=Lib.hid hW
      clear hW hP hD
      rw[puts_range [some 79,some 80,some 81,some 82,some 83,some 84,some 85,some 86,some 87,some 88,none] (by kernel_rfl)]
      simp only[putL,Nat.reduceAdd,e0,e1,e2,e3,e4,e5,e6,e7,e8,e9]
      clear e0 e1 e2 e3 e4 e5 e6 e7 e8 e9
      obtain⟨hT8,hK8⟩:=HST.out
      obtain⟨U8,rfl⟩:∃ U8,U8=u:=⟨_,rfl⟩
      obtain⟨v8,rfl⟩:∃ v8,v8=σ:=⟨_,rfl⟩
      obtain⟨F8,hF8⟩:∃ F8,blkL v8++F7=F8:=⟨_,rfl⟩
      rw[hF8] at hT8 hK8
      have ro:=(HS.out.2.2.2.2.2.kp hK8 HS.out.2.2.1).rowOk (cC_length zC)
      have rc:=HS.out.2.2.2.2.1.kp hK8 HS.out.2.2.2.1
      have r1:=(Row.okw rc (cC_length c)).1
      have r2:rdA U8 ⟨g,0,none⟩ 39=vC c:=(Row.okw rc (cC_length c)).2
      have HS8:=Lib.hid (And.intro hT8 (And.intro hK8 (hK8.out r0 HS.out.2.2.2.2.2.lt HS.out.2.2.1).1))
      clear hT8 hK8 hF8 rc
      go_simp
      go_wp2
      have hs1:=HS1.out
      subst hs1
      exact bodyPost_ret (v:=.tuple #[vC c,.int .i64 0]) (results_c2 (ad:=⟨r0,0,none⟩) rfl rfl (ld_setRow c ro) rfl) rfl ⟨rfl,fin_row HS8.out.1 ((HT.out.2.2.2.trans HS.out.2.1).trans HS8.out.2.1) HS8.out.2.2 HR.out c⟩
   ·rw[hpk,if_pos h1] at hz
    subst hz
    have q1:(s.act[k].state != 1)=true:=by simpa using h1
    clear h1 hpk
    go_wp2
    exact bodyPost_ret (v:=.tuple #[vC zC,.int .i64 10]) (results_c2 (ad:=⟨r0,0,none⟩) rfl rfl (ld_setRow zC ro) rfl) rfl ⟨rfl,fin_row HT.out.1 HT.out.2.2.2 H1.out.2.2.2.2.2.1 HR.out zC⟩
theorem answer16_v5 (b:Nat) (s:Tk) (F:List Nat) (c:Cm) (w:World) (h:TkAt b s F w) (hL:FormsAt w) (hn:c.name.size≤1000000) (hna:s.act.length≤100) (hnk:s.kept.length≤100) (hc:chk c=0) (hv:c.verb=5) :
  Calls Tryz.prog 16 #[.pointer (some ⟨b,0,none⟩),vC c] w (AnsP b (answerT s c).1 (answerT s c).2.1 (answerT s c).2.2 F w):=by
 obtain⟨va,vk,h⟩:=h
 obtain⟨F0,h0,hK0,hlt⟩:=h.shrink
 obtain⟨g,hg⟩:∃ g,w.heap.size=g:=⟨_,rfl⟩
 obtain⟨W1,hW1⟩:∃ W1,w.alloc (.cells (aC c) 32)=W1:=⟨_,rfl⟩
 obtain⟨r0,hr0⟩:∃ r0,W1.heap.size=r0:=⟨_,rfl⟩
 obtain⟨W2,hW2⟩:∃ W2,W1.alloc (.cells (aC zC) 32)=W2:=⟨_,rfl⟩
 have hb1:Below w.heap.size w W1:=by rw[← hW1];exact below_alloc _ _
 have hb2:Below W1.heap.size W1 W2:=by rw[← hW2];exact below_alloc _ _
 have hb:=Below.step hb1 hb2
 have hrow:Row W1 g (cC c) 32:=by rw[← hW1,← hg];exact Row.new w (cC c) _
 have hro:Row W2 r0 (cC zC) 32:=by rw[← hW2,← hr0];exact Row.new W1 (cC zC) _
 have hs1:=hb1.size
 have r1:=(Row.okw (hrow.keep hb2) (cC_length c)).1
 have r2:rdA W2 ⟨g,0,none⟩ 39=vC c:=(Row.okw (hrow.keep hb2) (cC_length c)).2
 have H1:=Lib.hid (And.intro (hrow.keep hb2) (And.intro hro (And.intro (h0.keep hb) (And.intro (hK0.trans (Kp.of_below hb)) (And.intro (show g∉F0 from fun hm=>by have:=hlt g hm;omega) (And.intro (show r0∉F0 from fun hm=>by have:=hlt r0 hm;omega) (hL.keep hb)))))))
 have HR:=Lib.hid (show w.heap.size≤r0 by omega)
 have HN:=Lib.hid hn
 have HNA:=Lib.hid (show s.act.length≤1000000 by omega)
 have HNK:=Lib.hid (show s.kept.length≤1000000 by omega)
 clear hb1 hb2 hb hrow hro h h0 hK0 hlt hL hn hs1
 have HC:=Lib.hid hc
 have HV:=Lib.hid hv
 have hA:answerT s c=(match posL s.act c.id with
  | none=>(s,zC,8)
  | some k=>if (ptK s.act k).state≠1 then (s,zC,10) else (⟨s.win,s.opn,withoutL s.act c.id,s.kept⟩,c,0)):=by
  unfold answerT
  rw[if_neg (by rw[hc];decide),if_neg (by rw[hv];decide),hv]
  rfl
 obtain⟨Z,hZ⟩:∃ Z,answerT s c=Z:=⟨_,rfl⟩
 rw[hZ]
 rw[hA] at hZ
 have HZ:=Lib.hid hZ
 clear hA hc hv hZ
 obtain⟨i,hi⟩:∃ i,idxL s.act c.id=i:=⟨_,rfl⟩
 have HI:=Lib.hid hi
 clear hi
 go_enter Tryz.func16,Tryz.ntmps16
 go_wp2_with (go_at_call 32;refine (check16 c W2 H1.out.2.2.2.2.2.2 HN.out).mono ?_;rintro e w3 ⟨rfl,hb3⟩;rw[HC.out];have ro:=(H1.out.2.1.keep hb3).rowOk (cC_length zC);have j0:w3.cell? ⟨g,0,none⟩=some (.int .i64 c.verb):=(H1.out.1.keep hb3).cell 0;rw[HV.out] at j0;have H3:=Lib.hid (And.intro (H1.out.1.keep hb3) (And.intro (H1.out.2.1.keep hb3) (And.intro (H1.out.2.2.1.keep hb3) (H1.out.2.2.2.1.trans (Kp.of_below hb3)))));clear hb3)
 refine AnyO.wp_anyI (by kernel_rfl) (by kernel_rfl) (AnyO.InvG (σ:=Unit) (fun σ=>AnyO.pvL [some (.pointer (some ⟨b,0,none⟩)),some (.pointer (some ⟨b,0,none⟩)),some (.pointer (some ⟨b,2,none⟩)),some (.slice va.1 s.act.length va.2.2),some (.pointer (some ⟨g,2,none⟩)),some (vI c.id),some (.int .i64 i),some (.int .i64 i)]) (fun _ _ u=>Below w3.heap.size w3 u)) (AnyO.InvG.start (g:=()) (below_drew _)) ?_ ?_
 ·intro i hi
  have hi2:i=6∨i=0∨i=1∨i=2∨i=3∨i=4∨i=5∨i=7:=by simp only[List.size_toArray,List.length_cons,List.length_nil] at hi;omega
  clear hi
  rcases hi2 with rfl|rfl|rfl|rfl|rfl|rfl|rfl|rfl
  ·refine AnyO.I rfl [3,5] ?_;rintro D vs u σ Q h0 hC hp ac hb K hK
   have s29:_=_:=AnyO.sv 29 3 hb hp Q
   have s31:_=_:=AnyO.sv 31 5 hb hp Q
   go_simp
   go_at_call 40
   refine (find40 va.1 va.2.2 s.act c.id u (Own.slOf ((H3.out.2.2.1.keep Q.out.2).oa)) HNA.out).mono ?_
   rintro e w2 ⟨rfl,hcb⟩
   rw[HI.out]
   exact hK _ _ (AnyO.InvG.step (g:=σ) Q.out.1 rfl (Below.step Q.out.2 hcb))
  all_goals
   refine AnyO.J rfl ?_;rintro D vs u σ Q h0 hC hp ac hb K hK
   try have s0:ac.tmps[0]?.getD undef=.pointer (some ⟨b,0,none⟩):=by rw[hb.out];kernel_rfl
   try have s26:_=_:=AnyO.sv 26 0 hb hp Q
   try have s27:_=_:=AnyO.sv 27 1 hb hp Q
   try have s28:_=_:=AnyO.sv 28 2 hb hp Q
   try have s3:ac.tmps[3]?.getD undef=.pointer (some ⟨g,0,none⟩):=by rw[hb.out];kernel_rfl
   try have s30:_=_:=AnyO.sv 30 4 hb hp Q
   try have s32:_=_:=AnyO.sv 32 6 hb hp Q
   have rr_0:=(H3.out.2.2.1.keep Q.out.2).c2
   rw[H3.out.2.2.1.la] at rr_0
   obtain⟨rr1_1,rr2_1⟩:=(H3.out.1.keep Q.out.2).idC
   go_simp
   exact hK _ _ (AnyO.InvG.step (g:=σ) Q.out.1 rfl Q.out.2)
 ·intro D vs u hI hD
  obtain⟨σ,hP,hW⟩:=hI
  have e0:_=_:=hP 0 (hD 0 (by decide))
  have e1:_=_:=hP 1 (hD 1 (by decide))
  have e2:_=_:=hP 2 (hD 2 (by decide))
  have e3:_=_:=hP 3 (hD 3 (by decide))
  have e4:_=_:=hP 4 (hD 4 (by decide))
  have e5:_=_:=hP 5 (hD 5 (by decide))
  have e6:_=_:=hP 6 (hD 6 (by decide))
  have e7:_=_:=hP 7 (hD 7 (by decide))
  have HW:=Lib.hid hW
  clear hW hP hD
  rw[puts_range [some 26,some 27,some 28,some 29,some 30,some 31,some 32,some 7] (by kernel_rfl)]
  simp only[putL,Nat.reduceAdd,e0,e1,e2,e3,e4,e5,e6,e7]
  clear e0 e1 e2 e3 e4 e5 e6 e7
  go_simp
  clear ro j0
  obtain⟨U,rfl⟩:∃ U,U=u:=⟨_,rfl⟩
  have ro:=(H3.out.2.1.keep HW.out).rowOk (cC_length zC)
  have j0:=(H3.out.1.keep HW.out).cell 0
  change U.cell? _=some (.int .i64 c.verb) at j0
  rw[HV.out] at j0
  have HT:=Lib.hid (And.intro (H3.out.2.2.1.keep HW.out) (And.intro (H3.out.1.keep HW.out) (And.intro (H3.out.2.1.keep HW.out) (H3.out.2.2.2.trans (Kp.of_below HW.out)))))
  cases hp:posL s.act c.id with
  | none =>
   have hii:i=-1:=by rw[← HI.out];exact idx_none hp
   subst hii
   have hz:=HZ.out
   rw[hp] at hz
   dsimp only at hz
   subst hz
   clear hp
   go_wp2
   exact bodyPost_ret (v:=.tuple #[vC zC,.int .i64 8]) (results_c2 (ad:=⟨r0,0,none⟩) rfl rfl (ld_setRow zC ro) rfl) rfl ⟨rfl,fin_row HT.out.1 HT.out.2.2.2 H1.out.2.2.2.2.2.1 HR.out zC⟩
  | some k =>
   obtain⟨hk, -, -⟩:=pos_some hp
   have hii:i=(k:Int):=by rw[← HI.out];exact idx_some hp
   subst hii
   have hz:=HZ.out
   rw[hp] at hz
   dsimp only at hz
   clear hp
   obtain⟨ad,hae, -, -,hat⟩:=Sl.pt (Own.slOf HT.out.1.oa) hk
   have rr:=HT.out.1.c2
   rw[HT.out.1.la] at rr
   have r33:=hat.f33
   have hk1:(k:Int)<(s.act.length:Int):=by omega
   have hpk:ptK s.act k=s.act[k]:=ptK_eq hk
   clear hat
   rw[hae] at rr
   by_cases h1:s.act[k].state=1
   ·rw[hpk,if_neg (by intro h;exact h h1)] at hz
    subst hz
    rw[h1] at r33
    clear h1 hpk
    go_wp2
    go_quiet (fail)
    go_wp2
    clear hae rr r33 ro
    refine AnyO.wp_anyI (by kernel_rfl) (by kernel_rfl) (AnyO.InvG (σ:=SlV) (fun σ=>AnyO.pvL [some (.pointer (some ⟨b,0,none⟩)),some (.pointer (some ⟨b,0,none⟩)),some (.pointer (some ⟨b,0,none⟩)),some (.pointer (some ⟨b,2,none⟩)),some (.slice va.1 va.2.1 va.2.2),some (.pointer (some ⟨g,2,none⟩)),some (vI c.id),some (.slice σ.1 σ.2.1 σ.2.2),some (.pointer (some ⟨b,0,none⟩)),some (.pointer (some ⟨b,2,none⟩)),none]) (fun σ D u=>WA b s F0 va vk (withoutL s.act c.id) U σ u (D 7) (D 10))) (AnyO.InvG.start (g:=(none,0,0)) (Below.step (below_drewN _ _) (below_drew _))) ?_ ?_
    ·intro i hi
     have hi2:i=4∨i=7∨i=10∨i=0∨i=1∨i=2∨i=3∨i=5∨i=6∨i=8∨i=9:=by simp only[List.size_toArray,List.length_cons,List.length_nil] at hi;omega
     clear hi
     rcases hi2 with rfl|rfl|rfl|rfl|rfl|rfl|rfl|rfl|rfl|rfl|rfl
     ·refine AnyO.I rfl [3] ?_;rintro D vs u σ Q h0 hC hp ac hb K hK
      have s135:_=_:=AnyO.sv 135 3 hb hp Q
      have hf7:=AnyO.fls (hC.out 7) h0 (show AnyO.pre _ 7=[4,6] from by kernel_rfl) (by decide)
      have hst:=Q.out.2
      rw[show D 7=false from hf7] at hst
      have rr:=(HT.out.1.keep hst).c2
      clear hst hf7
      go_simp
      exact hK _ _ (AnyO.InvG.step (g:=σ) Q.out.1 rfl (WA.read Q.out.2 (Below.refl _ _)))
     ·refine AnyO.I rfl [4,6] ?_;rintro D vs u σ Q h0 hC hp ac hb K hK
      have s136:_=_:=AnyO.sv 136 4 hb hp Q
      have s138:_=_:=AnyO.sv 138 6 hb hp Q
      have hf10:=AnyO.fls (hC.out 10) h0 (show AnyO.pre _ 10=[9,7,7,0,1,2,3,4,5,6,7] from by kernel_rfl) (by decide)
      go_simp
      have hst:=Q.out.2
      rw[show D 7=false from h0] at hst
      go_at_call 42
      refine (without42 0 _ s.act c.id u (HT.out.1.keep hst).oa HNA.out).mono ?_
      rintro e w2 ⟨v',rfl,ho',hg',hat'⟩
      obtain⟨A1,c1,rfl, -, -⟩:=Own.sl ho'
      refine hK _ _ (AnyO.InvG.ghost (g:=σ) (A1,_,c1) Q.out.1 ?_ rfl ?_)
      ·intro j hj hq
       rcases j with _|_|_|_|_|_|_|_|_|_|_|j
       all_goals first|exact hq|exact absurd (show D 7=true from hj) (by rw[h0];decide)
      rw[show AnyO.addD D 7 7=true from rfl,show AnyO.addD D 7 10=D 10 from rfl,hf10]
      exact WA.grow hst ho' hg' (Or.inl hat')
     ·refine AnyO.I rfl [9,7,7,0,1,2,3,4,5,6,7] ?_;rintro D vs u σ Q h0 hC hp ac hb K hK
      have s141:_=_:=AnyO.sv 141 9 hb hp Q
      have s139:_=_:=AnyO.sv 139 7 hb hp Q
      have hp7:D 7=true:=hp.out 7 (by decide)
      have hst:=Q.out.2
      rw[show D 7=true from hp7,show D 10=false from h0] at hst
      obtain⟨rf,rc,rp⟩:=WA.put hst HT.out.1
      have RP:=Lib.hid rp
      clear hst rp
      go_simp
      exact hK undef _ (AnyO.InvG.step (g:=σ) Q.out.1 trivial (by rw[show AnyO.addD D 10 7=D 7 from rfl,hp7,show AnyO.addD D 10 10=true from rfl];exact RP.out))
     all_goals
      refine AnyO.J rfl ?_;rintro D vs u σ Q h0 hC hp ac hb K hK
      try have s0:ac.tmps[0]?.getD undef=.pointer (some ⟨b,0,none⟩):=by rw[hb.out];kernel_rfl
      try have s133:_=_:=AnyO.sv 133 1 hb hp Q
      try have s134:_=_:=AnyO.sv 134 2 hb hp Q
      try have s3:ac.tmps[3]?.getD undef=.pointer (some ⟨g,0,none⟩):=by rw[hb.out];kernel_rfl
      try have s137:_=_:=AnyO.sv 137 5 hb hp Q
      try have s132:_=_:=AnyO.sv 132 0 hb hp Q
      try have s140:_=_:=AnyO.sv 140 8 hb hp Q
      obtain⟨rr1,rr2⟩:=(Q.out.2.row HT.out.1 HT.out.2.1 H1.out.2.2.2.2.1).idC
      go_simp
      exact hK _ _ (AnyO.InvG.step (g:=σ) Q.out.1 rfl (WA.read Q.out.2 (Below.refl _ _)))
    ·intro D vs u hI hD
     obtain⟨σ,hP,hW⟩:=hI
     have e0:_=_:=hP 0 (hD 0 (by decide))
     have e1:_=_:=hP 1 (hD 1 (by decide))
     have e2:_=_:=hP 2 (hD 2 (by decide))
     have e3:_=_:=hP 3 (hD 3 (by decide))
     have e4:_=_:=hP 4 (hD 4 (by decide))
     have e5:_=_:=hP 5 (hD 5 (by decide))
     have e6:_=_:=hP 6 (hD 6 (by decide))
     have e7:_=_:=hP 7 (hD 7 (by decide))
     have e8:_=_:=hP 8 (hD 8 (by decide))
     have e9:_=_:=hP 9 (hD 9 (by decide))
     have hst:=hW
     rw[show D 7=true from hD 7 (by decide),show D 10=true from hD 10 (by decide)] at hst
     have HST:=Lib.hid hst
     clear hst
     have HW:=Lib.hid hW
     clear hW hP hD
     rw[puts_range [some 132,some 133,some 134,some 135,some 136,some 137,some 138,some 139,some 140,some 141,none] (by kernel_rfl)]
     simp only[putL,Nat.reduceAdd,e0,e1,e2,e3,e4,e5,e6,e7,e8,e9]
     clear e0 e1 e2 e3 e4 e5 e6 e7 e8 e9
     obtain⟨hT7,hK7⟩:=HST.out
     obtain⟨U7,rfl⟩:∃ U7,U7=u:=⟨_,rfl⟩
     obtain⟨v7,rfl⟩:∃ v7,v7=σ:=⟨_,rfl⟩
     obtain⟨F7,hF7⟩:∃ F7,blkL v7++F0=F7:=⟨_,rfl⟩
     rw[hF7] at hT7 hK7
     have hout:=(hK7.out r0 HT.out.2.2.1.lt H1.out.2.2.2.2.2.1)
     have hr7:=HT.out.2.2.1.kp hK7 H1.out.2.2.2.2.2.1
     have ro:=hr7.rowOk (cC_length zC)
     have rc:=HT.out.2.1.kp hK7 H1.out.2.2.2.2.1
     have r1:=(Row.okw rc (cC_length c)).1
     have r2:rdA U7 ⟨g,0,none⟩ 39=vC c:=(Row.okw rc (cC_length c)).2
     have HS:=Lib.hid (And.intro hT7 (And.intro hK7 hout.1))
     clear hT7 hK7 hF7 hr7 rc hout
     go_simp
     go_wp2
     exact bodyPost_ret (v:=.tuple #[vC c,.int .i64 0]) (results_c2 (ad:=⟨r0,0,none⟩) rfl rfl (ld_setRow c ro) rfl) rfl ⟨rfl,fin_row HS.out.1 (HT.out.2.2.2.trans HS.out.2.1) HS.out.2.2 HR.out c⟩
   ·rw[hpk,if_pos h1] at hz
    subst hz
    have q1:(s.act[k].state != 1)=true:=by simpa using h1
    clear h1 hpk
    go_wp2
    exact bodyPost_ret (v:=.tuple #[vC zC,.int .i64 10]) (results_c2 (ad:=⟨r0,0,none⟩) rfl rfl (ld_setRow zC ro) rfl) rfl ⟨rfl,fin_row HT.out.1 HT.out.2.2.2 H1.out.2.2.2.2.2.1 HR.out zC⟩
theorem answer16_v6 (b:Nat) (s:Tk) (F:List Nat) (c:Cm) (w:World) (h:TkAt b s F w) (hL:FormsAt w) (hn:c.name.size≤1000000) (hna:s.act.length≤100) (hnk:s.kept.length≤100) (hc:chk c=0) (hv:c.verb=6) :
  Calls Tryz.prog 16 #[.pointer (some ⟨b,0,none⟩),vC c] w (AnsP b (answerT s c).1 (answerT s c).2.1 (answerT s c).2.2 F w):=by
 obtain⟨va,vk,h⟩:=h
 obtain⟨F0,h0,hK0,hlt⟩:=h.shrink
 obtain⟨g,hg⟩:∃ g,w.heap.size=g:=⟨_,rfl⟩
 obtain⟨W1,hW1⟩:∃ W1,w.alloc (.cells (aC c) 32)=W1:=⟨_,rfl⟩
 obtain⟨r0,hr0⟩:∃ r0,W1.heap.size=r0:=⟨_,rfl⟩
 obtain⟨W2,hW2⟩:∃ W2,W1.alloc (.cells (aC zC) 32)=W2:=⟨_,rfl⟩
 have hb1:Below w.heap.size w W1:=by rw[← hW1];exact below_alloc _ _
 have hb2:Below W1.heap.size W1 W2:=by rw[← hW2];exact below_alloc _ _
 have hb:=Below.step hb1 hb2
 have hrow:Row W1 g (cC c) 32:=by rw[← hW1,← hg];exact Row.new w (cC c) _
 have hro:Row W2 r0 (cC zC) 32:=by rw[← hW2,← hr0];exact Row.new W1 (cC zC) _
 have hs1:=hb1.size
 have r1:=(Row.okw (hrow.keep hb2) (cC_length c)).1
 have r2:rdA W2 ⟨g,0,none⟩ 39=vC c:=(Row.okw (hrow.keep hb2) (cC_length c)).2
 have H1:=Lib.hid (And.intro (hrow.keep hb2) (And.intro hro (And.intro (h0.keep hb) (And.intro (hK0.trans (Kp.of_below hb)) (And.intro (show g∉F0 from fun hm=>by have:=hlt g hm;omega) (And.intro (show r0∉F0 from fun hm=>by have:=hlt r0 hm;omega) (hL.keep hb)))))))
 have HR:=Lib.hid (show w.heap.size≤r0 by omega)
 have HN:=Lib.hid hn
 have HNA:=Lib.hid (show s.act.length≤1000000 by omega)
 have HNK:=Lib.hid (show s.kept.length≤1000000 by omega)
 clear hb1 hb2 hb hrow hro h h0 hK0 hlt hL hn hs1
 have HC:=Lib.hid hc
 have HV:=Lib.hid hv
 have hA:answerT s c=(match posL s.act c.id with
  | none=>(s,zC,8)
  | some k=>if (ptK s.act k).state≠1 then (s,zC,10) else (⟨s.win,s.opn,withoutL s.act c.id,withoutL s.kept c.id⟩,c,0)):=by
  unfold answerT
  rw[if_neg (by rw[hc];decide),if_neg (by rw[hv];decide),hv]
  rfl
 obtain⟨Z,hZ⟩:∃ Z,answerT s c=Z:=⟨_,rfl⟩
 rw[hZ]
 rw[hA] at hZ
 have HZ:=Lib.hid hZ
 clear hA hc hv hZ
 obtain⟨i,hi⟩:∃ i,idxL s.act c.id=i:=⟨_,rfl⟩
 have HI:=Lib.hid hi
 clear hi
 go_enter Tryz.func16,Tryz.ntmps16
 go_wp2_with (go_at_call 32;refine (check16 c W2 H1.out.2.2.2.2.2.2 HN.out).mono ?_;rintro e w3 ⟨rfl,hb3⟩;rw[HC.out];have ro:=(H1.out.2.1.keep hb3).rowOk (cC_length zC);have j0:w3.cell? ⟨g,0,none⟩=some (.int .i64 c.verb):=(H1.out.1.keep hb3).cell 0;rw[HV.out] at j0;have H3:=Lib.hid (And.intro (H1.out.1.keep hb3) (And.intro (H1.out.2.1.keep hb3) (And.intro (H1.out.2.2.1.keep hb3) (H1.out.2.2.2.1.trans (Kp.of_below hb3)))));clear hb3)
 refine AnyO.wp_anyI (by kernel_rfl) (by kernel_rfl) (AnyO.InvG (σ:=Unit) (fun σ=>AnyO.pvL [some (.pointer (some ⟨b,0,none⟩)),some (.pointer (some ⟨b,0,none⟩)),some (.pointer (some ⟨b,2,none⟩)),some (.slice va.1 s.act.length va.2.2),some (.pointer (some ⟨g,2,none⟩)),some (vI c.id),some (.int .i64 i),some (.int .i64 i)]) (fun _ _ u=>Below w3.heap.size w3 u)) (AnyO.InvG.start (g:=()) (below_drew _)) ?_ ?_
 ·intro i hi
  have hi2:i=6∨i=0∨i=1∨i=2∨i=3∨i=4∨i=5∨i=7:=by simp only[List.size_toArray,List.length_cons,List.length_nil] at hi;omega
  clear hi
  rcases hi2 with rfl|rfl|rfl|rfl|rfl|rfl|rfl|rfl
  ·refine AnyO.I rfl [3,5] ?_;rintro D vs u σ Q h0 hC hp ac hb K hK
   have s29:_=_:=AnyO.sv 29 3 hb hp Q
   have s31:_=_:=AnyO.sv 31 5 hb hp Q
   go_simp
   go_at_call 40
   refine (find40 va.1 va.2.2 s.act c.id u (Own.slOf ((H3.out.2.2.1.keep Q.out.2).oa)) HNA.out).mono ?_
   rintro e w2 ⟨rfl,hcb⟩
   rw[HI.out]
   exact hK _ _ (AnyO.InvG.step (g:=σ) Q.out.1 rfl (Below.step Q.out.2 hcb))
  all_goals
   refine AnyO.J rfl ?_;rintro D vs u σ Q h0 hC hp ac hb K hK
   try have s0:ac.tmps[0]?.getD undef=.pointer (some ⟨b,0,none⟩):=by rw[hb.out];kernel_rfl
   try have s26:_=_:=AnyO.sv 26 0 hb hp Q
   try have s27:_=_:=AnyO.sv 27 1 hb hp Q
   try have s28:_=_:=AnyO.sv 28 2 hb hp Q
   try have s3:ac.tmps[3]?.getD undef=.pointer (some ⟨g,0,none⟩):=by rw[hb.out];kernel_rfl
   try have s30:_=_:=AnyO.sv 30 4 hb hp Q
   try have s32:_=_:=AnyO.sv 32 6 hb hp Q
   have rr_0:=(H3.out.2.2.1.keep Q.out.2).c2
   rw[H3.out.2.2.1.la] at rr_0
   obtain⟨rr1_1,rr2_1⟩:=(H3.out.1.keep Q.out.2).idC
   go_simp
   exact hK _ _ (AnyO.InvG.step (g:=σ) Q.out.1 rfl Q.out.2)
 ·intro D vs u hI hD
  obtain⟨σ,hP,hW⟩:=hI
  have e0:_=_:=hP 0 (hD 0 (by decide))
  have e1:_=_:=hP 1 (hD 1 (by decide))
  have e2:_=_:=hP 2 (hD 2 (by decide))
  have e3:_=_:=hP 3 (hD 3 (by decide))
  have e4:_=_:=hP 4 (hD 4 (by decide))
  have e5:_=_:=hP 5 (hD 5 (by decide))
  have e6:_=_:=hP 6 (hD 6 (by decide))
  have e7:_=_:=hP 7 (hD 7 (by decide))
  have HW:=Lib.hid hW
  clear hW hP hD
  rw[puts_range [some 26,some 27,some 28,some 29,some 30,some 31,some 32,some 7] (by kernel_rfl)]
  simp only[putL,Nat.reduceAdd,e0,e1,e2,e3,e4,e5,e6,e7]
  clear e0 e1 e2 e3 e4 e5 e6 e7
  go_simp
  clear ro j0
  obtain⟨U,rfl⟩:∃ U,U=u:=⟨_,rfl⟩
  have ro:=(H3.out.2.1.keep HW.out).rowOk (cC_length zC)
  have j0:=(H3.out.1.keep HW.out).cell 0
  change U.cell? _=some (.int .i64 c.verb) at j0
  rw[HV.out] at j0
  have HT:=Lib.hid (And.intro (H3.out.2.2.1.keep HW.out) (And.intro (H3.out.1.keep HW.out) (And.intro (H3.out.2.1.keep HW.out) (H3.out.2.2.2.trans (Kp.of_below HW.out)))))
  cases hp:posL s.act c.id with
  | none =>
   have hii:i=-1:=by rw[← HI.out];exact idx_none hp
   subst hii
   have hz:=HZ.out
   rw[hp] at hz
   dsimp only at hz
   subst hz
   clear hp
   go_wp2
   exact bodyPost_ret (v:=.tuple #[vC zC,.int .i64 8]) (results_c2 (ad:=⟨r0,0,none⟩) rfl rfl (ld_setRow zC ro) rfl) rfl ⟨rfl,fin_row HT.out.1 HT.out.2.2.2 H1.out.2.2.2.2.2.1 HR.out zC⟩
  | some k =>
   obtain⟨hk, -, -⟩:=pos_some hp
   have hii:i=(k:Int):=by rw[← HI.out];exact idx_some hp
   subst hii
   have hz:=HZ.out
   rw[hp] at hz
   dsimp only at hz
   clear hp
   obtain⟨ad,hae, -, -,hat⟩:=Sl.pt (Own.slOf HT.out.1.oa) hk
   have rr:=HT.out.1.c2
   rw[HT.out.1.la] at rr
   have r33:=hat.f33
   have hk1:(k:Int)<(s.act.length:Int):=by omega
   have hpk:ptK s.act k=s.act[k]:=ptK_eq hk
   clear hat
   rw[hae] at rr
   by_cases h1:s.act[k].state=1
   ·rw[hpk,if_neg (by intro h;exact h h1)] at hz
    subst hz
    rw[h1] at r33
    clear h1 hpk
    go_wp2
    go_quiet (fail)
    go_wp2
    clear hae rr r33 ro
    refine AnyO.wp_anyI (by kernel_rfl) (by kernel_rfl) (AnyO.InvG (σ:=SlV) (fun σ=>AnyO.pvL [some (.pointer (some ⟨b,0,none⟩)),some (.pointer (some ⟨b,0,none⟩)),some (.pointer (some ⟨b,0,none⟩)),some (.pointer (some ⟨b,2,none⟩)),some (.slice va.1 va.2.1 va.2.2),some (.pointer (some ⟨g,2,none⟩)),some (vI c.id),some (.slice σ.1 σ.2.1 σ.2.2),some (.pointer (some ⟨b,0,none⟩)),some (.pointer (some ⟨b,2,none⟩)),none]) (fun σ D u=>WA b s F0 va vk (withoutL s.act c.id) U σ u (D 7) (D 10))) (AnyO.InvG.start (g:=(none,0,0)) (Below.step (below_drewN _ _) (below_drew _))) ?_ ?_
    ·intro i hi
     have hi2:i=4∨i=7∨i=10∨i=0∨i=1∨i=2∨i=3∨i=5∨i=6∨i=8∨i=9:=by simp only[List.size_toArray,List.length_cons,List.length_nil] at hi;omega
     clear hi
     rcases hi2 with rfl|rfl|rfl|rfl|rfl|rfl|rfl|rfl|rfl|rfl|rfl
     ·refine AnyO.I rfl [3] ?_;rintro D vs u σ Q h0 hC hp ac hb K hK
      have s72:_=_:=AnyO.sv 72 3 hb hp Q
      have hf7:=AnyO.fls (hC.out 7) h0 (show AnyO.pre _ 7=[4,6] from by kernel_rfl) (by decide)
      have hst:=Q.out.2
      rw[show D 7=false from hf7] at hst
      have rr:=(HT.out.1.keep hst).c2
      clear hst hf7
      go_simp
      exact hK _ _ (AnyO.InvG.step (g:=σ) Q.out.1 rfl (WA.read Q.out.2 (Below.refl _ _)))
     ·refine AnyO.I rfl [4,6] ?_;rintro D vs u σ Q h0 hC hp ac hb K hK
      have s73:_=_:=AnyO.sv 73 4 hb hp Q
      have s75:_=_:=AnyO.sv 75 6 hb hp Q
      have hf10:=AnyO.fls (hC.out 10) h0 (show AnyO.pre _ 10=[9,7,7,0,1,2,3,4,5,6,7] from by kernel_rfl) (by decide)
      go_simp
      have hst:=Q.out.2
      rw[show D 7=false from h0] at hst
      go_at_call 42
      refine (without42 0 _ s.act c.id u (HT.out.1.keep hst).oa HNA.out).mono ?_
      rintro e w2 ⟨v',rfl,ho',hg',hat'⟩
      obtain⟨A1,c1,rfl, -, -⟩:=Own.sl ho'
      refine hK _ _ (AnyO.InvG.ghost (g:=σ) (A1,_,c1) Q.out.1 ?_ rfl ?_)
      ·intro j hj hq
       rcases j with _|_|_|_|_|_|_|_|_|_|_|j
       all_goals first|exact hq|exact absurd (show D 7=true from hj) (by rw[h0];decide)
      rw[show AnyO.addD D 7 7=true from rfl,show AnyO.addD D 7 10=D 10 from rfl,hf10]
      exact WA.grow hst ho' hg' (Or.inl hat')
     ·refine AnyO.I rfl [9,7,7,0,1,2,3,4,5,6,7] ?_;rintro D vs u σ Q h0 hC hp ac hb K hK
      have s78:_=_:=AnyO.sv 78 9 hb hp Q
      have s76:_=_:=AnyO.sv 76 7 hb hp Q
      have hp7:D 7=true:=hp.out 7 (by decide)
      have hst:=Q.out.2
      rw[show D 7=true from hp7,show D 10=false from h0] at hst
      obtain⟨rf,rc,rp⟩:=WA.put hst HT.out.1
      have RP:=Lib.hid rp
      clear hst rp
      go_simp
      exact hK undef _ (AnyO.InvG.step (g:=σ) Q.out.1 trivial (by rw[show AnyO.addD D 10 7=D 7 from rfl,hp7,show AnyO.addD D 10 10=true from rfl];exact RP.out))
     all_goals
      refine AnyO.J rfl ?_;rintro D vs u σ Q h0 hC hp ac hb K hK
      try have s0:ac.tmps[0]?.getD undef=.pointer (some ⟨b,0,none⟩):=by rw[hb.out];kernel_rfl
      try have s70:_=_:=AnyO.sv 70 1 hb hp Q
      try have s71:_=_:=AnyO.sv 71 2 hb hp Q
      try have s3:ac.tmps[3]?.getD undef=.pointer (some ⟨g,0,none⟩):=by rw[hb.out];kernel_rfl
      try have s74:_=_:=AnyO.sv 74 5 hb hp Q
      try have s69:_=_:=AnyO.sv 69 0 hb hp Q
      try have s77:_=_:=AnyO.sv 77 8 hb hp Q
      obtain⟨rr1,rr2⟩:=(Q.out.2.row HT.out.1 HT.out.2.1 H1.out.2.2.2.2.1).idC
      go_simp
      exact hK _ _ (AnyO.InvG.step (g:=σ) Q.out.1 rfl (WA.read Q.out.2 (Below.refl _ _)))
    ·intro D vs u hI hD
     obtain⟨σ,hP,hW⟩:=hI
     have e0:_=_:=hP 0 (hD 0 (by decide))
     have e1:_=_:=hP 1 (hD 1 (by decide))
     have e2:_=_:=hP 2 (hD 2 (by decide))
     have e3:_=_:=hP 3 (hD 3 (by decide))
     have e4:_=_:=hP 4 (hD 4 (by decide))
     have e5:_=_:=hP 5 (hD 5 (by decide))
     have e6:_=_:=hP 6 (hD 6 (by decide))
     have e7:_=_:=hP 7 (hD 7 (by decide))
     have e8:_=_:=hP 8 (hD 8 (by decide))
     have e9:_=_:=hP 9 (hD 9 (by decide))
     have hst:=hW
     rw[show D 7=true from hD 7 (by decide),show D 10=true from hD 10 (by decide)] at hst
     have HST:=Lib.hid hst
     clear hst
     have HW:=Lib.hid hW
     clear hW hP hD
     rw[puts_range [some 69,some 70,some 71,some 72,some 73,some 74,some 75,some 76,some 77,some 78,none] (by kernel_rfl)]
     simp only[putL,Nat.reduceAdd,e0,e1,e2,e3,e4,e5,e6,e7,e8,e9]
     clear e0 e1 e2 e3 e4 e5 e6 e7 e8 e9
     obtain⟨hT7,hK7⟩:=HST.out
     go_simp
     go_wp2
     obtain⟨U7,rfl⟩:∃ U7,U7=u:=⟨_,rfl⟩
     obtain⟨v7,rfl⟩:∃ v7,v7=σ:=⟨_,rfl⟩
     obtain⟨F7,hF7⟩:∃ F7,blkL v7++F0=F7:=⟨_,rfl⟩
     rw[hF7] at hT7 hK7
     have hout:=(hK7.out r0 HT.out.2.2.1.lt H1.out.2.2.2.2.2.1)
     have hr7:=HT.out.2.2.1.kp hK7 H1.out.2.2.2.2.2.1
     obtain⟨s1,hs1⟩:∃ s1:Tk,{ s with act:=withoutL s.act c.id }=s1:=⟨_,rfl⟩
     rw[hs1] at hT7
     have HS1:=Lib.hid hs1
     have HS:=Lib.hid (And.intro hT7 (And.intro hK7 (And.intro hout.1 (And.intro (hK7.out g HT.out.2.1.lt H1.out.2.2.2.2.1).1 (And.intro (HT.out.2.1.kp hK7 H1.out.2.2.2.2.1) hr7)))))
     have HNK1:=Lib.hid (show s1.kept.length≤1000000 by rw[← hs1];exact HNK.out)
     clear hT7 hK7 hF7 hr7 hout hs1
     refine AnyO.wp_anyI (by kernel_rfl) (by kernel_rfl) (AnyO.InvG (σ:=SlV) (fun σ=>AnyO.pvL [some (.pointer (some ⟨b,0,none⟩)),some (.pointer (some ⟨b,0,none⟩)),some (.pointer (some ⟨b,0,none⟩)),some (.pointer (some ⟨b,3,none⟩)),some (.slice vk.1 vk.2.1 vk.2.2),some (.pointer (some ⟨g,2,none⟩)),some (vI c.id),some (.slice σ.1 σ.2.1 σ.2.2),some (.pointer (some ⟨b,0,none⟩)),some (.pointer (some ⟨b,3,none⟩)),none]) (fun σ D u=>WK b s1 F7 v7 vk (withoutL s1.kept c.id) U7 σ u (D 7) (D 10))) (AnyO.InvG.start (g:=(none,0,0)) (below_drew _)) ?_ ?_
     ·intro i hi
      have hi2:i=4∨i=7∨i=10∨i=0∨i=1∨i=2∨i=3∨i=5∨i=6∨i=8∨i=9:=by simp only[List.size_toArray,List.length_cons,List.length_nil] at hi;omega
      clear hi
      rcases hi2 with rfl|rfl|rfl|rfl|rfl|rfl|rfl|rfl|rfl|rfl|rfl
      ·refine AnyO.I rfl [3] ?_;rintro D vs u σ Q h0 hC hp ac hb K hK
       have s82:_=_:=AnyO.sv 82 3 hb hp Q
       have hf7:=AnyO.fls (hC.out 7) h0 (show AnyO.pre _ 7=[4,6] from by kernel_rfl) (by decide)
       have hst:=Q.out.2
       rw[show D 7=false from hf7] at hst
       have rr:=(HS.out.1.keep hst).c3
       clear hst hf7
       go_simp
       exact hK _ _ (AnyO.InvG.step (g:=σ) Q.out.1 rfl (WK.read Q.out.2 (Below.refl _ _)))
      ·refine AnyO.I rfl [4,6] ?_;rintro D vs u σ Q h0 hC hp ac hb K hK
       have s83:_=_:=AnyO.sv 83 4 hb hp Q
       have s85:_=_:=AnyO.sv 85 6 hb hp Q
       have hf10:=AnyO.fls (hC.out 10) h0 (show AnyO.pre _ 10=[9,7,7,0,1,2,3,4,5,6,7] from by kernel_rfl) (by decide)
       go_simp
       have hst:=Q.out.2
       rw[show D 7=false from h0] at hst
       go_at_call 42
       refine (without42 0 _ s1.kept c.id u (HS.out.1.keep hst).ok HNK1.out).mono ?_
       rintro e w2 ⟨v',rfl,ho',hg',hat'⟩
       obtain⟨A1,c1,rfl, -, -⟩:=Own.sl ho'
       refine hK _ _ (AnyO.InvG.ghost (g:=σ) (A1,_,c1) Q.out.1 ?_ rfl ?_)
       ·intro j hj hq
        rcases j with _|_|_|_|_|_|_|_|_|_|_|j
        all_goals first|exact hq|exact absurd (show D 7=true from hj) (by rw[h0];decide)
       rw[show AnyO.addD D 7 7=true from rfl,show AnyO.addD D 7 10=D 10 from rfl,hf10]
       exact WK.grow hst ho' hg' (Or.inl hat')
      ·refine AnyO.I rfl [9,7,7,0,1,2,3,4,5,6,7] ?_;rintro D vs u σ Q h0 hC hp ac hb K hK
       have s88:_=_:=AnyO.sv 88 9 hb hp Q
       have s86:_=_:=AnyO.sv 86 7 hb hp Q
       have hp7:D 7=true:=hp.out 7 (by decide)
       have hst:=Q.out.2
       rw[show D 7=true from hp7,show D 10=false from h0] at hst
       obtain⟨rf,rc,rp⟩:=WK.put hst HS.out.1
       have RP:=Lib.hid rp
       clear hst rp
       go_simp
       exact hK undef _ (AnyO.InvG.step (g:=σ) Q.out.1 trivial (by rw[show AnyO.addD D 10 7=D 7 from rfl,hp7,show AnyO.addD D 10 10=true from rfl];exact RP.out))
      all_goals
       refine AnyO.J rfl ?_;rintro D vs u σ Q h0 hC hp ac hb K hK
       try have s0:ac.tmps[0]?.getD undef=.pointer (some ⟨b,0,none⟩):=by rw[hb.out];kernel_rfl
       try have s80:_=_:=AnyO.sv 80 1 hb hp Q
       try have s81:_=_:=AnyO.sv 81 2 hb hp Q
       try have s3:ac.tmps[3]?.getD undef=.pointer (some ⟨g,0,none⟩):=by rw[hb.out];kernel_rfl
       try have s84:_=_:=AnyO.sv 84 5 hb hp Q
       try have s79:_=_:=AnyO.sv 79 0 hb hp Q
       try have s87:_=_:=AnyO.sv 87 8 hb hp Q
       obtain⟨rr1,rr2⟩:=(Q.out.2.row HS.out.1 HS.out.2.2.2.2.1 HS.out.2.2.2.1).idC
       go_simp
       exact hK _ _ (AnyO.InvG.step (g:=σ) Q.out.1 rfl (WK.read Q.out.2 (Below.refl _ _)))
     ·intro D vs u hI hD
      obtain⟨σ,hP,hW⟩:=hI
      have e0:_=_:=hP 0 (hD 0 (by decide))
      have e1:_=_:=hP 1 (hD 1 (by decide))
      have e2:_=_:=hP 2 (hD 2 (by decide))
      have e3:_=_:=hP 3 (hD 3 (by decide))
      have e4:_=_:=hP 4 (hD 4 (by decide))
      have e5:_=_:=hP 5 (hD 5 (by decide))
      have e6:_=_:=hP 6 (hD 6 (by decide))
      have e7:_=_:=hP 7 (hD 7 (by decide))
      have e8:_=_:=hP 8 (hD 8 (by decide))
      have e9:_=_:=hP 9 (hD 9 (by decide))
      have hst:=hW
      rw[show D 7=true from hD 7 (by decide),show D 10=true from hD 10 (by decide)] at hst
      have HST:=Lib.hid hst
      clear hst
      have HW:=Lib.hid hW
      clear hW hP hD
      rw[puts_range [some 79,some 80,some 81,some 82,some 83,some 84,some 85,some 86,some 87,some 88,none] (by kernel_rfl)]
      simp only[putL,Nat.reduceAdd,e0,e1,e2,e3,e4,e5,e6,e7,e8,e9]
      clear e0 e1 e2 e3 e4 e5 e6 e7 e8 e9
      obtain⟨hT8,hK8⟩:=HST.out
      obtain⟨U8,rfl⟩:∃ U8,U8=u:=⟨_,rfl⟩
      obtain⟨v8,rfl⟩:∃ v8,v8=σ:=⟨_,rfl⟩
      obtain⟨F8,hF8⟩:∃ F8,blkL v8++F7=F8:=⟨_,rfl⟩
      rw[hF8] at hT8 hK8
      have ro:=(HS.out.2.2.2.2.2.kp hK8 HS.out.2.2.1).rowOk (cC_length zC)
      have rc:=HS.out.2.2.2.2.1.kp hK8 HS.out.2.2.2.1
      have r1:=(Row.okw rc (cC_length c)).1
      have r2:rdA U8 ⟨g,0,none⟩ 39=vC c:=(Row.okw rc (cC_length c)).2
      have HS8:=Lib.hid (And.intro hT8 (And.intro hK8 (hK8.out r0 HS.out.2.2.2.2.2.lt HS.out.2.2.1).1))
      clear hT8 hK8 hF8 rc
      go_simp
      go_wp2
      have hs1:=HS1.out
      subst hs1
      exact bodyPost_ret (v:=.tuple #[vC c,.int .i64 0]) (results_c2 (ad:=⟨r0,0,none⟩) rfl rfl (ld_setRow c ro) rfl) rfl ⟨rfl,fin_row HS8.out.1 ((HT.out.2.2.2.trans HS.out.2.1).trans HS8.out.2.1) HS8.out.2.2 HR.out c⟩
   ·rw[hpk,if_pos h1] at hz
    subst hz
    have q1:(s.act[k].state != 1)=true:=by simpa using h1
    clear h1 hpk
    go_wp2
    exact bodyPost_ret (v:=.tuple #[vC zC,.int .i64 10]) (results_c2 (ad:=⟨r0,0,none⟩) rfl rfl (ld_setRow zC ro) rfl) rfl ⟨rfl,fin_row HT.out.1 HT.out.2.2.2 H1.out.2.2.2.2.2.1 HR.out zC⟩
end
end Go.Proofs.YtgojaelkdpabkaaGreatDoor
