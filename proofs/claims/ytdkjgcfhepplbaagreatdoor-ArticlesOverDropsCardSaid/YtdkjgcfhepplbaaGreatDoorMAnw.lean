/- Taker's Answer: Want. -/
import Derived.Test.YtdkjgcfhepplbaaGreatDoorMAns
namespace Go.Proofs.YtdkjgcfhepplbaaGreatDoor
open Go.RowKit
theorem wantP_zero {s:Tk} {c:Cm} {k:Nat} (hk:k<s.act.length) (h:c.from_=0):wantP s c k={ s.act[k] with state:=2 }:=by
 unfold wantP
 rw[if_neg (by omega),ptK_eq hk]
theorem wantP_more {s:Tk} {c:Cm} {k j:Nat} (hk:k<s.act.length) (h:0<c.from_) (hp:posL s.kept c.id=some j) (hj:j<s.kept.length):wantP s c k={ s.act[k] with state:=2,bytes:=s.kept[j].bytes }:=by
 unfold wantP
 rw[if_pos h,hp,ptK_eq hk]
 dsimp only
 rw[ptK_eq hj]
set_option maxRecDepth 100000 in
set_option maxHeartbeats 6400000 in
theorem answer16_v3 (b:Nat) (s:Tk) (F:List Nat) (c:Cm) (w:World) (h:TkAt b s F w) (hL:FormsAt w) (hn:c.name.size≤1000000) (hna:s.act.length≤100) (hnk:s.kept.length≤100) (hc:chk c=0) (hv:c.verb=3) :
  Calls Tryz.prog 32 #[.pointer (some ⟨b,0,none⟩),vC c] w (AnsP b (answerT s c).1 (answerT s c).2.1 (answerT s c).2.2 F w):=by
 obtain⟨va,vk,h⟩:=h
 obtain⟨F0,h0,hK0,hlt⟩:=h.shrink
 obtain⟨g,hg⟩:∃ g,w.heap.size=g:=⟨_,rfl⟩
 obtain⟨W1,hW1⟩:∃ W1,w.alloc (.cells (aC c) 74)=W1:=⟨_,rfl⟩
 obtain⟨r0,hr0⟩:∃ r0,W1.heap.size=r0:=⟨_,rfl⟩
 obtain⟨W2,hW2⟩:∃ W2,W1.alloc (.cells (aC zC) 74)=W2:=⟨_,rfl⟩
 have hb1:Below w.heap.size w W1:=by rw[← hW1];exact below_alloc _ _
 have hb2:Below W1.heap.size W1 W2:=by rw[← hW2];exact below_alloc _ _
 have hb:=Below.step hb1 hb2
 have hrow:Row W1 g (cC c) 74:=by rw[← hW1,← hg];exact Row.new w (cC c) _
 have hro:Row W2 r0 (cC zC) 74:=by rw[← hW2,← hr0];exact Row.new W1 (cC zC) _
 have hs1:=hb1.size
 have r1:=(Row.okw (hrow.keep hb2) (cC_length c)).1
 have r2:rdA W2 ⟨g,0,none⟩ 39=vC c:=(Row.okw (hrow.keep hb2) (cC_length c)).2
 have H1:=Lib.hid (And.intro (hrow.keep hb2) (And.intro hro (And.intro (h0.keep hb) (And.intro (hK0.trans (Kp.of_below hb)) (And.intro (show g∉F0 from fun hm=>by have:=hlt g hm;omega) (And.intro (show r0∉F0 from fun hm=>by have:=hlt r0 hm;omega) (hL.keep hb)))))))
 have HR:=Lib.hid (show w.heap.size≤r0 by omega)
 have HN:=Lib.hid hn
 have HNA:=Lib.hid (show s.act.length≤1000000 by omega)
 have HNK:=Lib.hid (show s.kept.length≤1000000 by omega)
 clear hb1 hb2 hb hrow hro h h0 hK0 hlt hL hn hs1
 have HC:=Lib.hid hc
 have HV:=Lib.hid hv
 have hA:answerT s c=(match posL s.act c.id with
  | none=>(s,zC,8)
  | some k=>if (ptK s.act k).state≠1 then (s,zC,10) else if c.from_≠0∧c.from_≠gotL s.kept c.id then (s,zC,2) else (⟨s.win,s.opn,s.act.set k (wantP s c k),withoutL s.kept c.id⟩,c,0)):=by
  unfold answerT
  rw[if_neg (by rw[hc];decide),if_neg (by rw[hv];decide),hv]
  simp only[true_and,if_true]
  rfl
 obtain⟨Z,hZ⟩:∃ Z,answerT s c=Z:=⟨_,rfl⟩
 rw[hZ]
 rw[hA] at hZ
 have HZ:=Lib.hid hZ
 clear hA hc hv hZ
 obtain⟨i,hi⟩:∃ i,idxL s.act c.id=i:=⟨_,rfl⟩
 have HI:=Lib.hid hi
 clear hi
 go_enter Tryz.func32,Tryz.ntmps32
 go_wp2_with (go_at_call 53;refine (check16 c W2 H1.out.2.2.2.2.2.2 HN.out).mono ?_;rintro e w3 ⟨rfl,hb3⟩;rw[HC.out];have ro:=(H1.out.2.1.keep hb3).rowOk (cC_length zC);have j0:w3.cell? ⟨g,0,none⟩=some (.int .i64 c.verb):=(H1.out.1.keep hb3).cell 0;rw[HV.out] at j0;have H3:=Lib.hid (And.intro (H1.out.1.keep hb3) (And.intro (H1.out.2.1.keep hb3) (And.intro (H1.out.2.2.1.keep hb3) (H1.out.2.2.2.1.trans (Kp.of_below hb3)))));clear hb3)
 refine AnyO.wp_anyI (by kernel_rfl) (by kernel_rfl) (AnyO.InvG (σ:=Unit) (fun σ=>AnyO.pvL [some (.pointer (some ⟨b,0,none⟩)),some (.pointer (some ⟨b,0,none⟩)),some (.pointer (some ⟨b,2,none⟩)),some (.slice va.1 s.act.length va.2.2),some (.pointer (some ⟨g,2,none⟩)),some (vI c.id),some (.int .i64 i),some (.int .i64 i)]) (fun _ _ u=>Below w3.heap.size w3 u)) (AnyO.InvG.start (g:=()) (below_drew _)) ?_ ?_
 ·intro i hi
  have hi2:i=6∨i=0∨i=1∨i=2∨i=3∨i=4∨i=5∨i=7:=by simp only[List.size_toArray,List.length_cons,List.length_nil] at hi;omega
  clear hi
  rcases hi2 with rfl|rfl|rfl|rfl|rfl|rfl|rfl|rfl
  ·refine AnyO.I rfl [3,5] ?_;rintro D vs u σ Q h0 hC hp ac hb K hK
   have s29:_=_:=AnyO.sv 29 3 hb hp Q
   have s31:_=_:=AnyO.sv 31 5 hb hp Q
   go_simp
   go_at_call 68
   refine (find40 va.1 va.2.2 s.act c.id u (Own.slOf ((H3.out.2.2.1.keep Q.out.2).oa)) HNA.out).mono ?_
   rintro e w2 ⟨rfl,hcb⟩
   rw[HI.out]
   exact hK _ _ (AnyO.InvG.step (g:=σ) Q.out.1 rfl (Below.step Q.out.2 hcb))
  all_goals
   refine AnyO.J rfl ?_;rintro D vs u σ Q h0 hC hp ac hb K hK
   try have s0:ac.tmps[0]?.getD undef=.pointer (some ⟨b,0,none⟩):=by rw[hb.out];kernel_rfl
   try have s26:_=_:=AnyO.sv 26 0 hb hp Q
   try have s27:_=_:=AnyO.sv 27 1 hb hp Q
   try have s28:_=_:=AnyO.sv 28 2 hb hp Q
   try have s3:ac.tmps[3]?.getD undef=.pointer (some ⟨g,0,none⟩):=by rw[hb.out];kernel_rfl
   try have s30:_=_:=AnyO.sv 30 4 hb hp Q
   try have s32:_=_:=AnyO.sv 32 6 hb hp Q
   have rr_0:=(H3.out.2.2.1.keep Q.out.2).c2
   rw[H3.out.2.2.1.la] at rr_0
   obtain⟨rr1_1,rr2_1⟩:=(H3.out.1.keep Q.out.2).idC
   go_simp
   exact hK _ _ (AnyO.InvG.step (g:=σ) Q.out.1 rfl Q.out.2)
 ·intro D vs u hI hD
  obtain⟨σ,hP,hW⟩:=hI
  have e0:_=_:=hP 0 (hD 0 (by decide))
  have e1:_=_:=hP 1 (hD 1 (by decide))
  have e2:_=_:=hP 2 (hD 2 (by decide))
  have e3:_=_:=hP 3 (hD 3 (by decide))
  have e4:_=_:=hP 4 (hD 4 (by decide))
  have e5:_=_:=hP 5 (hD 5 (by decide))
  have e6:_=_:=hP 6 (hD 6 (by decide))
  have e7:_=_:=hP 7 (hD 7 (by decide))
  have HW:=Lib.hid hW
  clear hW hP hD
  rw[puts_range [some 26,some 27,some 28,some 29,some 30,some 31,some 32,some 7] (by kernel_rfl)]
  simp only[putL,Nat.reduceAdd,e0,e1,e2,e3,e4,e5,e6,e7]
  clear e0 e1 e2 e3 e4 e5 e6 e7
  go_simp
  clear ro j0
  obtain⟨U,rfl⟩:∃ U,U=u:=⟨_,rfl⟩
  have ro:=(H3.out.2.1.keep HW.out).rowOk (cC_length zC)
  have j0:=(H3.out.1.keep HW.out).cell 0
  change U.cell? _=some (.int .i64 c.verb) at j0
  rw[HV.out] at j0
  have HT:=Lib.hid (And.intro (H3.out.2.2.1.keep HW.out) (And.intro (H3.out.1.keep HW.out) (And.intro (H3.out.2.1.keep HW.out) (H3.out.2.2.2.trans (Kp.of_below HW.out)))))
  cases hp:posL s.act c.id with
  | none =>
   have hii:i=-1:=by rw[← HI.out];exact idx_none hp
   subst hii
   have hz:=HZ.out
   rw[hp] at hz
   dsimp only at hz
   subst hz
   clear hp
   go_wp2
   exact bodyPost_ret (v:=.tuple #[vC zC,.int .i64 8]) (results_c2 (ad:=⟨r0,0,none⟩) rfl rfl (ld_setRow zC ro) rfl) rfl ⟨rfl,fin_row HT.out.1 HT.out.2.2.2 H1.out.2.2.2.2.2.1 HR.out zC⟩
  | some k =>
   obtain⟨hk, -, -⟩:=pos_some hp
   have hii:i=(k:Int):=by rw[← HI.out];exact idx_some hp
   subst hii
   have hz:=HZ.out
   rw[hp] at hz
   dsimp only at hz
   clear hp
   obtain⟨g0,hva⟩:=Own.ad0 HT.out.1.oa (fun e=>by rw[e] at hk;exact absurd hk (Nat.not_lt_zero _))
   have hat:∀ u,Below U.heap.size U u→At u ⟨g0,k * 35,none⟩ (cA s.act[k]):=by
    intro u hu
    obtain⟨ad,e1, -, -,hat⟩:=Sl.pt (Own.slOf (HT.out.1.keep hu).oa) hk
    rw[hva] at e1
    cases e1
    rwa[add_off,Nat.zero_add] at hat
   have rr:=HT.out.1.c2
   rw[HT.out.1.la,hva] at rr
   have r33:=(hat U (Below.refl _ _)).f33
   dsimp only at r33
   have hk1:(k:Int)<(s.act.length:Int):=by omega
   have hpk:ptK s.act k=s.act[k]:=ptK_eq hk
   have HAT:=Lib.hid (And.intro hat hva)
   clear hat hva
   by_cases h1:s.act[k].state=1
   ·rw[hpk,if_neg (by intro h;exact h h1)] at hz
    rw[h1] at r33
    clear h1 hpk
    have j35:=(HT.out.2.1.cell 35).trans (cC_at (aC_35 c))
    by_cases hf0:c.from_=0
    ·rw[if_neg (by intro h;exact h.1 hf0),wantP_zero hk hf0] at hz
     subst hz
     rw[hf0] at j35
     go_wp2
     go_quiet (fail)
     generalize hU17:World.drewN _ _=U17
     have hb17:Below U.heap.size U U17:=by rw[← hU17];exact below_drewN _ _
     clear hU17
     have HT17:=Lib.hid (And.intro (HT.out.1.keep hb17) (And.intro (HT.out.2.1.keep hb17) (And.intro (HT.out.2.2.1.keep hb17) (HT.out.2.2.2.trans (Kp.of_below hb17)))))
     clear j0 rr r33 j35 ro
     have j0:U17.cell? ⟨g,0,none⟩=some (.int .i64 c.verb):=HT17.out.2.1.cell 0
     rw[HV.out] at j0
     have rr:=HT17.out.1.c2
     rw[HT17.out.1.la,HAT.out.2] at rr
     have r33:=(HAT.out.1 U17 hb17).f33
     dsimp only at r33
     obtain⟨p2,hp2⟩:∃ p2:Pt,{ s.act[k] with state:=2 }=p2:=⟨_,rfl⟩
     obtain⟨W5,hW5⟩:∃ W5,U17.setCell ⟨g0,k * 35+33,none⟩ (.int .i64 2)=W5:=⟨_,rfl⟩
     have hset:=HT17.out.1.setF HAT.out.2 k hk 33 (by decide) (.int .i64 2) p2 (by rw[← hp2];exact cA_set33 _ _)
     have ff:=hset.1
     rw[hW5] at hset
     obtain⟨s5,hs5⟩:∃ s5:Tk,{ s with act:=s.act.set k p2 }=s5:=⟨_,rfl⟩
     rw[hs5] at hset
     have hrc5:=HT17.out.2.1.kp hset.2.2 H1.out.2.2.2.2.1
     have HS5:=Lib.hid (And.intro hs5 hp2)
     have HT5:=Lib.hid (And.intro hset.2.1 (And.intro hrc5 (And.intro (HT17.out.2.2.1.kp hset.2.2 H1.out.2.2.2.2.2.1) (HT17.out.2.2.2.trans hset.2.2))))
     have j5:W5.cell? ⟨g,35,none⟩=some (.int .i64 c.from_):=(hrc5.cell 35).trans (cC_at (aC_35 c))
     rw[hf0] at j5
     have HNK5:=Lib.hid (show s5.kept.length≤1000000 by rw[← hs5];exact HNK.out)
     clear hset hrc5 hb17 hs5 hp2
     go_wp2
     refine AnyO.wp_anyI (by kernel_rfl) (by kernel_rfl) (AnyO.InvG (σ:=SlV) (fun σ=>AnyO.pvL [some (.pointer (some ⟨b,0,none⟩)),some (.pointer (some ⟨b,0,none⟩)),some (.pointer (some ⟨b,0,none⟩)),some (.pointer (some ⟨b,3,none⟩)),some (.slice vk.1 vk.2.1 vk.2.2),some (.pointer (some ⟨g,2,none⟩)),some (vI c.id),some (.slice σ.1 σ.2.1 σ.2.2),some (.pointer (some ⟨b,0,none⟩)),some (.pointer (some ⟨b,3,none⟩)),none]) (fun σ D u=>WK b s5 F0 va vk (withoutL s5.kept c.id) W5 σ u (D 7) (D 10))) (AnyO.InvG.start (g:=(none,0,0)) (below_drew _)) ?_ ?_
     ·intro i hi
      have hi2:i=4∨i=7∨i=10∨i=0∨i=1∨i=2∨i=3∨i=5∨i=6∨i=8∨i=9:=by simp only[List.size_toArray,List.length_cons,List.length_nil] at hi;omega
      clear hi
      rcases hi2 with rfl|rfl|rfl|rfl|rfl|rfl|rfl|rfl|rfl|rfl|rfl
      ·refine AnyO.I rfl [3] ?_;rintro D vs u σ Q h0 hC hp ac hb K hK
       have s123:_=_:=AnyO.sv 123 3 hb hp Q
       have hf7:=AnyO.fls (hC.out 7) h0 (by kernel_rfl)
       have hst:=Q.out.2
       rw[show D 7=false from hf7] at hst
       have rr:=(HT5.out.1.keep hst).c3
       clear hst hf7
       go_simp
       exact hK _ _ (AnyO.InvG.step (g:=σ) Q.out.1 rfl (WK.read Q.out.2 (Below.refl _ _)))
      ·refine AnyO.I rfl [4,6] ?_;rintro D vs u σ Q h0 hC hp ac hb K hK
       have s124:_=_:=AnyO.sv 124 4 hb hp Q
       have s126:_=_:=AnyO.sv 126 6 hb hp Q
       have hf10:=AnyO.fls (hC.out 10) h0 (by kernel_rfl)
       go_simp
       have hst:=Q.out.2
       rw[show D 7=false from h0] at hst
       go_at_call 70
       refine (without42 0 _ s5.kept c.id u (HT5.out.1.keep hst).ok HNK5.out).mono ?_
       rintro e w2 ⟨v',rfl,ho',hg',hat'⟩
       obtain⟨A1,c1,rfl, -, -⟩:=Own.sl ho'
       refine hK _ _ (AnyO.InvG.ghost (g:=σ) (A1,_,c1) Q.out.1 ?_ rfl ?_)
       ·intro j hj hq
        rcases j with _|_|_|_|_|_|_|_|_|_|_|j
        all_goals first|exact hq|exact absurd (show D 7=true from hj) (by rw[h0];decide)
       rw[show AnyO.addD D 7 7=true from rfl,show AnyO.addD D 7 10=D 10 from rfl,hf10]
       exact WK.grow hst ho' hg' (Or.inl hat')
      ·refine AnyO.I rfl [9,7,7,0,1,2,3,4,5,6,7] ?_;rintro D vs u σ Q h0 hC hp ac hb K hK
       have s129:_=_:=AnyO.sv 129 9 hb hp Q
       have s127:_=_:=AnyO.sv 127 7 hb hp Q
       have hp7:D 7=true:=hp.out 7 (by decide)
       have hst:=Q.out.2
       rw[show D 7=true from hp7,show D 10=false from h0] at hst
       obtain⟨rf,rc,rp⟩:=WK.put hst HT5.out.1
       have RP:=Lib.hid rp
       clear hst rp
       go_simp
       exact hK undef _ (AnyO.InvG.step (g:=σ) Q.out.1 trivial (by rw[show AnyO.addD D 10 7=D 7 from rfl,hp7,show AnyO.addD D 10 10=true from rfl];exact RP.out))
      all_goals
       refine AnyO.J rfl ?_;rintro D vs u σ Q h0 hC hp ac hb K hK
       try have s0:ac.tmps[0]?.getD undef=.pointer (some ⟨b,0,none⟩):=by rw[hb.out];kernel_rfl
       try have s121:_=_:=AnyO.sv 121 1 hb hp Q
       try have s122:_=_:=AnyO.sv 122 2 hb hp Q
       try have s3:ac.tmps[3]?.getD undef=.pointer (some ⟨g,0,none⟩):=by rw[hb.out];kernel_rfl
       try have s125:_=_:=AnyO.sv 125 5 hb hp Q
       try have s120:_=_:=AnyO.sv 120 0 hb hp Q
       try have s128:_=_:=AnyO.sv 128 8 hb hp Q
       obtain⟨rr1,rr2⟩:=(Q.out.2.row HT5.out.1 HT5.out.2.1 H1.out.2.2.2.2.1).idC
       go_simp
       exact hK _ _ (AnyO.InvG.step (g:=σ) Q.out.1 rfl (WK.read Q.out.2 (Below.refl _ _)))
     ·intro D vs u hI hD
      obtain⟨σ,hP,hW⟩:=hI
      have e0:_=_:=hP 0 (hD 0 (by decide))
      have e1:_=_:=hP 1 (hD 1 (by decide))
      have e2:_=_:=hP 2 (hD 2 (by decide))
      have e3:_=_:=hP 3 (hD 3 (by decide))
      have e4:_=_:=hP 4 (hD 4 (by decide))
      have e5:_=_:=hP 5 (hD 5 (by decide))
      have e6:_=_:=hP 6 (hD 6 (by decide))
      have e7:_=_:=hP 7 (hD 7 (by decide))
      have e8:_=_:=hP 8 (hD 8 (by decide))
      have e9:_=_:=hP 9 (hD 9 (by decide))
      have hst:=hW
      rw[show D 7=true from hD 7 (by decide),show D 10=true from hD 10 (by decide)] at hst
      have HST:=Lib.hid hst
      clear hst
      have HW:=Lib.hid hW
      clear hW hP hD
      rw[puts_range [some 120,some 121,some 122,some 123,some 124,some 125,some 126,some 127,some 128,some 129,none] (by kernel_rfl)]
      simp only[putL,Nat.reduceAdd,e0,e1,e2,e3,e4,e5,e6,e7,e8,e9]
      clear e0 e1 e2 e3 e4 e5 e6 e7 e8 e9
      obtain⟨hT8,hK8⟩:=HST.out
      obtain⟨U8,rfl⟩:∃ U8,U8=u:=⟨_,rfl⟩
      obtain⟨v8,rfl⟩:∃ v8,v8=σ:=⟨_,rfl⟩
      obtain⟨F8,hF8⟩:∃ F8,blkL v8++F0=F8:=⟨_,rfl⟩
      rw[hF8] at hT8 hK8
      have ro:=(HT5.out.2.2.1.kp hK8 H1.out.2.2.2.2.2.1).rowOk (cC_length zC)
      have rc:=HT5.out.2.1.kp hK8 H1.out.2.2.2.2.1
      have r1:=(Row.okw rc (cC_length c)).1
      have r2:rdA U8 ⟨g,0,none⟩ 39=vC c:=(Row.okw rc (cC_length c)).2
      have HS8:=Lib.hid (And.intro hT8 (And.intro hK8 (hK8.out r0 HT5.out.2.2.1.lt H1.out.2.2.2.2.2.1).1))
      clear hT8 hK8 hF8 rc
      go_simp
      go_wp2
      obtain⟨hs5,hp2⟩:=HS5.out
      subst hp2
      subst hs5
      exact bodyPost_ret (v:=.tuple #[vC c,.int .i64 0]) (results_c2 (ad:=⟨r0,0,none⟩) rfl rfl (ld_setRow c ro) rfl) rfl ⟨rfl,fin_row HS8.out.1 (HT5.out.2.2.2.trans HS8.out.2.1) HS8.out.2.2 HR.out c⟩
    ·have qf:(c.from_ != 0)=true:=by simpa using hf0
     obtain⟨n9,hn9⟩:∃ n9,gotL s.kept c.id=n9:=⟨_,rfl⟩
     have HN9:=Lib.hid hn9
     rw[hn9] at hz
     by_cases hg9:c.from_=n9
     ·rw[if_neg (by intro h;exact h.2 hg9)] at hz
      have qn:(c.from_ != n9)=false:=by simpa using hg9
      have hj:∃ j,posL s.kept c.id=some j:=by
       cases hq:posL s.kept c.id with
       | none=>rw[got_none hq] at hn9;exact absurd (hg9.trans hn9.symm) hf0
       | some j=>exact⟨j,rfl⟩
      obtain⟨j,hj⟩:=hj
      obtain⟨hjl, -, -⟩:=pos_some hj
      have hn8:=got_some hj hjl
      rw[hn9] at hn8
      have hpos:0<c.from_:=by omega
      rw[wantP_more hk hpos hj hjl] at hz
      subst hz
      have HJ:=Lib.hid (And.intro hj (And.intro (idx_some hj) hf0))
      clear hj hn8 hn9 hf0 hg9
      go_wp2
      refine AnyO.wp_anyI (by kernel_rfl) (by kernel_rfl) (AnyO.InvG (σ:=Unit) (fun σ=>AnyO.pvL [some (.pointer (some ⟨g,0,none⟩)),some (.int .i64 3),some (.bool true),some (.bool true),some (.pointer (some ⟨g,35,none⟩)),some (.int .i64 c.from_),some (.bool true),some (.bool true),some (.bool true),some (.pointer (some ⟨g,35,none⟩)),some (.int .i64 c.from_),some (.pointer (some ⟨b,0,none⟩)),some (.pointer (some ⟨g,2,none⟩)),some (vI c.id),some (.int .i64 n9),some (.bool false),some (.bool false),some (.bool false)]) (fun _ _ u=>Below U.heap.size U u)) (AnyO.InvG.start (g:=()) (below_drew _)) ?_ ?_
      ·intro i hi
       have hi2:i=1∨i=4∨i=5∨i=6∨i=9∨i=10∨i=11∨i=12∨i=13∨i=14∨i=15∨i=0∨i=2∨i=3∨i=7∨i=8∨i=16∨i=17:=by simp only[List.size_toArray,List.length_cons,List.length_nil] at hi;omega
       clear hi
       rcases hi2 with rfl|rfl|rfl|rfl|rfl|rfl|rfl|rfl|rfl|rfl|rfl|rfl|rfl|rfl|rfl|rfl|rfl|rfl
       ·refine AnyO.I rfl [0] ?_;rintro D vs u σ Q h0 hC hp ac hb K hK
        have s49:_=_:=AnyO.sv 49 0 hb hp Q
        have rj:=(HT.out.2.1.keep Q.out.2).cell 0
        change u.cell? _=some (.int .i64 c.verb) at rj
        rw[HV.out] at rj
        go_simp;exact hK _ _ (AnyO.InvG.step (g:=σ) Q.out.1 rfl Q.out.2)
       ·refine AnyO.StepI.mk rfl [3] (by kernel_rfl) ?_;rintro D vs u ⟨σ,hP,hW⟩ h0 hC hp ac hb K hK
        have s3:ac.tmps[3]?.getD undef=.pointer (some ⟨g,0,none⟩):=by rw[hb];kernel_rfl
        have s52:=AnyO.slot 52 hb (by kernel_rfl) (hP 3 (hp 3 (by decide)))
        rw[if_pos (AnyO.wanted_some (g:=3) (t:=52) (want:=true) rfl rfl s52)]
        clear hb hp hC h0
        have HPW:=Lib.hid (And.intro hP hW);clear hP hW;go_simp;exact hK _ _ (AnyO.InvG.step (g:=σ) HPW.out.1 rfl HPW.out.2)
       ·refine AnyO.StepI.mk rfl [4,3] (by kernel_rfl) ?_;rintro D vs u ⟨σ,hP,hW⟩ h0 hC hp ac hb K hK
        have s53:=AnyO.slot 53 hb (by kernel_rfl) (hP 4 (hp 4 (by decide)))
        have s52:=AnyO.slot 52 hb (by kernel_rfl) (hP 3 (hp 3 (by decide)))
        rw[if_pos (AnyO.wanted_some (g:=3) (t:=52) (want:=true) rfl rfl s52)]
        clear hb hp
        have rj:=((HT.out.2.1.keep hW).cell 35).trans (cC_at (aC_35 c))
        clear hC h0;have HPW:=Lib.hid (And.intro hP hW);clear hP hW;go_simp;exact hK _ _ (AnyO.InvG.step (g:=σ) HPW.out.1 rfl HPW.out.2)
       ·refine AnyO.StepI.mk rfl [5,3] (by kernel_rfl) ?_;rintro D vs u ⟨σ,hP,hW⟩ h0 hC hp ac hb K hK
        have s54:=AnyO.slot 54 hb (by kernel_rfl) (hP 5 (hp 5 (by decide)))
        have s52:=AnyO.slot 52 hb (by kernel_rfl) (hP 3 (hp 3 (by decide)))
        rw[if_pos (AnyO.wanted_some (g:=3) (t:=52) (want:=true) rfl rfl s52)]
        clear hb hp hC h0
        have HPW:=Lib.hid (And.intro hP hW);clear hP hW;go_simp;exact hK _ _ (AnyO.InvG.step (g:=σ) HPW.out.1 rfl HPW.out.2)
       ·refine AnyO.StepI.mk rfl [8] (by kernel_rfl) ?_;rintro D vs u ⟨σ,hP,hW⟩ h0 hC hp ac hb K hK
        have s3:ac.tmps[3]?.getD undef=.pointer (some ⟨g,0,none⟩):=by rw[hb];kernel_rfl
        have s57:=AnyO.slot 57 hb (by kernel_rfl) (hP 8 (hp 8 (by decide)))
        rw[if_pos (AnyO.wanted_some (g:=8) (t:=57) (want:=true) rfl rfl s57)]
        clear hb hp hC h0
        have HPW:=Lib.hid (And.intro hP hW);clear hP hW;go_simp;exact hK _ _ (AnyO.InvG.step (g:=σ) HPW.out.1 rfl HPW.out.2)
       ·refine AnyO.StepI.mk rfl [9,8] (by kernel_rfl) ?_;rintro D vs u ⟨σ,hP,hW⟩ h0 hC hp ac hb K hK
        have s58:=AnyO.slot 58 hb (by kernel_rfl) (hP 9 (hp 9 (by decide)))
        have s57:=AnyO.slot 57 hb (by kernel_rfl) (hP 8 (hp 8 (by decide)))
        rw[if_pos (AnyO.wanted_some (g:=8) (t:=57) (want:=true) rfl rfl s57)]
        clear hb hp
        have rj:=((HT.out.2.1.keep hW).cell 35).trans (cC_at (aC_35 c))
        clear hC h0;have HPW:=Lib.hid (And.intro hP hW);clear hP hW;go_simp;exact hK _ _ (AnyO.InvG.step (g:=σ) HPW.out.1 rfl HPW.out.2)
       ·refine AnyO.StepI.mk rfl [8] (by kernel_rfl) ?_;rintro D vs u ⟨σ,hP,hW⟩ h0 hC hp ac hb K hK
        have s0:ac.tmps[0]?.getD undef=.pointer (some ⟨b,0,none⟩):=by rw[hb];kernel_rfl
        have s57:=AnyO.slot 57 hb (by kernel_rfl) (hP 8 (hp 8 (by decide)))
        rw[if_pos (AnyO.wanted_some (g:=8) (t:=57) (want:=true) rfl rfl s57)]
        clear hb hp hC h0
        have HPW:=Lib.hid (And.intro hP hW);clear hP hW;go_simp;exact hK _ _ (AnyO.InvG.step (g:=σ) HPW.out.1 rfl HPW.out.2)
       ·refine AnyO.StepI.mk rfl [8] (by kernel_rfl) ?_;rintro D vs u ⟨σ,hP,hW⟩ h0 hC hp ac hb K hK
        have s3:ac.tmps[3]?.getD undef=.pointer (some ⟨g,0,none⟩):=by rw[hb];kernel_rfl
        have s57:=AnyO.slot 57 hb (by kernel_rfl) (hP 8 (hp 8 (by decide)))
        rw[if_pos (AnyO.wanted_some (g:=8) (t:=57) (want:=true) rfl rfl s57)]
        clear hb hp hC h0
        have HPW:=Lib.hid (And.intro hP hW);clear hP hW;go_simp;exact hK _ _ (AnyO.InvG.step (g:=σ) HPW.out.1 rfl HPW.out.2)
       ·refine AnyO.StepI.mk rfl [12,8] (by kernel_rfl) ?_;rintro D vs u ⟨σ,hP,hW⟩ h0 hC hp ac hb K hK
        have s61:=AnyO.slot 61 hb (by kernel_rfl) (hP 12 (hp 12 (by decide)))
        have s57:=AnyO.slot 57 hb (by kernel_rfl) (hP 8 (hp 8 (by decide)))
        rw[if_pos (AnyO.wanted_some (g:=8) (t:=57) (want:=true) rfl rfl s57)]
        clear hb hp
        obtain⟨rr1,rr2⟩:=(HT.out.2.1.keep hW).idC
        clear hC h0;have HPW:=Lib.hid (And.intro hP hW);clear hP hW;go_simp;exact hK _ _ (AnyO.InvG.step (g:=σ) HPW.out.1 rfl HPW.out.2)
       ·refine AnyO.StepI.mk rfl [11,13,8,8] (by kernel_rfl) ?_;rintro D vs u ⟨σ,hP,hW⟩ h0 hC hp ac hb K hK
        have s60:=AnyO.slot 60 hb (by kernel_rfl) (hP 11 (hp 11 (by decide)))
        have s62:=AnyO.slot 62 hb (by kernel_rfl) (hP 13 (hp 13 (by decide)))
        have s57:=AnyO.slot 57 hb (by kernel_rfl) (hP 8 (hp 8 (by decide)))
        rw[if_pos (AnyO.wanted_some (g:=8) (t:=57) (want:=true) rfl rfl s57)]
        clear hb hp hC h0
        have HPW:=Lib.hid (And.intro hP hW);clear hP hW;go_simp;obtain⟨hP,hW⟩:=HPW.out
        go_at_call 69
        refine (keptBytes41 b s F0 va vk c.id u (HT.out.1.keep hW) HNK.out).mono ?_
        rintro e w2 ⟨rfl,hcb⟩
        rw[HN9.out]
        exact hK _ _ (AnyO.InvG.step (g:=σ) hP rfl (Below.step hW hcb))
       ·refine AnyO.StepI.mk rfl [10,14,8] (by kernel_rfl) ?_;rintro D vs u ⟨σ,hP,hW⟩ h0 hC hp ac hb K hK
        have s59:=AnyO.slot 59 hb (by kernel_rfl) (hP 10 (hp 10 (by decide)))
        have s63:=AnyO.slot 63 hb (by kernel_rfl) (hP 14 (hp 14 (by decide)))
        have s57:=AnyO.slot 57 hb (by kernel_rfl) (hP 8 (hp 8 (by decide)))
        rw[if_pos (AnyO.wanted_some (g:=8) (t:=57) (want:=true) rfl rfl s57)]
        clear hb hp hC h0
        have HPW:=Lib.hid (And.intro hP hW);clear hP hW;go_simp;exact hK _ _ (AnyO.InvG.step (g:=σ) HPW.out.1 rfl HPW.out.2)
       all_goals
        refine AnyO.J rfl ?_;rintro D vs u σ Q h0 hC hp ac hb K hK
        try have s3:ac.tmps[3]?.getD undef=.pointer (some ⟨g,0,none⟩):=by rw[hb.out];kernel_rfl
        try have s50:_=_:=AnyO.sv 50 1 hb hp Q
        try have s51:_=_:=AnyO.sv 51 2 hb hp Q
        try have s52:_=_:=AnyO.sv 52 3 hb hp Q
        try have s55:_=_:=AnyO.sv 55 6 hb hp Q
        try have s56:_=_:=AnyO.sv 56 7 hb hp Q
        try have s57:_=_:=AnyO.sv 57 8 hb hp Q
        try have s64:_=_:=AnyO.sv 64 15 hb hp Q
        try have s65:_=_:=AnyO.sv 65 16 hb hp Q
        go_simp
        exact hK _ _ (AnyO.InvG.step (g:=σ) Q.out.1 rfl Q.out.2)
      ·intro D vs u hI hD
       obtain⟨σ,hP,hW⟩:=hI
       have e0:_=_:=hP 0 (hD 0 (by decide))
       have e1:_=_:=hP 1 (hD 1 (by decide))
       have e2:_=_:=hP 2 (hD 2 (by decide))
       have e3:_=_:=hP 3 (hD 3 (by decide))
       have e4:_=_:=hP 4 (hD 4 (by decide))
       have e5:_=_:=hP 5 (hD 5 (by decide))
       have e6:_=_:=hP 6 (hD 6 (by decide))
       have e7:_=_:=hP 7 (hD 7 (by decide))
       have e8:_=_:=hP 8 (hD 8 (by decide))
       have e9:_=_:=hP 9 (hD 9 (by decide))
       have e10:_=_:=hP 10 (hD 10 (by decide))
       have e11:_=_:=hP 11 (hD 11 (by decide))
       have e12:_=_:=hP 12 (hD 12 (by decide))
       have e13:_=_:=hP 13 (hD 13 (by decide))
       have e14:_=_:=hP 14 (hD 14 (by decide))
       have e15:_=_:=hP 15 (hD 15 (by decide))
       have e16:_=_:=hP 16 (hD 16 (by decide))
       have e17:_=_:=hP 17 (hD 17 (by decide))
       have HW:=Lib.hid hW
       clear hW hP hD
       rw[puts_range [some 49,some 50,some 51,some 52,some 53,some 54,some 55,some 56,some 57,some 58,some 59,some 60,some 61,some 62,some 63,some 64,some 65,some 48] (by kernel_rfl)]
       simp only[putL,Nat.reduceAdd,e0,e1,e2,e3,e4,e5,e6,e7,e8,e9,e10,e11,e12,e13,e14,e15,e16,e17]
       clear e0 e1 e2 e3 e4 e5 e6 e7 e8 e9 e10 e11 e12 e13 e14 e15 e16 e17
       go_simp
       obtain⟨U17,rfl⟩:∃ U17,U17=u:=⟨_,rfl⟩
       have hb17:=HW.out
       have HT17:=Lib.hid (And.intro (HT.out.1.keep hb17) (And.intro (HT.out.2.1.keep hb17) (And.intro (HT.out.2.2.1.keep hb17) (HT.out.2.2.2.trans (Kp.of_below hb17)))))
       clear j0 rr r33 j35 ro
       have j0:U17.cell? ⟨g,0,none⟩=some (.int .i64 c.verb):=HT17.out.2.1.cell 0
       rw[HV.out] at j0
       have rr:=HT17.out.1.c2
       rw[HT17.out.1.la,HAT.out.2] at rr
       have r33:=(HAT.out.1 U17 hb17).f33
       dsimp only at r33
       obtain⟨p2,hp2⟩:∃ p2:Pt,{ s.act[k] with state:=2 }=p2:=⟨_,rfl⟩
       obtain⟨W5,hW5⟩:∃ W5,U17.setCell ⟨g0,k * 35+33,none⟩ (.int .i64 2)=W5:=⟨_,rfl⟩
       have hset:=HT17.out.1.setF HAT.out.2 k hk 33 (by decide) (.int .i64 2) p2 (by rw[← hp2];exact cA_set33 _ _)
       have ff:=hset.1
       rw[hW5] at hset
       obtain⟨s5,hs5⟩:∃ s5:Tk,{ s with act:=s.act.set k p2 }=s5:=⟨_,rfl⟩
       rw[hs5] at hset
       have hrc5:=HT17.out.2.1.kp hset.2.2 H1.out.2.2.2.2.1
       have HS5:=Lib.hid (And.intro hs5 hp2)
       have HT5:=Lib.hid (And.intro hset.2.1 (And.intro hrc5 (And.intro (HT17.out.2.2.1.kp hset.2.2 H1.out.2.2.2.2.2.1) (HT17.out.2.2.2.trans hset.2.2))))
       have j5:W5.cell? ⟨g,35,none⟩=some (.int .i64 c.from_):=(hrc5.cell 35).trans (cC_at (aC_35 c))
       have HNK5:=Lib.hid (show s5.kept.length≤1000000 by rw[← hs5];exact HNK.out)
       clear hset hrc5 hb17 hs5 hp2
       go_wp2
       have HP5:=Lib.hid (show s5.act.length=s.act.length∧s5.kept=s.kept by rw[← HS5.out.1];exact⟨List.length_set,rfl⟩)
       obtain⟨g1,hvk⟩:=Own.ad0 HT5.out.1.ok (fun e=>by rw[HP5.out.2] at e;rw[e] at hjl;exact absurd hjl (Nat.not_lt_zero _))
       have hjl5:j<s5.kept.length:=by rw[HP5.out.2];exact hjl
       have hk5:k<s5.act.length:=by rw[HP5.out.1];exact hk
       have hatk:∀ u,Below W5.heap.size W5 u→At u ⟨g1,j * 35,none⟩ (cA s.kept[j]):=by
        intro u hu
        obtain⟨ad,e1, -, -,hat⟩:=Sl.pt (Own.slOf (HT5.out.1.keep hu).ok) hjl5
        rw[hvk] at e1
        cases e1
        rw[add_off,Nat.zero_add] at hat
        have e2:s5.kept[j]=s.kept[j]:=by simp only[HP5.out.2]
        rwa[e2] at hat
       have e5:s5.act[k]=p2:=by
        have e3:=congrArg Tk.act HS5.out.1
        have e4:s5.act[k]? = (s.act.set k p2)[k]?:=by rw[← e3]
        rw[List.getElem?_eq_getElem hk5,List.getElem?_set_self hk] at e4
        exact Option.some.inj e4
       have hat5:∀ u,Below W5.heap.size W5 u→At u ⟨g0,k * 35,none⟩ (cA p2):=by
        intro u hu
        obtain⟨ad,e1, -, -,hat⟩:=Sl.pt (Own.slOf (HT5.out.1.keep hu).oa) hk5
        rw[HAT.out.2] at e1
        cases e1
        rw[add_off,Nat.zero_add] at hat
        rwa[e5] at hat
       have HK:=Lib.hid (And.intro hatk (And.intro hvk (And.intro hat5 e5)))
       have hj1:(j:Int)<(s.kept.length:Int):=by omega
       obtain⟨p6,hp6⟩:∃ p6:Pt,{ p2 with bytes:=s.kept[j].bytes }=p6:=⟨_,rfl⟩
       obtain⟨by6,hby6⟩:∃ x,s.kept[j].bytes=x:=⟨_,rfl⟩
       have HP6:=Lib.hid (And.intro hp6 hby6)
       clear hatk hvk hat5 e5 hp6 hby6
       refine AnyO.wp_anyI (by kernel_rfl) (by kernel_rfl) (AnyO.InvG (σ:=Unit) (fun σ=>AnyO.pvL [some (.pointer (some ⟨g0,k * 35,none⟩)),some (.pointer (some ⟨b,0,none⟩)),some (.pointer (some ⟨b,0,none⟩)),some (.pointer (some ⟨b,3,none⟩)),some (.slice (some ⟨g1,0,none⟩) s.kept.length vk.2.2),some (.pointer (some ⟨b,0,none⟩)),some (.pointer (some ⟨b,0,none⟩)),some (.pointer (some ⟨b,3,none⟩)),some (.slice (some ⟨g1,0,none⟩) s.kept.length vk.2.2),some (.pointer (some ⟨g,2,none⟩)),some (vI c.id),some (.int .i64 (j:Int)),some (.pointer (some ⟨g1,j * 35,none⟩)),some (.pointer (some ⟨g1,j * 35+34,none⟩)),some (.string by6),some (.pointer (some ⟨g0,k * 35,none⟩)),some (.pointer (some ⟨g0,k * 35+34,none⟩)),none]) (fun _ D u=>DSt b s5 { s5 with act:=s5.act.set k p6 } F0 va vk W5 u (D 17))) (AnyO.InvG.start (g:=()) (below_drew _)) ?_ ?_
       ·intro i hi
        have hi2:i=4∨i=8∨i=10∨i=11∨i=14∨i=17∨i=0∨i=1∨i=2∨i=3∨i=5∨i=6∨i=7∨i=9∨i=12∨i=13∨i=15∨i=16:=by simp only[List.size_toArray,List.length_cons,List.length_nil] at hi;omega
        clear hi
        rcases hi2 with rfl|rfl|rfl|rfl|rfl|rfl|rfl|rfl|rfl|rfl|rfl|rfl|rfl|rfl|rfl|rfl|rfl|rfl
        ·refine AnyO.I rfl [3] ?_;rintro D vs u σ Q h0 hC hp ac hb K hK
         have s106:_=_:=AnyO.sv 106 3 hb hp Q
         have hf17:=AnyO.fls (hC.out 17) h0 (by kernel_rfl)
         have hst:=Q.out.2
         rw[show D 17=false from hf17] at hst
         have rr:=(HT5.out.1.keep hst).c3
         rw[HT5.out.1.lk,HK.out.2.1,HP5.out.2] at rr
         clear hst hf17
         go_simp
         exact hK _ _ (AnyO.InvG.step (g:=σ) Q.out.1 rfl (DSt.read Q.out.2 (Below.refl _ _)))
        ·refine AnyO.I rfl [7] ?_;rintro D vs u σ Q h0 hC hp ac hb K hK
         have s110:_=_:=AnyO.sv 110 7 hb hp Q
         have hf17:=AnyO.fls (hC.out 17) h0 (by kernel_rfl)
         have hst:=Q.out.2
         rw[show D 17=false from hf17] at hst
         have rr:=(HT5.out.1.keep hst).c3
         rw[HT5.out.1.lk,HK.out.2.1,HP5.out.2] at rr
         clear hst hf17
         go_simp
         exact hK _ _ (AnyO.InvG.step (g:=σ) Q.out.1 rfl (DSt.read Q.out.2 (Below.refl _ _)))
        ·refine AnyO.I rfl [9] ?_;rintro D vs u σ Q h0 hC hp ac hb K hK
         have s112:_=_:=AnyO.sv 112 9 hb hp Q
         have hf17:=AnyO.fls (hC.out 17) h0 (by kernel_rfl)
         have hst:=Q.out.2
         rw[show D 17=false from hf17] at hst
         obtain⟨rr1,rr2⟩:=(HT5.out.2.1.keep hst).idC
         clear hst hf17
         go_simp
         exact hK _ _ (AnyO.InvG.step (g:=σ) Q.out.1 rfl (DSt.read Q.out.2 (Below.refl _ _)))
        ·refine AnyO.I rfl [8,10] ?_;rintro D vs u σ Q h0 hC hp ac hb K hK
         have s111:_=_:=AnyO.sv 111 8 hb hp Q
         have s113:_=_:=AnyO.sv 113 10 hb hp Q
         have hf17:=AnyO.fls (hC.out 17) h0 (by kernel_rfl)
         have hst:=Q.out.2
         rw[show D 17=false from hf17] at hst
         go_simp
         go_at_call 68
         refine (find40 (some ⟨g1,0,none⟩) vk.2.2 s.kept c.id u (by have h:=Own.slOf (HT5.out.1.keep hst).ok;rw[HK.out.2.1,HP5.out.2] at h;exact h) HNK.out).mono ?_
         rintro e w2 ⟨rfl,hcb⟩
         rw[HJ.out.2.1]
         exact hK _ _ (AnyO.InvG.step (g:=σ) Q.out.1 rfl (DSt.read Q.out.2 hcb))
        ·refine AnyO.I rfl [13] ?_;rintro D vs u σ Q h0 hC hp ac hb K hK
         have s116:_=_:=AnyO.sv 116 13 hb hp Q
         have hf17:=AnyO.fls (hC.out 17) h0 (by kernel_rfl)
         have hst:=Q.out.2
         rw[show D 17=false from hf17] at hst
         have rr:=(HK.out.1 u hst).f34
         rw[HP6.out.2] at rr
         dsimp only at rr
         clear hst hf17
         go_simp
         exact hK _ _ (AnyO.InvG.step (g:=σ) Q.out.1 rfl (DSt.read Q.out.2 (Below.refl _ _)))
        ·refine AnyO.I rfl [16,14,11,0,1,2,3,4,5,6,7,8,9,10,11,12,13,14] ?_;rintro D vs u σ Q h0 hC hp ac hb K hK
         have s119:_=_:=AnyO.sv 119 16 hb hp Q
         have s117:_=_:=AnyO.sv 117 14 hb hp Q
         have hst:=Q.out.2
         rw[show D 17=false from h0] at hst
         have hset:=(HT5.out.1.keep hst).setF HAT.out.2 k hk5 34 (by decide) (.string by6) p6 (by rw[HK.out.2.2.2,← HP6.out.1,HP6.out.2];exact cA_set34 _ _)
         have ff:=hset.1
         have rr:=(HK.out.2.2.1 u hst).f34
         dsimp only at rr
         have HS:=Lib.hid (And.intro hset.2.1 ((Kp.of_below hst).trans hset.2.2))
         clear hset hst
         go_simp
         exact hK undef _ (AnyO.InvG.step (g:=σ) Q.out.1 trivial HS.out)
        all_goals
         refine AnyO.J rfl ?_;rintro D vs u σ Q h0 hC hp ac hb K hK
         try have s8:ac.tmps[8]?.getD undef=.pointer (some ⟨g0,k * 35,none⟩):=by rw[hb.out];kernel_rfl
         try have s0:ac.tmps[0]?.getD undef=.pointer (some ⟨b,0,none⟩):=by rw[hb.out];kernel_rfl
         try have s104:_=_:=AnyO.sv 104 1 hb hp Q
         try have s105:_=_:=AnyO.sv 105 2 hb hp Q
         try have s108:_=_:=AnyO.sv 108 5 hb hp Q
         try have s109:_=_:=AnyO.sv 109 6 hb hp Q
         try have s3:ac.tmps[3]?.getD undef=.pointer (some ⟨g,0,none⟩):=by rw[hb.out];kernel_rfl
         try have s107:_=_:=AnyO.sv 107 4 hb hp Q
         try have s114:_=_:=AnyO.sv 114 11 hb hp Q
         try have s115:_=_:=AnyO.sv 115 12 hb hp Q
         try have s103:_=_:=AnyO.sv 103 0 hb hp Q
         try have s118:_=_:=AnyO.sv 118 15 hb hp Q
         go_simp
         exact hK _ _ (AnyO.InvG.step (g:=σ) Q.out.1 rfl (DSt.read Q.out.2 (Below.refl _ _)))
       ·intro D vs u hI hD
        obtain⟨σ,hP,hW⟩:=hI
        have e0:_=_:=hP 0 (hD 0 (by decide))
        have e1:_=_:=hP 1 (hD 1 (by decide))
        have e2:_=_:=hP 2 (hD 2 (by decide))
        have e3:_=_:=hP 3 (hD 3 (by decide))
        have e4:_=_:=hP 4 (hD 4 (by decide))
        have e5:_=_:=hP 5 (hD 5 (by decide))
        have e6:_=_:=hP 6 (hD 6 (by decide))
        have e7:_=_:=hP 7 (hD 7 (by decide))
        have e8:_=_:=hP 8 (hD 8 (by decide))
        have e9:_=_:=hP 9 (hD 9 (by decide))
        have e10:_=_:=hP 10 (hD 10 (by decide))
        have e11:_=_:=hP 11 (hD 11 (by decide))
        have e12:_=_:=hP 12 (hD 12 (by decide))
        have e13:_=_:=hP 13 (hD 13 (by decide))
        have e14:_=_:=hP 14 (hD 14 (by decide))
        have e15:_=_:=hP 15 (hD 15 (by decide))
        have e16:_=_:=hP 16 (hD 16 (by decide))
        have hst:=hW
        rw[show D 17=true from hD 17 (by decide)] at hst
        have HST:=Lib.hid hst
        clear hst
        have HW:=Lib.hid hW
        clear hW hP hD
        rw[puts_range [some 103,some 104,some 105,some 106,some 107,some 108,some 109,some 110,some 111,some 112,some 113,some 114,some 115,some 116,some 117,some 118,some 119,none] (by kernel_rfl)]
        simp only[putL,Nat.reduceAdd,e0,e1,e2,e3,e4,e5,e6,e7,e8,e9,e10,e11,e12,e13,e14,e15,e16]
        clear e0 e1 e2 e3 e4 e5 e6 e7 e8 e9 e10 e11 e12 e13 e14 e15 e16
        go_simp
        go_wp2
        obtain⟨W6,rfl⟩:∃ W6,W6=u:=⟨_,rfl⟩
        obtain⟨s6,hs6⟩:∃ s6:Tk,{ s5 with act:=s5.act.set k p6 }=s6:=⟨_,rfl⟩
        rw[hs6] at HST
        have HS6:=Lib.hid hs6
        have HT6:=Lib.hid (And.intro HST.out.1 (And.intro (HT5.out.2.1.kp HST.out.2 H1.out.2.2.2.2.1) (And.intro (HT5.out.2.2.1.kp HST.out.2 H1.out.2.2.2.2.2.1) (HT5.out.2.2.2.trans HST.out.2))))
        clear HNK5
        have HNK5:=Lib.hid (show s6.kept.length≤1000000 by rw[← hs6];show s5.kept.length≤_;rw[HP5.out.2];exact HNK.out)
        clear hs6
        refine AnyO.wp_anyI (by kernel_rfl) (by kernel_rfl) (AnyO.InvG (σ:=SlV) (fun σ=>AnyO.pvL [some (.pointer (some ⟨b,0,none⟩)),some (.pointer (some ⟨b,0,none⟩)),some (.pointer (some ⟨b,0,none⟩)),some (.pointer (some ⟨b,3,none⟩)),some (.slice vk.1 vk.2.1 vk.2.2),some (.pointer (some ⟨g,2,none⟩)),some (vI c.id),some (.slice σ.1 σ.2.1 σ.2.2),some (.pointer (some ⟨b,0,none⟩)),some (.pointer (some ⟨b,3,none⟩)),none]) (fun σ D u=>WK b s6 F0 va vk (withoutL s6.kept c.id) W6 σ u (D 7) (D 10))) (AnyO.InvG.start (g:=(none,0,0)) (below_drew _)) ?_ ?_
        ·intro i hi
         have hi2:i=4∨i=7∨i=10∨i=0∨i=1∨i=2∨i=3∨i=5∨i=6∨i=8∨i=9:=by simp only[List.size_toArray,List.length_cons,List.length_nil] at hi;omega
         clear hi
         rcases hi2 with rfl|rfl|rfl|rfl|rfl|rfl|rfl|rfl|rfl|rfl|rfl
         ·refine AnyO.I rfl [3] ?_;rintro D vs u σ Q h0 hC hp ac hb K hK
          have s123:_=_:=AnyO.sv 123 3 hb hp Q
          have hf7:=AnyO.fls (hC.out 7) h0 (by kernel_rfl)
          have hst:=Q.out.2
          rw[show D 7=false from hf7] at hst
          have rr:=(HT6.out.1.keep hst).c3
          clear hst hf7
          go_simp
          exact hK _ _ (AnyO.InvG.step (g:=σ) Q.out.1 rfl (WK.read Q.out.2 (Below.refl _ _)))
         ·refine AnyO.I rfl [4,6] ?_;rintro D vs u σ Q h0 hC hp ac hb K hK
          have s124:_=_:=AnyO.sv 124 4 hb hp Q
          have s126:_=_:=AnyO.sv 126 6 hb hp Q
          have hf10:=AnyO.fls (hC.out 10) h0 (by kernel_rfl)
          go_simp
          have hst:=Q.out.2
          rw[show D 7=false from h0] at hst
          go_at_call 70
          refine (without42 0 _ s6.kept c.id u (HT6.out.1.keep hst).ok HNK5.out).mono ?_
          rintro e w2 ⟨v',rfl,ho',hg',hat'⟩
          obtain⟨A1,c1,rfl, -, -⟩:=Own.sl ho'
          refine hK _ _ (AnyO.InvG.ghost (g:=σ) (A1,_,c1) Q.out.1 ?_ rfl ?_)
          ·intro j hj hq
           rcases j with _|_|_|_|_|_|_|_|_|_|_|j
           all_goals first|exact hq|exact absurd (show D 7=true from hj) (by rw[h0];decide)
          rw[show AnyO.addD D 7 7=true from rfl,show AnyO.addD D 7 10=D 10 from rfl,hf10]
          exact WK.grow hst ho' hg' (Or.inl hat')
         ·refine AnyO.I rfl [9,7,7,0,1,2,3,4,5,6,7] ?_;rintro D vs u σ Q h0 hC hp ac hb K hK
          have s129:_=_:=AnyO.sv 129 9 hb hp Q
          have s127:_=_:=AnyO.sv 127 7 hb hp Q
          have hp7:D 7=true:=hp.out 7 (by decide)
          have hst:=Q.out.2
          rw[show D 7=true from hp7,show D 10=false from h0] at hst
          obtain⟨rf,rc,rp⟩:=WK.put hst HT6.out.1
          have RP:=Lib.hid rp
          clear hst rp
          go_simp
          exact hK undef _ (AnyO.InvG.step (g:=σ) Q.out.1 trivial (by rw[show AnyO.addD D 10 7=D 7 from rfl,hp7,show AnyO.addD D 10 10=true from rfl];exact RP.out))
         all_goals
          refine AnyO.J rfl ?_;rintro D vs u σ Q h0 hC hp ac hb K hK
          try have s0:ac.tmps[0]?.getD undef=.pointer (some ⟨b,0,none⟩):=by rw[hb.out];kernel_rfl
          try have s121:_=_:=AnyO.sv 121 1 hb hp Q
          try have s122:_=_:=AnyO.sv 122 2 hb hp Q
          try have s3:ac.tmps[3]?.getD undef=.pointer (some ⟨g,0,none⟩):=by rw[hb.out];kernel_rfl
          try have s125:_=_:=AnyO.sv 125 5 hb hp Q
          try have s120:_=_:=AnyO.sv 120 0 hb hp Q
          try have s128:_=_:=AnyO.sv 128 8 hb hp Q
          obtain⟨rr1,rr2⟩:=(Q.out.2.row HT6.out.1 HT6.out.2.1 H1.out.2.2.2.2.1).idC
          go_simp
          exact hK _ _ (AnyO.InvG.step (g:=σ) Q.out.1 rfl (WK.read Q.out.2 (Below.refl _ _)))
        ·intro D vs u hI hD
         obtain⟨σ,hP,hW⟩:=hI
         have e0:_=_:=hP 0 (hD 0 (by decide))
         have e1:_=_:=hP 1 (hD 1 (by decide))
         have e2:_=_:=hP 2 (hD 2 (by decide))
         have e3:_=_:=hP 3 (hD 3 (by decide))
         have e4:_=_:=hP 4 (hD 4 (by decide))
         have e5:_=_:=hP 5 (hD 5 (by decide))
         have e6:_=_:=hP 6 (hD 6 (by decide))
         have e7:_=_:=hP 7 (hD 7 (by decide))
         have e8:_=_:=hP 8 (hD 8 (by decide))
         have e9:_=_:=hP 9 (hD 9 (by decide))
         have hst:=hW
         rw[show D 7=true from hD 7 (by decide),show D 10=true from hD 10 (by decide)] at hst
         have HST:=Lib.hid hst
         clear hst
         have HW:=Lib.hid hW
         clear hW hP hD
         rw[puts_range [some 120,some 121,some 122,some 123,some 124,some 125,some 126,some 127,some 128,some 129,none] (by kernel_rfl)]
         simp only[putL,Nat.reduceAdd,e0,e1,e2,e3,e4,e5,e6,e7,e8,e9]
         clear e0 e1 e2 e3 e4 e5 e6 e7 e8 e9
         obtain⟨hT8,hK8⟩:=HST.out
         obtain⟨U8,rfl⟩:∃ U8,U8=u:=⟨_,rfl⟩
         obtain⟨v8,rfl⟩:∃ v8,v8=σ:=⟨_,rfl⟩
         obtain⟨F8,hF8⟩:∃ F8,blkL v8++F0=F8:=⟨_,rfl⟩
         rw[hF8] at hT8 hK8
         have ro:=(HT6.out.2.2.1.kp hK8 H1.out.2.2.2.2.2.1).rowOk (cC_length zC)
         have rc:=HT6.out.2.1.kp hK8 H1.out.2.2.2.2.1
         have r1:=(Row.okw rc (cC_length c)).1
         have r2:rdA U8 ⟨g,0,none⟩ 39=vC c:=(Row.okw rc (cC_length c)).2
         have HS8:=Lib.hid (And.intro hT8 (And.intro hK8 (hK8.out r0 HT6.out.2.2.1.lt H1.out.2.2.2.2.2.1).1))
         clear hT8 hK8 hF8 rc
         go_simp
         go_wp2
         have hfin:(⟨s.win,s.opn,s.act.set k { s.act[k] with state:=2,bytes:=s.kept[j].bytes },withoutL s.kept c.id⟩:Tk)={ s6 with kept:=withoutL s6.kept c.id }:=by
          rw[← HS6.out,← HS5.out.1,← HP6.out.1,← HS5.out.2]
          simp only[List.set_set]
         rw[hfin]
         exact bodyPost_ret (v:=.tuple #[vC c,.int .i64 0]) (results_c2 (ad:=⟨r0,0,none⟩) rfl rfl (ld_setRow c ro) rfl) rfl ⟨rfl,fin_row HS8.out.1 (HT6.out.2.2.2.trans HS8.out.2.1) HS8.out.2.2 HR.out c⟩
     ·rw[if_pos ⟨hf0,hg9⟩] at hz
      subst hz
      have qn:(c.from_ != n9)=true:=by simpa using hg9
      clear hn9
      go_wp2
      refine AnyO.wp_anyI (by kernel_rfl) (by kernel_rfl) (AnyO.InvG (σ:=Unit) (fun σ=>AnyO.pvL [some (.pointer (some ⟨g,0,none⟩)),some (.int .i64 3),some (.bool true),some (.bool true),some (.pointer (some ⟨g,35,none⟩)),some (.int .i64 c.from_),some (.bool true),some (.bool true),some (.bool true),some (.pointer (some ⟨g,35,none⟩)),some (.int .i64 c.from_),some (.pointer (some ⟨b,0,none⟩)),some (.pointer (some ⟨g,2,none⟩)),some (vI c.id),some (.int .i64 n9),some (.bool true),some (.bool true),some (.bool true)]) (fun _ _ u=>Below U.heap.size U u)) (AnyO.InvG.start (g:=()) (below_drew _)) ?_ ?_
      ·intro i hi
       have hi2:i=1∨i=4∨i=5∨i=6∨i=9∨i=10∨i=11∨i=12∨i=13∨i=14∨i=15∨i=0∨i=2∨i=3∨i=7∨i=8∨i=16∨i=17:=by simp only[List.size_toArray,List.length_cons,List.length_nil] at hi;omega
       clear hi
       rcases hi2 with rfl|rfl|rfl|rfl|rfl|rfl|rfl|rfl|rfl|rfl|rfl|rfl|rfl|rfl|rfl|rfl|rfl|rfl
       ·refine AnyO.I rfl [0] ?_;rintro D vs u σ Q h0 hC hp ac hb K hK
        have s49:_=_:=AnyO.sv 49 0 hb hp Q
        have rj:=(HT.out.2.1.keep Q.out.2).cell 0
        change u.cell? _=some (.int .i64 c.verb) at rj
        rw[HV.out] at rj
        go_simp;exact hK _ _ (AnyO.InvG.step (g:=σ) Q.out.1 rfl Q.out.2)
       ·refine AnyO.StepI.mk rfl [3] (by kernel_rfl) ?_;rintro D vs u ⟨σ,hP,hW⟩ h0 hC hp ac hb K hK
        have s3:ac.tmps[3]?.getD undef=.pointer (some ⟨g,0,none⟩):=by rw[hb];kernel_rfl
        have s52:=AnyO.slot 52 hb (by kernel_rfl) (hP 3 (hp 3 (by decide)))
        rw[if_pos (AnyO.wanted_some (g:=3) (t:=52) (want:=true) rfl rfl s52)]
        clear hb hp hC h0
        have HPW:=Lib.hid (And.intro hP hW);clear hP hW;go_simp;exact hK _ _ (AnyO.InvG.step (g:=σ) HPW.out.1 rfl HPW.out.2)
       ·refine AnyO.StepI.mk rfl [4,3] (by kernel_rfl) ?_;rintro D vs u ⟨σ,hP,hW⟩ h0 hC hp ac hb K hK
        have s53:=AnyO.slot 53 hb (by kernel_rfl) (hP 4 (hp 4 (by decide)))
        have s52:=AnyO.slot 52 hb (by kernel_rfl) (hP 3 (hp 3 (by decide)))
        rw[if_pos (AnyO.wanted_some (g:=3) (t:=52) (want:=true) rfl rfl s52)]
        clear hb hp
        have rj:=((HT.out.2.1.keep hW).cell 35).trans (cC_at (aC_35 c))
        clear hC h0;have HPW:=Lib.hid (And.intro hP hW);clear hP hW;go_simp;exact hK _ _ (AnyO.InvG.step (g:=σ) HPW.out.1 rfl HPW.out.2)
       ·refine AnyO.StepI.mk rfl [5,3] (by kernel_rfl) ?_;rintro D vs u ⟨σ,hP,hW⟩ h0 hC hp ac hb K hK
        have s54:=AnyO.slot 54 hb (by kernel_rfl) (hP 5 (hp 5 (by decide)))
        have s52:=AnyO.slot 52 hb (by kernel_rfl) (hP 3 (hp 3 (by decide)))
        rw[if_pos (AnyO.wanted_some (g:=3) (t:=52) (want:=true) rfl rfl s52)]
        clear hb hp hC h0
        have HPW:=Lib.hid (And.intro hP hW);clear hP hW;go_simp;exact hK _ _ (AnyO.InvG.step (g:=σ) HPW.out.1 rfl HPW.out.2)
       ·refine AnyO.StepI.mk rfl [8] (by kernel_rfl) ?_;rintro D vs u ⟨σ,hP,hW⟩ h0 hC hp ac hb K hK
        have s3:ac.tmps[3]?.getD undef=.pointer (some ⟨g,0,none⟩):=by rw[hb];kernel_rfl
        have s57:=AnyO.slot 57 hb (by kernel_rfl) (hP 8 (hp 8 (by decide)))
        rw[if_pos (AnyO.wanted_some (g:=8) (t:=57) (want:=true) rfl rfl s57)]
        clear hb hp hC h0
        have HPW:=Lib.hid (And.intro hP hW);clear hP hW;go_simp;exact hK _ _ (AnyO.InvG.step (g:=σ) HPW.out.1 rfl HPW.out.2)
       ·refine AnyO.StepI.mk rfl [9,8] (by kernel_rfl) ?_;rintro D vs u ⟨σ,hP,hW⟩ h0 hC hp ac hb K hK
        have s58:=AnyO.slot 58 hb (by kernel_rfl) (hP 9 (hp 9 (by decide)))
        have s57:=AnyO.slot 57 hb (by kernel_rfl) (hP 8 (hp 8 (by decide)))
        rw[if_pos (AnyO.wanted_some (g:=8) (t:=57) (want:=true) rfl rfl s57)]
        clear hb hp
        have rj:=((HT.out.2.1.keep hW).cell 35).trans (cC_at (aC_35 c))
        clear hC h0;have HPW:=Lib.hid (And.intro hP hW);clear hP hW;go_simp;exact hK _ _ (AnyO.InvG.step (g:=σ) HPW.out.1 rfl HPW.out.2)
       ·refine AnyO.StepI.mk rfl [8] (by kernel_rfl) ?_;rintro D vs u ⟨σ,hP,hW⟩ h0 hC hp ac hb K hK
        have s0:ac.tmps[0]?.getD undef=.pointer (some ⟨b,0,none⟩):=by rw[hb];kernel_rfl
        have s57:=AnyO.slot 57 hb (by kernel_rfl) (hP 8 (hp 8 (by decide)))
        rw[if_pos (AnyO.wanted_some (g:=8) (t:=57) (want:=true) rfl rfl s57)]
        clear hb hp hC h0
        have HPW:=Lib.hid (And.intro hP hW);clear hP hW;go_simp;exact hK _ _ (AnyO.InvG.step (g:=σ) HPW.out.1 rfl HPW.out.2)
       ·refine AnyO.StepI.mk rfl [8] (by kernel_rfl) ?_;rintro D vs u ⟨σ,hP,hW⟩ h0 hC hp ac hb K hK
        have s3:ac.tmps[3]?.getD undef=.pointer (some ⟨g,0,none⟩):=by rw[hb];kernel_rfl
        have s57:=AnyO.slot 57 hb (by kernel_rfl) (hP 8 (hp 8 (by decide)))
        rw[if_pos (AnyO.wanted_some (g:=8) (t:=57) (want:=true) rfl rfl s57)]
        clear hb hp hC h0
        have HPW:=Lib.hid (And.intro hP hW);clear hP hW;go_simp;exact hK _ _ (AnyO.InvG.step (g:=σ) HPW.out.1 rfl HPW.out.2)
       ·refine AnyO.StepI.mk rfl [12,8] (by kernel_rfl) ?_;rintro D vs u ⟨σ,hP,hW⟩ h0 hC hp ac hb K hK
        have s61:=AnyO.slot 61 hb (by kernel_rfl) (hP 12 (hp 12 (by decide)))
        have s57:=AnyO.slot 57 hb (by kernel_rfl) (hP 8 (hp 8 (by decide)))
        rw[if_pos (AnyO.wanted_some (g:=8) (t:=57) (want:=true) rfl rfl s57)]
        clear hb hp
        obtain⟨rr1,rr2⟩:=(HT.out.2.1.keep hW).idC
        clear hC h0;have HPW:=Lib.hid (And.intro hP hW);clear hP hW;go_simp;exact hK _ _ (AnyO.InvG.step (g:=σ) HPW.out.1 rfl HPW.out.2)
       ·refine AnyO.StepI.mk rfl [11,13,8,8] (by kernel_rfl) ?_;rintro D vs u ⟨σ,hP,hW⟩ h0 hC hp ac hb K hK
        have s60:=AnyO.slot 60 hb (by kernel_rfl) (hP 11 (hp 11 (by decide)))
        have s62:=AnyO.slot 62 hb (by kernel_rfl) (hP 13 (hp 13 (by decide)))
        have s57:=AnyO.slot 57 hb (by kernel_rfl) (hP 8 (hp 8 (by decide)))
        rw[if_pos (AnyO.wanted_some (g:=8) (t:=57) (want:=true) rfl rfl s57)]
        clear hb hp hC h0
        have HPW:=Lib.hid (And.intro hP hW);clear hP hW;go_simp;obtain⟨hP,hW⟩:=HPW.out
        go_at_call 69
        refine (keptBytes41 b s F0 va vk c.id u (HT.out.1.keep hW) HNK.out).mono ?_
        rintro e w2 ⟨rfl,hcb⟩
        rw[HN9.out]
        exact hK _ _ (AnyO.InvG.step (g:=σ) hP rfl (Below.step hW hcb))
       ·refine AnyO.StepI.mk rfl [10,14,8] (by kernel_rfl) ?_;rintro D vs u ⟨σ,hP,hW⟩ h0 hC hp ac hb K hK
        have s59:=AnyO.slot 59 hb (by kernel_rfl) (hP 10 (hp 10 (by decide)))
        have s63:=AnyO.slot 63 hb (by kernel_rfl) (hP 14 (hp 14 (by decide)))
        have s57:=AnyO.slot 57 hb (by kernel_rfl) (hP 8 (hp 8 (by decide)))
        rw[if_pos (AnyO.wanted_some (g:=8) (t:=57) (want:=true) rfl rfl s57)]
        clear hb hp hC h0
        have HPW:=Lib.hid (And.intro hP hW);clear hP hW;go_simp;exact hK _ _ (AnyO.InvG.step (g:=σ) HPW.out.1 rfl HPW.out.2)
       all_goals
        refine AnyO.J rfl ?_;rintro D vs u σ Q h0 hC hp ac hb K hK
        try have s3:ac.tmps[3]?.getD undef=.pointer (some ⟨g,0,none⟩):=by rw[hb.out];kernel_rfl
        try have s50:_=_:=AnyO.sv 50 1 hb hp Q
        try have s51:_=_:=AnyO.sv 51 2 hb hp Q
        try have s52:_=_:=AnyO.sv 52 3 hb hp Q
        try have s55:_=_:=AnyO.sv 55 6 hb hp Q
        try have s56:_=_:=AnyO.sv 56 7 hb hp Q
        try have s57:_=_:=AnyO.sv 57 8 hb hp Q
        try have s64:_=_:=AnyO.sv 64 15 hb hp Q
        try have s65:_=_:=AnyO.sv 65 16 hb hp Q
        go_simp
        exact hK _ _ (AnyO.InvG.step (g:=σ) Q.out.1 rfl Q.out.2)
      ·intro D vs u hI hD
       obtain⟨σ,hP,hW⟩:=hI
       have e0:_=_:=hP 0 (hD 0 (by decide))
       have e1:_=_:=hP 1 (hD 1 (by decide))
       have e2:_=_:=hP 2 (hD 2 (by decide))
       have e3:_=_:=hP 3 (hD 3 (by decide))
       have e4:_=_:=hP 4 (hD 4 (by decide))
       have e5:_=_:=hP 5 (hD 5 (by decide))
       have e6:_=_:=hP 6 (hD 6 (by decide))
       have e7:_=_:=hP 7 (hD 7 (by decide))
       have e8:_=_:=hP 8 (hD 8 (by decide))
       have e9:_=_:=hP 9 (hD 9 (by decide))
       have e10:_=_:=hP 10 (hD 10 (by decide))
       have e11:_=_:=hP 11 (hD 11 (by decide))
       have e12:_=_:=hP 12 (hD 12 (by decide))
       have e13:_=_:=hP 13 (hD 13 (by decide))
       have e14:_=_:=hP 14 (hD 14 (by decide))
       have e15:_=_:=hP 15 (hD 15 (by decide))
       have e16:_=_:=hP 16 (hD 16 (by decide))
       have e17:_=_:=hP 17 (hD 17 (by decide))
       have HW:=Lib.hid hW
       clear hW hP hD
       rw[puts_range [some 49,some 50,some 51,some 52,some 53,some 54,some 55,some 56,some 57,some 58,some 59,some 60,some 61,some 62,some 63,some 64,some 65,some 48] (by kernel_rfl)]
       simp only[putL,Nat.reduceAdd,e0,e1,e2,e3,e4,e5,e6,e7,e8,e9,e10,e11,e12,e13,e14,e15,e16,e17]
       clear e0 e1 e2 e3 e4 e5 e6 e7 e8 e9 e10 e11 e12 e13 e14 e15 e16 e17
       clear ro
       have ro:=(HT.out.2.2.1.keep HW.out).rowOk (cC_length zC)
       go_simp
       go_wp2
       exact bodyPost_ret (v:=.tuple #[vC zC,.int .i64 2]) (results_c2 (ad:=⟨r0,0,none⟩) rfl rfl (ld_setRow zC ro) rfl) rfl ⟨rfl,fin_row (HT.out.1.keep HW.out) (HT.out.2.2.2.trans (Kp.of_below HW.out)) H1.out.2.2.2.2.2.1 HR.out zC⟩
   ·rw[hpk,if_pos h1] at hz
    subst hz
    have q1:(s.act[k].state != 1)=true:=by simpa using h1
    clear h1 hpk
    go_wp2
    exact bodyPost_ret (v:=.tuple #[vC zC,.int .i64 10]) (results_c2 (ad:=⟨r0,0,none⟩) rfl rfl (ld_setRow zC ro) rfl) rfl ⟨rfl,fin_row HT.out.1 HT.out.2.2.2 H1.out.2.2.2.2.2.1 HR.out zC⟩
end Go.Proofs.YtdkjgcfhepplbaaGreatDoor
