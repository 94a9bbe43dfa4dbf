/- The reference's Hear: offers. -/
import Derived.Test.YtgojaelkdpabkaaGreatDoorMRf3
namespace Go.Proofs.YtgojaelkdpabkaaGreatDoor
open Go.RowKit
section
set_option maxRecDepth 100000
set_option maxHeartbeats 3200000
theorem refHear_new_none (F:List Nat) (s:Tk) (r:Rt) (c:Cm) (w:World) (h:RfAt F s r w) (hF:∀ k∈F,k<w.heap.size) (hn:c.name.size≤1000000) (ht:c.text.size≤1000000) (ha:s.act.length≤100) (hk8:s.kept.length≤100) (hndk:(s.kept.map Pt.id).Nodup) (hz:∀ p∈s.act,p.bytes.size≤1000000) (ho:s.opn=true) (hc:chk c=0) (hv:c.verb=2) (hp:posL s.act c.id=none) (hf:¬ s.win≤s.act.length) (hq:posL s.kept c.id=none) :
  Calls Tryz.prog 55 #[vT r,vC c] w (RhP F ⟨s.win,s.opn,s.act++[⟨c.id,c.size,1,⟨#[]⟩⟩],s.kept⟩ [(c.id,c.size,0)] [] 0 w):=by
 have HN:=Lib.hid (And.intro hn ht)
 have HND:=Lib.hid (And.intro hndk hz)
 have HCA:=Lib.hid (show s.act.length≤r.act.2.2 by rw[h.act.1];exact h.act.2.1)
 have HCK:=Lib.hid (show s.kept.length≤r.kept.2.2 by rw[h.kept.1];exact h.kept.2.1)
 obtain⟨g,W1,m,W2,r0,W3,G,hg,hW1,hm,hW2,hr0,hW3,hB⟩:=BxH.new h hF c
 obtain⟨-, -, -, -, -, -,c6,c7⟩:=hB.cmd
 obtain⟨l31,l32,ro3⟩:=hB.t.ld
 have o1:W3.cell? ⟨g,1,none⟩=some (.bool s.opn):=by rw[← hB.t.rf.opn];exact hB.t.rg.cell 1
 rw[ho] at o1
 have HB:=Lib.hid hB
 clear hB h hF hn ht hndk hz
 have HC:=Lib.hid hc
 have HV:=Lib.hid hv
 clear hc hv
 have z0:((0:Int)≤-1)=False:=by simp
 have HI:=Lib.hid (idx_none hp)
 have hnf:¬ s.win≤(s.act.length:Int):=hf
 obtain⟨nA,hnA⟩:∃ nA,s.act.length=nA:=⟨_,rfl⟩
 have HNA:=Lib.hid hnA
 have ha2:nA≤100:=by omega
 obtain⟨pN,hpN⟩:∃ pN:Pt,(⟨c.id,c.size,1,⟨#[]⟩⟩:Pt)=pN:=⟨_,rfl⟩
 have HPN:=Lib.hid hpN
 clear hp hf hnA hpN
 have HJ:=Lib.hid (idx_none hq)
 obtain⟨sX,hsX⟩:∃ sX,s=sX:=⟨_,rfl⟩
 obtain⟨rX,hrX⟩:∃ rX,r=rX:=⟨_,rfl⟩
 have HPOST:=Lib.hid (show ∀ sN,({ sX with act:=s.act++[pN] }:Tk)=sN→RhP F ⟨s.win,s.opn,s.act++[⟨c.id,c.size,1,⟨#[]⟩⟩],s.kept⟩ [(c.id,c.size,0)] [] 0 w=RhP F sN [(c.id,c.size,0)] [] 0 w from fun sN e=>by rw[← e,HPN.out,← hsX])
 have HX:=Lib.hid (And.intro hsX hrX)
 clear hq hsX hrX
 go_enter Tryz.func55,Tryz.ntmps55
 go_upto_region 19 with (first
  | (go_at_call 49;refine (refFind49 r.kept.1 r.kept.2.2 s.kept c.id w5 H5.out.t.rf.kept.2.2.1 (by omega)).mono ?_;rw[HJ.out];rintro e w6 ⟨rfl,hb6⟩;have hB6:=H5.out.keep hb6;have h6:=hB6;rw[HX.out.1,HX.out.2] at h6;have H6:=Lib.hid h6;clear hB6 h6;clear hb6)
  | (go_at_call 49;refine (refFind49 r.act.1 r.act.2.2 s.act c.id w4 H4.out.t.rf.act.2.2.1 (by omega)).mono ?_;rw[HI.out];rintro e w5 ⟨rfl,hb5⟩;have hB5:=H4.out.keep hb5;have ja5:=hB5.t.ca;obtain⟨l51,l52,ro5⟩:=hB5.t.ld;obtain⟨e0,e1,e2,e3,e4,e5, -, -⟩:=hB5.cmd;have o5:w5.cell? ⟨g,0,none⟩=some (.int .i64 s.win):=(by rw[← hB5.t.rf.win];exact hB5.t.rg.cell 0);rw[HV.out] at e0;have jk5:=hB5.t.ck;have H5:=Lib.hid hB5;clear hb5 hB5)
  | (go_at_call 72;refine (refCheck22 c W3 HN.out.1 HN.out.2).mono ?_;rintro e w4 ⟨rfl,hb4⟩;rw[HC.out];have hB4:=HB.out.keep hb4;obtain⟨l41,l42,ro4⟩:=hB4.t.ld;obtain⟨-,d1,d2, -, -, -, -, -⟩:=hB4.cmd;have ja4:=hB4.t.ca;have H4:=Lib.hid hB4;clear hb4 hB4))
 have HAX:=Lib.hid (show sX.act=s.act∧rX.act=r.act from ⟨by rw[← HX.out.1],by rw[← HX.out.2]⟩)
 refine AnyO.wp_any_tail 10 (by kernel_rfl) (by kernel_rfl) (by kernel_rfl) (by kernel_rfl) (by kernel_rfl) (by kernel_rfl) (pstP [isOwn0G (α:=Pt) w6.heap.size 98 35 cA,isV (.pointer (some ⟨g,2,none⟩)),isV (.slice r.act.1 nA r.act.2.2),isOwnG w6.heap.size 98 35 cA s.act,isV (.pointer (some ⟨m,2,none⟩)),isV (vI c.id),isV (.pointer (some ⟨m,34,none⟩)),isV (.int .i64 c.size),isV (vA pN),isOne cA pN]) (MonoL.cons (Mono.own0G _ _ _ _) (MonoL.cons (Mono.v _) (MonoL.cons (Mono.v _) (MonoL.cons (Mono.ownG _ _ _ _ _) (MonoL.cons (Mono.v _) (MonoL.cons (Mono.v _) (MonoL.cons (Mono.v _) (MonoL.cons (Mono.v _) (MonoL.cons (Mono.v _) (MonoL.cons (Mono.one _ _) MonoL.nil)))))))))) ?_ ?_
 ·intro i hi
  have hi2:i=3∨i=8∨i=0∨i=1∨i=2∨i=4∨i=5∨i=6∨i=7∨i=9:=by omega
  clear hi
  rcases hi2 with rfl|rfl|rfl|rfl|rfl|rfl|rfl|rfl|rfl|rfl
  ·refine AnyO.S rfl [0,2] ?_;intro vs u hE hp ac hb K hK
   obtain⟨g71,e71,h71⟩:=hp.out 0 (by decide)
   have s71:ac.tmps[71]?.getD undef=.slice (some ⟨g71,0,none⟩) 0 0:=by rw[hb.out];exact (show _=vs 0 by kernel_rfl).trans e71
   clear e71
   have s73:_=_:=AnyO.sw 73 2 hb hp
   refine wp_append_fresh u (.tmp 71) (.tmp 73) 58 rfl w6.heap.size 98 35 64 cA underRAs rowRA (by decide) cA_length g71 (ev_tmp s71) h71 r.act.1 nA r.act.2.2 s.act HNA.out (ev_tmp s73) (by have hq:=(H6.out.keep (Below.step (below_drew _) hE)).t.rf.act.2.2.1;rw[HAX.out.1,HAX.out.2] at hq;exact hq) (by omega) (by omega) ((Below.step (below_drew _) hE)).size ?_
   exact fun v w2 h1 h2=>hK _ _ h2 h1
  ·refine AnyO.S rfl [5,7] ?_;intro vs u hE hp ac hb K hK
   have s76:_=_:=AnyO.sw 76 5 hb hp
   have s78:_=_:=AnyO.sw 78 7 hb hp
   go_simp
   rw[HPN.out]
   exact hK _ _ (Below.refl _ _) rfl
  all_goals
   refine AnyO.T rfl ?_;intro vs u hE hp ac hb K hK
   try have s2:ac.tmps[2]?.getD undef=.pointer (some ⟨g,0,none⟩):=by rw[hb.out];kernel_rfl
   try have s72:_=_:=AnyO.sw 72 1 hb hp
   try have s3:ac.tmps[3]?.getD undef=.pointer (some ⟨m,0,none⟩):=by rw[hb.out];kernel_rfl
   try have s75:_=_:=AnyO.sw 75 4 hb hp
   try have s77:_=_:=AnyO.sw 77 6 hb hp
   try have s79:_=_:=AnyO.sw 79 8 hb hp
   have rr_0:=(H6.out.keep (Below.step (below_drew _) hE)).t.ca
   rw[HAX.out.1,HAX.out.2,HNA.out] at rr_0
   obtain⟨-,rr1_1,rr2_1, -, -, -, -, -⟩:=(H6.out.keep (Below.step (below_drew _) hE)).cmd
   obtain⟨-, -, -, -,rr_2, -, -, -⟩:=(H6.out.keep (Below.step (below_drew _) hE)).cmd
   go_simp
   first|exact hK _ _ (below_alloc _ _) ⟨_,rfl,Own.new0 u w6.heap.size 98 35 cA cA_length ((Below.step (below_drew _) hE)).size⟩|exact hK _ _ (Below.refl _ _) rfl|exact hK _ _ (below_alloc _ _) (isOne.P u _ _)
 ·intro vs u hE hp
  obtain⟨g_0,e0,h_0⟩:=show isOwn0G (α:=Pt) w6.heap.size 98 35 cA (vs 0) u from hp 0 (by decide)
  have e1:_=_:=hp 1 (by decide)
  have e2:_=_:=hp 2 (by decide)
  have f3:isOwnG w6.heap.size 98 35 cA s.act (vs 3) u:=hp 3 (by decide)
  have e4:_=_:=hp 4 (by decide)
  have e5:_=_:=hp 5 (by decide)
  have e6:_=_:=hp 6 (by decide)
  have e7:_=_:=hp 7 (by decide)
  have e8:_=_:=hp 8 (by decide)
  obtain⟨g_9,e9,h_9⟩:=show isOne cA pN (vs 9) u from hp 9 (by decide)
  clear hp
  have HF:=Lib.hid (And.intro f3 (And.intro h_9 hE))
  clear f3 h_9 hE
  rw[puts_range [some 71,some 72,some 73,some 74,some 75,some 76,some 77,some 78,some 79,some 80] (by kernel_rfl)]
  simp only[putL,Nat.reduceAdd,List.drop_succ_cons,List.drop_zero,e0,e1,e2,e4,e5,e6,e7,e8,e9]
  clear e0 e1 e2 e4 e5 e6 e7 e8 e9
  go_simp
  go_wp2_with (at_builtin;refine wpList_append_sl u rfl (.tmp 74) (.tmp 80) 58 rfl w6.heap.size 98 35 64 cA underRAs rowRA (by decide) cA_length cA_one (vs 3) s.act rfl HF.out.1 (some ⟨g_9,0,none⟩) 1 1 [pN] rfl rfl HF.out.2.1 (by rw[HNA.out];omega) (by rw[HNA.out];omega) (HF.out.2.2).size ?_)
  intro v2 w8 ho8 hg8
  have hb8:=Own.grew HF.out.1 hg8 HF.out.2.2 (Nat.le_refl _) (HF.out.2.2).size
  obtain⟨A2,c2,rfl, -, -⟩:=Own.sl ho8
  obtain⟨n9,hn9⟩:∃ n9,(s.act++[pN]).length=n9:=⟨_,rfl⟩
  rw[hn9] at ho8 ⊢
  have j9:=(H6.out.keep hb8).t.ca
  rw[HAX.out.1,HAX.out.2,HNA.out] at j9
  obtain⟨f9,hB9⟩:=H6.out.setA (SlF.ofOwn ho8 H6.out.t.lt) hb8
  obtain⟨W9,hW9⟩:∃ W9,w8.setCell ⟨g,2,none⟩ (.slice A2 n9 c2)=W9:=⟨_,rfl⟩
  rw[hW9] at hB9
  have H9:=Lib.hid hB9
  clear ho8 hg8 hb8 hB9 hn9
  go_wp2
  obtain⟨rN,hrN⟩:∃ rN:Rt,(⟨rX.win,rX.opn,(A2,n9,c2),rX.kept⟩:Rt)=rN:=⟨_,rfl⟩
  have h9:=H9.out
  rw[hrN] at h9
  obtain⟨sN,hsN⟩:∃ sN:Tk,({ sX with act:=s.act++[pN] }:Tk)=sN:=⟨_,rfl⟩
  rw[hsN] at h9
  have HSN:=Lib.hid hsN
  have HMR:=Lib.hid (show m≠r0 from fun e=>h9.mG (e▸h9.t.rG))
  have HFL:=Lib.hid (show ∀ k∈F,k<W9.heap.size from fun k hk=>h9.t.lt k (h9.t.FG k hk))
  clear H9
  have H9:=Lib.hid h9
  clear h9 hrN hsN hW9 j9 f9
  refine AnyO.wp_anyI (by kernel_rfl) (by kernel_rfl) (AnyO.InvG (σ:=Nat) (fun σ=>AnyO.pvL [some (vT rN),some (.pointer (some ⟨m,2,none⟩)),some (vI c.id),some (.pointer (some ⟨m,34,none⟩)),some (.int .i64 c.size),some (.int .i64 0),some (vQn (c.id,c.size,0)),some (.slice (some ⟨σ,0,none⟩) 1 1),none,some (.slice (some ⟨σ,0,none⟩) 1 1),some (Value.slice none 0 0),some (Value.int IntKind.i64 0)]) (fun σ D u=>RQ cQn F G sN rN w W9 r0 (c.id,c.size,0) σ true (D 7) (D 8) u)) (AnyO.InvG.start (g:=0) (RQ.startC (below_drew _) H9.out.t.rf)) ?_ ?_
  ·intro i hi
   have hi2:i=0∨i=2∨i=7∨i=8∨i=1∨i=3∨i=4∨i=5∨i=6∨i=9∨i=10∨i=11:=by simp only[List.size_toArray,List.length_cons,List.length_nil] at hi;omega
   clear hi
   rcases hi2 with rfl|rfl|rfl|rfl|rfl|rfl|rfl|rfl|rfl|rfl|rfl|rfl
   ·refine AnyO.I rfl [] ?_;rintro D vs u σ Q h0 hC hp ac hb K hK
    have s2:=AnyO.sz (v:=.pointer (some ⟨g,0,none⟩)) 2 hb
    have hf8:=AnyO.fls (hC.out 8) h0 (show AnyO.pre _ 8=[0,0] from by kernel_rfl) (by decide)
    have hst:=Q.out.2.lo hf8
    have lk:=(H9.out.keep hst).t.ld
    have rr1:=lk.1
    have rr2:=lk.2.1
    clear hst hf8 lk
    go_simp;exact hK _ _ (AnyO.InvG.step (g:=σ) Q.out.1 rfl Q.out.2)
   ·refine AnyO.I rfl [1] ?_;rintro D vs u σ Q h0 hC hp ac hb K hK
    have s84:_=_:=AnyO.sv 84 1 hb hp Q
    have lk:=Q.out.2.row H9.out.rm HMR.out
    have rr1:=lk.idC.1
    have rr2:=lk.idC.2
    clear lk
    go_simp;exact hK _ _ (AnyO.InvG.step (g:=σ) Q.out.1 rfl Q.out.2)
   ·refine AnyO.I rfl [6] ?_;rintro D vs u σ Q h0 hC hp ac hb K hK
    have s89:_=_:=AnyO.sv 89 6 hb hp Q
    have hf9:=AnyO.fls (hC.out 9) h0 (show AnyO.pre _ 9=[7,8,0,1,2,3,4,5,6,7,8] from by kernel_rfl) (by decide)
    go_simp
    refine hK _ _ (AnyO.InvG.ghost (g:=σ) u.heap.size Q.out.1 ?_ rfl ?_)
    ·intro j hj hq
     rcases j with _|_|_|_|_|_|_|_|_|_|_|_|j
     all_goals first|exact hq|exact absurd (show D 7=true from hj) (by rw[h0];decide)|exact absurd (show D 9=true from hj) (by rw[hf9];decide)
    exact Q.out.2.newq _
   ·refine AnyO.I rfl [0,0] ?_;rintro D vs u σ Q h0 hC hp ac hb K hK
    have s4:=AnyO.sz (v:=.pointer (some ⟨r0,0,none⟩)) 4 hb
    have s83:_=_:=AnyO.sv 83 0 hb hp Q
    have hst:=Q.out.2
    rw[show D 8=false from h0] at hst
    have SS:=hst.stored H9.out
    have ro:=SS.1
    have RP:=Lib.hid SS.2
    clear hst SS
    go_simp
    exact hK undef _ (AnyO.InvG.step (g:=σ) Q.out.1 trivial (by rw[show AnyO.addD D 8 7=D 7 from rfl,show AnyO.addD D 8 8=true from rfl];exact RP.out))
   all_goals
    refine AnyO.J rfl ?_;rintro D vs u σ Q h0 hC hp ac hb K hK
    try have s3:ac.tmps[3]?.getD undef=.pointer (some ⟨m,0,none⟩):=by rw[hb.out];kernel_rfl
    try have s86:_=_:=AnyO.sv 86 3 hb hp Q
    try have s11:ac.tmps[11]?.getD undef=.int .i64 0:=by rw[hb.out];kernel_rfl
    try have s85:_=_:=AnyO.sv 85 2 hb hp Q
    try have s87:_=_:=AnyO.sv 87 4 hb hp Q
    try have s88:_=_:=AnyO.sv 88 5 hb hp Q
    try have s90:_=_:=AnyO.sv 90 7 hb hp Q
    have rr:=((Q.out.2.row H9.out.rm HMR.out).cell 34).trans (cC_at (aC_34 c))
    go_simp
    exact hK _ _ (AnyO.InvG.step (g:=σ) Q.out.1 rfl Q.out.2)
  ·intro D vs u hI hD
   obtain⟨σ,hP,hW⟩:=hI
   have e0:_=_:=hP 0 (hD 0 (by decide))
   have e1:_=_:=hP 1 (hD 1 (by decide))
   have e2:_=_:=hP 2 (hD 2 (by decide))
   have e3:_=_:=hP 3 (hD 3 (by decide))
   have e4:_=_:=hP 4 (hD 4 (by decide))
   have e5:_=_:=hP 5 (hD 5 (by decide))
   have e6:_=_:=hP 6 (hD 6 (by decide))
   have e7:_=_:=hP 7 (hD 7 (by decide))
   have e9:_=_:=hP 9 (hD 9 (by decide))
   have e10:_=_:=hP 10 (hD 10 (by decide))
   have e11:_=_:=hP 11 (hD 11 (by decide))
   have hst:=hW
   rw[show D 7=true from hD 7 (by decide),show D 8=true from hD 8 (by decide)] at hst
   have HST:=Lib.hid hst
   have hld:=load_T (hst.hi rfl).2.2
   clear hst
   have HW:=Lib.hid hW
   clear hW hP hD
   rw[puts_range [some 83,some 84,some 85,some 86,some 87,some 88,some 89,some 90,none,some 5,some 6,some 7] (by kernel_rfl)]
   simp only[putL,Nat.reduceAdd,e0,e1,e2,e3,e4,e5,e6,e7,e9,e10,e11]
   clear e0 e1 e2 e3 e4 e5 e6 e7 e9 e10 e11
   have HL:=Lib.hid hld
   clear hld
   go_simp
   go_wp2
   exact bodyPost_ret (v:=.tuple #[vT rN,.slice (some ⟨σ,0,none⟩) 1 1,.slice none 0 0,.int .i64 0]) (results_c4 (ad:=⟨r0,0,none⟩) rfl rfl HL.out rfl rfl rfl) rfl (by rw[HPOST.out sN HSN.out];exact⟨rN,(some ⟨σ,0,none⟩,1,1),(none,0,0),rfl,(HST.out.hi rfl).1,HST.out.slF HFL.out,SlF.nil _ _ _,(HST.out.hi rfl).2.1⟩)
theorem refHear_new_same (F:List Nat) (s:Tk) (r:Rt) (c:Cm) (w:World) (h:RfAt F s r w) (hF:∀ k∈F,k<w.heap.size) (hn:c.name.size≤1000000) (ht:c.text.size≤1000000) (ha:s.act.length≤100) (hk8:s.kept.length≤100) (hndk:(s.kept.map Pt.id).Nodup) (hz:∀ p∈s.act,p.bytes.size≤1000000) (ho:s.opn=true) (hc:chk c=0) (hv:c.verb=2) (hp:posL s.act c.id=none) (hf:¬ s.win≤s.act.length) (J:Nat) (hq:posL s.kept c.id=some J) (hzs:(ptK s.kept J).size=c.size) :
  Calls Tryz.prog 55 #[vT r,vC c] w (RhP F ⟨s.win,s.opn,s.act++[⟨c.id,c.size,1,⟨#[]⟩⟩],s.kept⟩ [(c.id,c.size,((ptK s.kept J).bytes.size:Int))] [] 0 w):=by
 have HN:=Lib.hid (And.intro hn ht)
 have HND:=Lib.hid (And.intro hndk hz)
 have HCA:=Lib.hid (show s.act.length≤r.act.2.2 by rw[h.act.1];exact h.act.2.1)
 have HCK:=Lib.hid (show s.kept.length≤r.kept.2.2 by rw[h.kept.1];exact h.kept.2.1)
 obtain⟨g,W1,m,W2,r0,W3,G,hg,hW1,hm,hW2,hr0,hW3,hB⟩:=BxH.new h hF c
 obtain⟨-, -, -, -, -, -,c6,c7⟩:=hB.cmd
 obtain⟨l31,l32,ro3⟩:=hB.t.ld
 have o1:W3.cell? ⟨g,1,none⟩=some (.bool s.opn):=by rw[← hB.t.rf.opn];exact hB.t.rg.cell 1
 rw[ho] at o1
 have HB:=Lib.hid hB
 clear hB h hF hn ht hndk hz
 have HC:=Lib.hid hc
 have HV:=Lib.hid hv
 clear hc hv
 have z0:((0:Int)≤-1)=False:=by simp
 have HI:=Lib.hid (idx_none hp)
 have hnf:¬ s.win≤(s.act.length:Int):=hf
 obtain⟨nA,hnA⟩:∃ nA,s.act.length=nA:=⟨_,rfl⟩
 have HNA:=Lib.hid hnA
 have ha2:nA≤100:=by omega
 obtain⟨pN,hpN⟩:∃ pN:Pt,(⟨c.id,c.size,1,⟨#[]⟩⟩:Pt)=pN:=⟨_,rfl⟩
 have HPN:=Lib.hid hpN
 clear hp hf hnA hpN
 obtain⟨hJ, -, -⟩:=pos_some hq
 have HWK:=Lib.hid (withoutI_eq (x:=c.id) HND.out.1)
 have HJB:=Lib.hid (idx_lt s.kept c.id)
 rw[idx_some hq] at HWK HJB
 have HJ:=Lib.hid (idx_some hq)
 have hJ1:(J:Int)<(s.kept.length:Int):=by omega
 have hJ0:(0:Int)≤(J:Int):=Int.natCast_nonneg J
 have hpJk:ptK s.kept J=s.kept[J]:=ptK_eq hJ
 obtain⟨bd,hbd, -⟩:=Sl.pt (HB.out.t.rf.kept.2.2.1) hJ
 have HBD:=Lib.hid hbd
 obtain⟨pk,hpk2⟩:∃ pk,s.kept[J]=pk:=⟨_,rfl⟩
 have HPK:=Lib.hid hpk2
 rw[hpJk,hpk2] at hzs
 obtain⟨sX,hsX⟩:∃ sX,s=sX:=⟨_,rfl⟩
 obtain⟨rX,hrX⟩:∃ rX,r=rX:=⟨_,rfl⟩
 rw[hpJk,hpk2]
 have HPOST:=Lib.hid (show ∀ sN,({ sX with act:=s.act++[pN] }:Tk)=sN→RhP F ⟨s.win,s.opn,s.act++[⟨c.id,c.size,1,⟨#[]⟩⟩],s.kept⟩ [(c.id,c.size,((pk.bytes.size:Nat):Int))] [] 0 w=RhP F sN [(c.id,c.size,((pk.bytes.size:Nat):Int))] [] 0 w from fun sN e=>by rw[← e,HPN.out,← hsX])
 have HX:=Lib.hid (And.intro hsX hrX)
 have HZS:=Lib.hid hzs
 clear hq hsX hrX hpJk hpk2 hbd hzs
 go_enter Tryz.func55,Tryz.ntmps55
 go_upto_region 16 with (first
  | (go_at_call 49;refine (refFind49 r.kept.1 r.kept.2.2 s.kept c.id w5 H5.out.t.rf.kept.2.2.1 (by omega)).mono ?_;rw[HJ.out];rintro e w6 ⟨rfl,hb6⟩;have hB6:=H5.out.keep hb6;obtain⟨f0,f1,f2,f3,f4,f5, -, -⟩:=hB6.cmd;obtain⟨bd2,hbd2, -, -,hatk⟩:=Sl.pt (hB6.t.rf.kept.2.2.1) hJ;obtain rfl:bd=bd2:=Option.some.inj (HBD.out.symm.trans hbd2);rw[HPK.out] at hatk;have b32:=hatk.f32;have b34:=hatk.f34;have jk6:=hB6.t.ck;rw[HBD.out] at jk6;clear hbd2 hatk;rw[HZS.out] at b32;have H6:=Lib.hid hB6;clear hB6;clear hb6)
  | (go_at_call 49;refine (refFind49 r.act.1 r.act.2.2 s.act c.id w4 H4.out.t.rf.act.2.2.1 (by omega)).mono ?_;rw[HI.out];rintro e w5 ⟨rfl,hb5⟩;have hB5:=H4.out.keep hb5;have ja5:=hB5.t.ca;obtain⟨l51,l52,ro5⟩:=hB5.t.ld;obtain⟨e0,e1,e2,e3,e4,e5, -, -⟩:=hB5.cmd;have o5:w5.cell? ⟨g,0,none⟩=some (.int .i64 s.win):=(by rw[← hB5.t.rf.win];exact hB5.t.rg.cell 0);rw[HV.out] at e0;have jk5:=hB5.t.ck;have H5:=Lib.hid hB5;clear hb5 hB5)
  | (go_at_call 72;refine (refCheck22 c W3 HN.out.1 HN.out.2).mono ?_;rintro e w4 ⟨rfl,hb4⟩;rw[HC.out];have hB4:=HB.out.keep hb4;obtain⟨l41,l42,ro4⟩:=hB4.t.ld;obtain⟨-,d1,d2, -, -, -, -, -⟩:=hB4.cmd;have ja4:=hB4.t.ca;have H4:=Lib.hid hB4;clear hb4 hB4))
 go_quiet (fail)
 generalize hU17:World.drewN _ _=U17
 have hb17:Below w6.heap.size w6 U17:=by rw[← hU17];exact below_drewN _ _
 have hBV:=H6.out.keep hb17
 obtain⟨bd2,hbd2, -, -,hatk⟩:=Sl.pt (hBV.t.rf.kept.2.2.1) hJ;obtain rfl:bd=bd2:=Option.some.inj (HBD.out.symm.trans hbd2);rw[HPK.out] at hatk;have c32:=hatk.f32;have c34:=hatk.f34;have jkV:=hBV.t.ck;rw[HBD.out] at jkV;clear hbd2 hatk
 have h6:=hBV
 rw[HX.out.1,HX.out.2] at h6
 have H17:=Lib.hid h6
 clear hU17 hb17 hBV h6 b32 b34 jk6
 go_upto_region 19 with (fail)
 have HAX:=Lib.hid (show sX.act=s.act∧rX.act=r.act from ⟨by rw[← HX.out.1],by rw[← HX.out.2]⟩)
 refine AnyO.wp_any_tail 10 (by kernel_rfl) (by kernel_rfl) (by kernel_rfl) (by kernel_rfl) (by kernel_rfl) (by kernel_rfl) (pstP [isOwn0G (α:=Pt) U17.heap.size 98 35 cA,isV (.pointer (some ⟨g,2,none⟩)),isV (.slice r.act.1 nA r.act.2.2),isOwnG U17.heap.size 98 35 cA s.act,isV (.pointer (some ⟨m,2,none⟩)),isV (vI c.id),isV (.pointer (some ⟨m,34,none⟩)),isV (.int .i64 c.size),isV (vA pN),isOne cA pN]) (MonoL.cons (Mono.own0G _ _ _ _) (MonoL.cons (Mono.v _) (MonoL.cons (Mono.v _) (MonoL.cons (Mono.ownG _ _ _ _ _) (MonoL.cons (Mono.v _) (MonoL.cons (Mono.v _) (MonoL.cons (Mono.v _) (MonoL.cons (Mono.v _) (MonoL.cons (Mono.v _) (MonoL.cons (Mono.one _ _) MonoL.nil)))))))))) ?_ ?_
 ·intro i hi
  have hi2:i=3∨i=8∨i=0∨i=1∨i=2∨i=4∨i=5∨i=6∨i=7∨i=9:=by omega
  clear hi
  rcases hi2 with rfl|rfl|rfl|rfl|rfl|rfl|rfl|rfl|rfl|rfl
  ·refine AnyO.S rfl [0,2] ?_;intro vs u hE hp ac hb K hK
   obtain⟨g71,e71,h71⟩:=hp.out 0 (by decide)
   have s71:ac.tmps[71]?.getD undef=.slice (some ⟨g71,0,none⟩) 0 0:=by rw[hb.out];exact (show _=vs 0 by kernel_rfl).trans e71
   clear e71
   have s73:_=_:=AnyO.sw 73 2 hb hp
   refine wp_append_fresh u (.tmp 71) (.tmp 73) 58 rfl U17.heap.size 98 35 64 cA underRAs rowRA (by decide) cA_length g71 (ev_tmp s71) h71 r.act.1 nA r.act.2.2 s.act HNA.out (ev_tmp s73) (by have hq:=(H17.out.keep (Below.step (below_drew _) hE)).t.rf.act.2.2.1;rw[HAX.out.1,HAX.out.2] at hq;exact hq) (by omega) (by omega) ((Below.step (below_drew _) hE)).size ?_
   exact fun v w2 h1 h2=>hK _ _ h2 h1
  ·refine AnyO.S rfl [5,7] ?_;intro vs u hE hp ac hb K hK
   have s76:_=_:=AnyO.sw 76 5 hb hp
   have s78:_=_:=AnyO.sw 78 7 hb hp
   go_simp
   rw[HPN.out]
   exact hK _ _ (Below.refl _ _) rfl
  all_goals
   refine AnyO.T rfl ?_;intro vs u hE hp ac hb K hK
   try have s2:ac.tmps[2]?.getD undef=.pointer (some ⟨g,0,none⟩):=by rw[hb.out];kernel_rfl
   try have s72:_=_:=AnyO.sw 72 1 hb hp
   try have s3:ac.tmps[3]?.getD undef=.pointer (some ⟨m,0,none⟩):=by rw[hb.out];kernel_rfl
   try have s75:_=_:=AnyO.sw 75 4 hb hp
   try have s77:_=_:=AnyO.sw 77 6 hb hp
   try have s79:_=_:=AnyO.sw 79 8 hb hp
   have rr_0:=(H17.out.keep (Below.step (below_drew _) hE)).t.ca
   rw[HAX.out.1,HAX.out.2,HNA.out] at rr_0
   obtain⟨-,rr1_1,rr2_1, -, -, -, -, -⟩:=(H17.out.keep (Below.step (below_drew _) hE)).cmd
   obtain⟨-, -, -, -,rr_2, -, -, -⟩:=(H17.out.keep (Below.step (below_drew _) hE)).cmd
   go_simp
   first|exact hK _ _ (below_alloc _ _) ⟨_,rfl,Own.new0 u U17.heap.size 98 35 cA cA_length ((Below.step (below_drew _) hE)).size⟩|exact hK _ _ (Below.refl _ _) rfl|exact hK _ _ (below_alloc _ _) (isOne.P u _ _)
 ·intro vs u hE hp
  obtain⟨g_0,e0,h_0⟩:=show isOwn0G (α:=Pt) U17.heap.size 98 35 cA (vs 0) u from hp 0 (by decide)
  have e1:_=_:=hp 1 (by decide)
  have e2:_=_:=hp 2 (by decide)
  have f3:isOwnG U17.heap.size 98 35 cA s.act (vs 3) u:=hp 3 (by decide)
  have e4:_=_:=hp 4 (by decide)
  have e5:_=_:=hp 5 (by decide)
  have e6:_=_:=hp 6 (by decide)
  have e7:_=_:=hp 7 (by decide)
  have e8:_=_:=hp 8 (by decide)
  obtain⟨g_9,e9,h_9⟩:=show isOne cA pN (vs 9) u from hp 9 (by decide)
  clear hp
  have HF:=Lib.hid (And.intro f3 (And.intro h_9 hE))
  clear f3 h_9 hE
  rw[puts_range [some 71,some 72,some 73,some 74,some 75,some 76,some 77,some 78,some 79,some 80] (by kernel_rfl)]
  simp only[putL,Nat.reduceAdd,List.drop_succ_cons,List.drop_zero,e0,e1,e2,e4,e5,e6,e7,e8,e9]
  clear e0 e1 e2 e4 e5 e6 e7 e8 e9
  go_simp
  go_wp2_with (at_builtin;refine wpList_append_sl u rfl (.tmp 74) (.tmp 80) 58 rfl U17.heap.size 98 35 64 cA underRAs rowRA (by decide) cA_length cA_one (vs 3) s.act rfl HF.out.1 (some ⟨g_9,0,none⟩) 1 1 [pN] rfl rfl HF.out.2.1 (by rw[HNA.out];omega) (by rw[HNA.out];omega) (HF.out.2.2).size ?_)
  intro v2 w8 ho8 hg8
  have hb8:=Own.grew HF.out.1 hg8 HF.out.2.2 (Nat.le_refl _) (HF.out.2.2).size
  obtain⟨A2,c2,rfl, -, -⟩:=Own.sl ho8
  obtain⟨n9,hn9⟩:∃ n9,(s.act++[pN]).length=n9:=⟨_,rfl⟩
  rw[hn9] at ho8 ⊢
  have j9:=(H17.out.keep hb8).t.ca
  rw[HAX.out.1,HAX.out.2,HNA.out] at j9
  obtain⟨f9,hB9⟩:=H17.out.setA (SlF.ofOwn ho8 H17.out.t.lt) hb8
  obtain⟨W9,hW9⟩:∃ W9,w8.setCell ⟨g,2,none⟩ (.slice A2 n9 c2)=W9:=⟨_,rfl⟩
  rw[hW9] at hB9
  have H9:=Lib.hid hB9
  clear ho8 hg8 hb8 hB9 hn9
  go_wp2
  obtain⟨rN,hrN⟩:∃ rN:Rt,(⟨rX.win,rX.opn,(A2,n9,c2),rX.kept⟩:Rt)=rN:=⟨_,rfl⟩
  have h9:=H9.out
  rw[hrN] at h9
  obtain⟨sN,hsN⟩:∃ sN:Tk,({ sX with act:=s.act++[pN] }:Tk)=sN:=⟨_,rfl⟩
  rw[hsN] at h9
  have HSN:=Lib.hid hsN
  have HMR:=Lib.hid (show m≠r0 from fun e=>h9.mG (e▸h9.t.rG))
  have HFL:=Lib.hid (show ∀ k∈F,k<W9.heap.size from fun k hk=>h9.t.lt k (h9.t.FG k hk))
  clear H9
  have H9:=Lib.hid h9
  clear h9 hrN hsN hW9 j9 f9
  refine AnyO.wp_anyI (by kernel_rfl) (by kernel_rfl) (AnyO.InvG (σ:=Nat) (fun σ=>AnyO.pvL [some (vT rN),some (.pointer (some ⟨m,2,none⟩)),some (vI c.id),some (.pointer (some ⟨m,34,none⟩)),some (.int .i64 c.size),some (.int .i64 ((pk.bytes.size:Nat):Int)),some (vQn (c.id,c.size,((pk.bytes.size:Nat):Int))),some (.slice (some ⟨σ,0,none⟩) 1 1),none,some (.slice (some ⟨σ,0,none⟩) 1 1),some (Value.slice none 0 0),some (Value.int IntKind.i64 0)]) (fun σ D u=>RQ cQn F G sN rN w W9 r0 (c.id,c.size,((pk.bytes.size:Nat):Int)) σ true (D 7) (D 8) u)) (AnyO.InvG.start (g:=0) (RQ.startC (below_drew _) H9.out.t.rf)) ?_ ?_
  ·intro i hi
   have hi2:i=0∨i=2∨i=7∨i=8∨i=1∨i=3∨i=4∨i=5∨i=6∨i=9∨i=10∨i=11:=by simp only[List.size_toArray,List.length_cons,List.length_nil] at hi;omega
   clear hi
   rcases hi2 with rfl|rfl|rfl|rfl|rfl|rfl|rfl|rfl|rfl|rfl|rfl|rfl
   ·refine AnyO.I rfl [] ?_;rintro D vs u σ Q h0 hC hp ac hb K hK
    have s2:=AnyO.sz (v:=.pointer (some ⟨g,0,none⟩)) 2 hb
    have hf8:=AnyO.fls (hC.out 8) h0 (show AnyO.pre _ 8=[0,0] from by kernel_rfl) (by decide)
    have hst:=Q.out.2.lo hf8
    have lk:=(H9.out.keep hst).t.ld
    have rr1:=lk.1
    have rr2:=lk.2.1
    clear hst hf8 lk
    go_simp;exact hK _ _ (AnyO.InvG.step (g:=σ) Q.out.1 rfl Q.out.2)
   ·refine AnyO.I rfl [1] ?_;rintro D vs u σ Q h0 hC hp ac hb K hK
    have s84:_=_:=AnyO.sv 84 1 hb hp Q
    have lk:=Q.out.2.row H9.out.rm HMR.out
    have rr1:=lk.idC.1
    have rr2:=lk.idC.2
    clear lk
    go_simp;exact hK _ _ (AnyO.InvG.step (g:=σ) Q.out.1 rfl Q.out.2)
   ·refine AnyO.I rfl [6] ?_;rintro D vs u σ Q h0 hC hp ac hb K hK
    have s89:_=_:=AnyO.sv 89 6 hb hp Q
    have hf9:=AnyO.fls (hC.out 9) h0 (show AnyO.pre _ 9=[7,8,0,1,2,3,4,5,6,7,8] from by kernel_rfl) (by decide)
    go_simp
    refine hK _ _ (AnyO.InvG.ghost (g:=σ) u.heap.size Q.out.1 ?_ rfl ?_)
    ·intro j hj hq
     rcases j with _|_|_|_|_|_|_|_|_|_|_|_|j
     all_goals first|exact hq|exact absurd (show D 7=true from hj) (by rw[h0];decide)|exact absurd (show D 9=true from hj) (by rw[hf9];decide)
    exact Q.out.2.newq _
   ·refine AnyO.I rfl [0,0] ?_;rintro D vs u σ Q h0 hC hp ac hb K hK
    have s4:=AnyO.sz (v:=.pointer (some ⟨r0,0,none⟩)) 4 hb
    have s83:_=_:=AnyO.sv 83 0 hb hp Q
    have hst:=Q.out.2
    rw[show D 8=false from h0] at hst
    have SS:=hst.stored H9.out
    have ro:=SS.1
    have RP:=Lib.hid SS.2
    clear hst SS
    go_simp
    exact hK undef _ (AnyO.InvG.step (g:=σ) Q.out.1 trivial (by rw[show AnyO.addD D 8 7=D 7 from rfl,show AnyO.addD D 8 8=true from rfl];exact RP.out))
   all_goals
    refine AnyO.J rfl ?_;rintro D vs u σ Q h0 hC hp ac hb K hK
    try have s3:ac.tmps[3]?.getD undef=.pointer (some ⟨m,0,none⟩):=by rw[hb.out];kernel_rfl
    try have s86:_=_:=AnyO.sv 86 3 hb hp Q
    try have s11:ac.tmps[11]?.getD undef=.int .i64 ((pk.bytes.size:Nat):Int):=by rw[hb.out];kernel_rfl
    try have s85:_=_:=AnyO.sv 85 2 hb hp Q
    try have s87:_=_:=AnyO.sv 87 4 hb hp Q
    try have s88:_=_:=AnyO.sv 88 5 hb hp Q
    try have s90:_=_:=AnyO.sv 90 7 hb hp Q
    have rr:=((Q.out.2.row H9.out.rm HMR.out).cell 34).trans (cC_at (aC_34 c))
    go_simp
    exact hK _ _ (AnyO.InvG.step (g:=σ) Q.out.1 rfl Q.out.2)
  ·intro D vs u hI hD
   obtain⟨σ,hP,hW⟩:=hI
   have e0:_=_:=hP 0 (hD 0 (by decide))
   have e1:_=_:=hP 1 (hD 1 (by decide))
   have e2:_=_:=hP 2 (hD 2 (by decide))
   have e3:_=_:=hP 3 (hD 3 (by decide))
   have e4:_=_:=hP 4 (hD 4 (by decide))
   have e5:_=_:=hP 5 (hD 5 (by decide))
   have e6:_=_:=hP 6 (hD 6 (by decide))
   have e7:_=_:=hP 7 (hD 7 (by decide))
   have e9:_=_:=hP 9 (hD 9 (by decide))
   have e10:_=_:=hP 10 (hD 10 (by decide))
   have e11:_=_:=hP 11 (hD 11 (by decide))
   have hst:=hW
   rw[show D 7=true from hD 7 (by decide),show D 8=true from hD 8 (by decide)] at hst
   have HST:=Lib.hid hst
   have hld:=load_T (hst.hi rfl).2.2
   clear hst
   have HW:=Lib.hid hW
   clear hW hP hD
   rw[puts_range [some 83,some 84,some 85,some 86,some 87,some 88,some 89,some 90,none,some 5,some 6,some 7] (by kernel_rfl)]
   simp only[putL,Nat.reduceAdd,e0,e1,e2,e3,e4,e5,e6,e7,e9,e10,e11]
   clear e0 e1 e2 e3 e4 e5 e6 e7 e9 e10 e11
   have HL:=Lib.hid hld
   clear hld
   go_simp
   go_wp2
   exact bodyPost_ret (v:=.tuple #[vT rN,.slice (some ⟨σ,0,none⟩) 1 1,.slice none 0 0,.int .i64 0]) (results_c4 (ad:=⟨r0,0,none⟩) rfl rfl HL.out rfl rfl rfl) rfl (by rw[HPOST.out sN HSN.out];exact⟨rN,(some ⟨σ,0,none⟩,1,1),(none,0,0),rfl,(HST.out.hi rfl).1,HST.out.slF HFL.out,SlF.nil _ _ _,(HST.out.hi rfl).2.1⟩)
theorem refHear_new_diff (F:List Nat) (s:Tk) (r:Rt) (c:Cm) (w:World) (h:RfAt F s r w) (hF:∀ k∈F,k<w.heap.size) (hn:c.name.size≤1000000) (ht:c.text.size≤1000000) (ha:s.act.length≤100) (hk8:s.kept.length≤100) (hndk:(s.kept.map Pt.id).Nodup) (hz:∀ p∈s.act,p.bytes.size≤1000000) (ho:s.opn=true) (hc:chk c=0) (hv:c.verb=2) (hp:posL s.act c.id=none) (hf:¬ s.win≤s.act.length) (J:Nat) (hq:posL s.kept c.id=some J) (hzs:(ptK s.kept J).size≠c.size) :
  Calls Tryz.prog 55 #[vT r,vC c] w (RhP F ⟨s.win,s.opn,s.act++[⟨c.id,c.size,1,⟨#[]⟩⟩],(withoutL s.kept c.id)⟩ [(c.id,c.size,0)] [] 0 w):=by
 have HN:=Lib.hid (And.intro hn ht)
 have HND:=Lib.hid (And.intro hndk hz)
 have HCA:=Lib.hid (show s.act.length≤r.act.2.2 by rw[h.act.1];exact h.act.2.1)
 have HCK:=Lib.hid (show s.kept.length≤r.kept.2.2 by rw[h.kept.1];exact h.kept.2.1)
 obtain⟨g,W1,m,W2,r0,W3,G,hg,hW1,hm,hW2,hr0,hW3,hB⟩:=BxH.new h hF c
 obtain⟨-, -, -, -, -, -,c6,c7⟩:=hB.cmd
 obtain⟨l31,l32,ro3⟩:=hB.t.ld
 have o1:W3.cell? ⟨g,1,none⟩=some (.bool s.opn):=by rw[← hB.t.rf.opn];exact hB.t.rg.cell 1
 rw[ho] at o1
 have HB:=Lib.hid hB
 clear hB h hF hn ht hndk hz
 have HC:=Lib.hid hc
 have HV:=Lib.hid hv
 clear hc hv
 have z0:((0:Int)≤-1)=False:=by simp
 have HI:=Lib.hid (idx_none hp)
 have hnf:¬ s.win≤(s.act.length:Int):=hf
 obtain⟨nA,hnA⟩:∃ nA,s.act.length=nA:=⟨_,rfl⟩
 have HNA:=Lib.hid hnA
 have ha2:nA≤100:=by omega
 obtain⟨pN,hpN⟩:∃ pN:Pt,(⟨c.id,c.size,1,⟨#[]⟩⟩:Pt)=pN:=⟨_,rfl⟩
 have HPN:=Lib.hid hpN
 clear hp hf hnA hpN
 obtain⟨hJ, -, -⟩:=pos_some hq
 have HWK:=Lib.hid (withoutI_eq (x:=c.id) HND.out.1)
 have HJB:=Lib.hid (idx_lt s.kept c.id)
 rw[idx_some hq] at HWK HJB
 have HJ:=Lib.hid (idx_some hq)
 have hJ1:(J:Int)<(s.kept.length:Int):=by omega
 have hJ0:(0:Int)≤(J:Int):=Int.natCast_nonneg J
 have hpJk:ptK s.kept J=s.kept[J]:=ptK_eq hJ
 obtain⟨bd,hbd, -⟩:=Sl.pt (HB.out.t.rf.kept.2.2.1) hJ
 have HBD:=Lib.hid hbd
 obtain⟨pk,hpk2⟩:∃ pk,s.kept[J]=pk:=⟨_,rfl⟩
 have HPK:=Lib.hid hpk2
 rw[hpJk,hpk2] at hzs
 have z3:(pk.size==c.size)=false:=by simpa using hzs
 clear hq hpJk hpk2 hbd hzs
 go_enter Tryz.func55,Tryz.ntmps55
 go_upto_region 16 with (first
  | (go_at_call 49;refine (refFind49 r.kept.1 r.kept.2.2 s.kept c.id w5 H5.out.t.rf.kept.2.2.1 (by omega)).mono ?_;rw[HJ.out];rintro e w6 ⟨rfl,hb6⟩;have hB6:=H5.out.keep hb6;obtain⟨f0,f1,f2,f3,f4,f5, -, -⟩:=hB6.cmd;obtain⟨bd2,hbd2, -, -,hatk⟩:=Sl.pt (hB6.t.rf.kept.2.2.1) hJ;obtain rfl:bd=bd2:=Option.some.inj (HBD.out.symm.trans hbd2);rw[HPK.out] at hatk;have b32:=hatk.f32;have b34:=hatk.f34;have jk6:=hB6.t.ck;rw[HBD.out] at jk6;clear hbd2 hatk;have H6:=Lib.hid hB6;clear hB6;clear hb6)
  | (go_at_call 49;refine (refFind49 r.act.1 r.act.2.2 s.act c.id w4 H4.out.t.rf.act.2.2.1 (by omega)).mono ?_;rw[HI.out];rintro e w5 ⟨rfl,hb5⟩;have hB5:=H4.out.keep hb5;have ja5:=hB5.t.ca;obtain⟨l51,l52,ro5⟩:=hB5.t.ld;obtain⟨e0,e1,e2,e3,e4,e5, -, -⟩:=hB5.cmd;have o5:w5.cell? ⟨g,0,none⟩=some (.int .i64 s.win):=(by rw[← hB5.t.rf.win];exact hB5.t.rg.cell 0);rw[HV.out] at e0;have jk5:=hB5.t.ck;have H5:=Lib.hid hB5;clear hb5 hB5)
  | (go_at_call 72;refine (refCheck22 c W3 HN.out.1 HN.out.2).mono ?_;rintro e w4 ⟨rfl,hb4⟩;rw[HC.out];have hB4:=HB.out.keep hb4;obtain⟨l41,l42,ro4⟩:=hB4.t.ld;obtain⟨-,d1,d2, -, -, -, -, -⟩:=hB4.cmd;have ja4:=hB4.t.ca;have H4:=Lib.hid hB4;clear hb4 hB4))
 go_quiet (fail)
 generalize hU17:World.drewN _ _=U17
 have hb17:Below w6.heap.size w6 U17:=by rw[← hU17];exact below_drewN _ _
 have hBV:=H6.out.keep hb17
 have jkV:=hBV.t.ck
 rw[HBD.out] at jkV
 have H17:=Lib.hid hBV
 clear hU17 hb17 hBV b32 b34 jk6
 go_upto_region 19 with (go_at_call 73;refine (refWithout73 (some bd) r.kept.2.2 s.kept (J:Int) U17 (by have hq:=H17.out.t.rf.kept.2.2.1;rw[HBD.out] at hq;exact hq) HCK.out (by omega) HJB.out.1 HJB.out.2).mono ?_;rw[HWK.out];rintro e w8 ⟨B',d',rfl,ho8,hb8⟩;obtain⟨n8,hn8⟩:∃ n8,(withoutL s.kept c.id).length=n8:=⟨_,rfl⟩;rw[hn8] at ho8 ⊢;have j83:=(H17.out.keep hb8).t.ck;rw[HBD.out] at j83;obtain⟨f8,hB8⟩:=H17.out.setK (SlF.ofOwn ho8 H17.out.t.lt) hb8;obtain⟨W8,hW8⟩:∃ W8,w8.setCell ⟨g,3,none⟩ (.slice B' n8 d')=W8:=⟨_,rfl⟩;rw[hW8] at hB8;have H8':=Lib.hid hB8;clear ho8 hb8 hB8 hn8)
 obtain⟨sX,hsX⟩:∃ sX:Tk,({ s with kept:=withoutL s.kept c.id }:Tk)=sX:=⟨_,rfl⟩
 obtain⟨rX,hrX⟩:∃ rX:Rt,(⟨r.win,r.opn,r.act,(B',n8,d')⟩:Rt)=rX:=⟨_,rfl⟩
 have h8:=H8'.out
 rw[hsX,hrX] at h8
 have H8:=Lib.hid h8
 have HAX:=Lib.hid (show sX.act=s.act∧rX.act=r.act from ⟨by rw[← hsX],by rw[← hrX]⟩)
 have HPOST:=Lib.hid (show ∀ sN,({ sX with act:=s.act++[pN] }:Tk)=sN→RhP F ⟨s.win,s.opn,s.act++[⟨c.id,c.size,1,⟨#[]⟩⟩],withoutL s.kept c.id⟩ [(c.id,c.size,0)] [] 0 w=RhP F sN [(c.id,c.size,0)] [] 0 w from fun sN e=>by rw[← e,HPN.out,← hsX])
 clear h8 H8' hrX hsX hW8 j83 f8 jkV
 refine AnyO.wp_any_tail 10 (by kernel_rfl) (by kernel_rfl) (by kernel_rfl) (by kernel_rfl) (by kernel_rfl) (by kernel_rfl) (pstP [isOwn0G (α:=Pt) W8.heap.size 98 35 cA,isV (.pointer (some ⟨g,2,none⟩)),isV (.slice r.act.1 nA r.act.2.2),isOwnG W8.heap.size 98 35 cA s.act,isV (.pointer (some ⟨m,2,none⟩)),isV (vI c.id),isV (.pointer (some ⟨m,34,none⟩)),isV (.int .i64 c.size),isV (vA pN),isOne cA pN]) (MonoL.cons (Mono.own0G _ _ _ _) (MonoL.cons (Mono.v _) (MonoL.cons (Mono.v _) (MonoL.cons (Mono.ownG _ _ _ _ _) (MonoL.cons (Mono.v _) (MonoL.cons (Mono.v _) (MonoL.cons (Mono.v _) (MonoL.cons (Mono.v _) (MonoL.cons (Mono.v _) (MonoL.cons (Mono.one _ _) MonoL.nil)))))))))) ?_ ?_
 ·intro i hi
  have hi2:i=3∨i=8∨i=0∨i=1∨i=2∨i=4∨i=5∨i=6∨i=7∨i=9:=by omega
  clear hi
  rcases hi2 with rfl|rfl|rfl|rfl|rfl|rfl|rfl|rfl|rfl|rfl
  ·refine AnyO.S rfl [0,2] ?_;intro vs u hE hp ac hb K hK
   obtain⟨g71,e71,h71⟩:=hp.out 0 (by decide)
   have s71:ac.tmps[71]?.getD undef=.slice (some ⟨g71,0,none⟩) 0 0:=by rw[hb.out];exact (show _=vs 0 by kernel_rfl).trans e71
   clear e71
   have s73:_=_:=AnyO.sw 73 2 hb hp
   refine wp_append_fresh u (.tmp 71) (.tmp 73) 58 rfl W8.heap.size 98 35 64 cA underRAs rowRA (by decide) cA_length g71 (ev_tmp s71) h71 r.act.1 nA r.act.2.2 s.act HNA.out (ev_tmp s73) (by have hq:=(H8.out.keep (Below.step (below_drew _) hE)).t.rf.act.2.2.1;rw[HAX.out.1,HAX.out.2] at hq;exact hq) (by omega) (by omega) ((Below.step (below_drew _) hE)).size ?_
   exact fun v w2 h1 h2=>hK _ _ h2 h1
  ·refine AnyO.S rfl [5,7] ?_;intro vs u hE hp ac hb K hK
   have s76:_=_:=AnyO.sw 76 5 hb hp
   have s78:_=_:=AnyO.sw 78 7 hb hp
   go_simp
   rw[HPN.out]
   exact hK _ _ (Below.refl _ _) rfl
  all_goals
   refine AnyO.T rfl ?_;intro vs u hE hp ac hb K hK
   try have s2:ac.tmps[2]?.getD undef=.pointer (some ⟨g,0,none⟩):=by rw[hb.out];kernel_rfl
   try have s72:_=_:=AnyO.sw 72 1 hb hp
   try have s3:ac.tmps[3]?.getD undef=.pointer (some ⟨m,0,none⟩):=by rw[hb.out];kernel_rfl
   try have s75:_=_:=AnyO.sw 75 4 hb hp
   try have s77:_=_:=AnyO.sw 77 6 hb hp
   try have s79:_=_:=AnyO.sw 79 8 hb hp
   have rr_0:=(H8.out.keep (Below.step (below_drew _) hE)).t.ca
   rw[HAX.out.1,HAX.out.2,HNA.out] at rr_0
   obtain⟨-,rr1_1,rr2_1, -, -, -, -, -⟩:=(H8.out.keep (Below.step (below_drew _) hE)).cmd
   obtain⟨-, -, -, -,rr_2, -, -, -⟩:=(H8.out.keep (Below.step (below_drew _) hE)).cmd
   go_simp
   first|exact hK _ _ (below_alloc _ _) ⟨_,rfl,Own.new0 u W8.heap.size 98 35 cA cA_length ((Below.step (below_drew _) hE)).size⟩|exact hK _ _ (Below.refl _ _) rfl|exact hK _ _ (below_alloc _ _) (isOne.P u _ _)
 ·intro vs u hE hp
  obtain⟨g_0,e0,h_0⟩:=show isOwn0G (α:=Pt) W8.heap.size 98 35 cA (vs 0) u from hp 0 (by decide)
  have e1:_=_:=hp 1 (by decide)
  have e2:_=_:=hp 2 (by decide)
  have f3:isOwnG W8.heap.size 98 35 cA s.act (vs 3) u:=hp 3 (by decide)
  have e4:_=_:=hp 4 (by decide)
  have e5:_=_:=hp 5 (by decide)
  have e6:_=_:=hp 6 (by decide)
  have e7:_=_:=hp 7 (by decide)
  have e8:_=_:=hp 8 (by decide)
  obtain⟨g_9,e9,h_9⟩:=show isOne cA pN (vs 9) u from hp 9 (by decide)
  clear hp
  have HF:=Lib.hid (And.intro f3 (And.intro h_9 hE))
  clear f3 h_9 hE
  rw[puts_range [some 71,some 72,some 73,some 74,some 75,some 76,some 77,some 78,some 79,some 80] (by kernel_rfl)]
  simp only[putL,Nat.reduceAdd,List.drop_succ_cons,List.drop_zero,e0,e1,e2,e4,e5,e6,e7,e8,e9]
  clear e0 e1 e2 e4 e5 e6 e7 e8 e9
  go_simp
  go_wp2_with (at_builtin;refine wpList_append_sl u rfl (.tmp 74) (.tmp 80) 58 rfl W8.heap.size 98 35 64 cA underRAs rowRA (by decide) cA_length cA_one (vs 3) s.act rfl HF.out.1 (some ⟨g_9,0,none⟩) 1 1 [pN] rfl rfl HF.out.2.1 (by rw[HNA.out];omega) (by rw[HNA.out];omega) (HF.out.2.2).size ?_)
  intro v2 w8 ho8 hg8
  have hb8:=Own.grew HF.out.1 hg8 HF.out.2.2 (Nat.le_refl _) (HF.out.2.2).size
  obtain⟨A2,c2,rfl, -, -⟩:=Own.sl ho8
  obtain⟨n9,hn9⟩:∃ n9,(s.act++[pN]).length=n9:=⟨_,rfl⟩
  rw[hn9] at ho8 ⊢
  have j9:=(H8.out.keep hb8).t.ca
  rw[HAX.out.1,HAX.out.2,HNA.out] at j9
  obtain⟨f9,hB9⟩:=H8.out.setA (SlF.ofOwn ho8 H8.out.t.lt) hb8
  obtain⟨W9,hW9⟩:∃ W9,w8.setCell ⟨g,2,none⟩ (.slice A2 n9 c2)=W9:=⟨_,rfl⟩
  rw[hW9] at hB9
  have H9:=Lib.hid hB9
  clear ho8 hg8 hb8 hB9 hn9
  go_wp2
  obtain⟨rN,hrN⟩:∃ rN:Rt,(⟨rX.win,rX.opn,(A2,n9,c2),rX.kept⟩:Rt)=rN:=⟨_,rfl⟩
  have h9:=H9.out
  rw[hrN] at h9
  obtain⟨sN,hsN⟩:∃ sN:Tk,({ sX with act:=s.act++[pN] }:Tk)=sN:=⟨_,rfl⟩
  rw[hsN] at h9
  have HSN:=Lib.hid hsN
  have HMR:=Lib.hid (show m≠r0 from fun e=>h9.mG (e▸h9.t.rG))
  have HFL:=Lib.hid (show ∀ k∈F,k<W9.heap.size from fun k hk=>h9.t.lt k (h9.t.FG k hk))
  clear H9
  have H9:=Lib.hid h9
  clear h9 hrN hsN hW9 j9 f9
  refine AnyO.wp_anyI (by kernel_rfl) (by kernel_rfl) (AnyO.InvG (σ:=Nat) (fun σ=>AnyO.pvL [some (vT rN),some (.pointer (some ⟨m,2,none⟩)),some (vI c.id),some (.pointer (some ⟨m,34,none⟩)),some (.int .i64 c.size),some (.int .i64 0),some (vQn (c.id,c.size,0)),some (.slice (some ⟨σ,0,none⟩) 1 1),none,some (.slice (some ⟨σ,0,none⟩) 1 1),some (Value.slice none 0 0),some (Value.int IntKind.i64 0)]) (fun σ D u=>RQ cQn F G sN rN w W9 r0 (c.id,c.size,0) σ true (D 7) (D 8) u)) (AnyO.InvG.start (g:=0) (RQ.startC (below_drew _) H9.out.t.rf)) ?_ ?_
  ·intro i hi
   have hi2:i=0∨i=2∨i=7∨i=8∨i=1∨i=3∨i=4∨i=5∨i=6∨i=9∨i=10∨i=11:=by simp only[List.size_toArray,List.length_cons,List.length_nil] at hi;omega
   clear hi
   rcases hi2 with rfl|rfl|rfl|rfl|rfl|rfl|rfl|rfl|rfl|rfl|rfl|rfl
   ·refine AnyO.I rfl [] ?_;rintro D vs u σ Q h0 hC hp ac hb K hK
    have s2:=AnyO.sz (v:=.pointer (some ⟨g,0,none⟩)) 2 hb
    have hf8:=AnyO.fls (hC.out 8) h0 (show AnyO.pre _ 8=[0,0] from by kernel_rfl) (by decide)
    have hst:=Q.out.2.lo hf8
    have lk:=(H9.out.keep hst).t.ld
    have rr1:=lk.1
    have rr2:=lk.2.1
    clear hst hf8 lk
    go_simp;exact hK _ _ (AnyO.InvG.step (g:=σ) Q.out.1 rfl Q.out.2)
   ·refine AnyO.I rfl [1] ?_;rintro D vs u σ Q h0 hC hp ac hb K hK
    have s84:_=_:=AnyO.sv 84 1 hb hp Q
    have lk:=Q.out.2.row H9.out.rm HMR.out
    have rr1:=lk.idC.1
    have rr2:=lk.idC.2
    clear lk
    go_simp;exact hK _ _ (AnyO.InvG.step (g:=σ) Q.out.1 rfl Q.out.2)
   ·refine AnyO.I rfl [6] ?_;rintro D vs u σ Q h0 hC hp ac hb K hK
    have s89:_=_:=AnyO.sv 89 6 hb hp Q
    have hf9:=AnyO.fls (hC.out 9) h0 (show AnyO.pre _ 9=[7,8,0,1,2,3,4,5,6,7,8] from by kernel_rfl) (by decide)
    go_simp
    refine hK _ _ (AnyO.InvG.ghost (g:=σ) u.heap.size Q.out.1 ?_ rfl ?_)
    ·intro j hj hq
     rcases j with _|_|_|_|_|_|_|_|_|_|_|_|j
     all_goals first|exact hq|exact absurd (show D 7=true from hj) (by rw[h0];decide)|exact absurd (show D 9=true from hj) (by rw[hf9];decide)
    exact Q.out.2.newq _
   ·refine AnyO.I rfl [0,0] ?_;rintro D vs u σ Q h0 hC hp ac hb K hK
    have s4:=AnyO.sz (v:=.pointer (some ⟨r0,0,none⟩)) 4 hb
    have s83:_=_:=AnyO.sv 83 0 hb hp Q
    have hst:=Q.out.2
    rw[show D 8=false from h0] at hst
    have SS:=hst.stored H9.out
    have ro:=SS.1
    have RP:=Lib.hid SS.2
    clear hst SS
    go_simp
    exact hK undef _ (AnyO.InvG.step (g:=σ) Q.out.1 trivial (by rw[show AnyO.addD D 8 7=D 7 from rfl,show AnyO.addD D 8 8=true from rfl];exact RP.out))
   all_goals
    refine AnyO.J rfl ?_;rintro D vs u σ Q h0 hC hp ac hb K hK
    try have s3:ac.tmps[3]?.getD undef=.pointer (some ⟨m,0,none⟩):=by rw[hb.out];kernel_rfl
    try have s86:_=_:=AnyO.sv 86 3 hb hp Q
    try have s11:ac.tmps[11]?.getD undef=.int .i64 0:=by rw[hb.out];kernel_rfl
    try have s85:_=_:=AnyO.sv 85 2 hb hp Q
    try have s87:_=_:=AnyO.sv 87 4 hb hp Q
    try have s88:_=_:=AnyO.sv 88 5 hb hp Q
    try have s90:_=_:=AnyO.sv 90 7 hb hp Q
    have rr:=((Q.out.2.row H9.out.rm HMR.out).cell 34).trans (cC_at (aC_34 c))
    go_simp
    exact hK _ _ (AnyO.InvG.step (g:=σ) Q.out.1 rfl Q.out.2)
  ·intro D vs u hI hD
   obtain⟨σ,hP,hW⟩:=hI
   have e0:_=_:=hP 0 (hD 0 (by decide))
   have e1:_=_:=hP 1 (hD 1 (by decide))
   have e2:_=_:=hP 2 (hD 2 (by decide))
   have e3:_=_:=hP 3 (hD 3 (by decide))
   have e4:_=_:=hP 4 (hD 4 (by decide))
   have e5:_=_:=hP 5 (hD 5 (by decide))
   have e6:_=_:=hP 6 (hD 6 (by decide))
   have e7:_=_:=hP 7 (hD 7 (by decide))
   have e9:_=_:=hP 9 (hD 9 (by decide))
   have e10:_=_:=hP 10 (hD 10 (by decide))
   have e11:_=_:=hP 11 (hD 11 (by decide))
   have hst:=hW
   rw[show D 7=true from hD 7 (by decide),show D 8=true from hD 8 (by decide)] at hst
   have HST:=Lib.hid hst
   have hld:=load_T (hst.hi rfl).2.2
   clear hst
   have HW:=Lib.hid hW
   clear hW hP hD
   rw[puts_range [some 83,some 84,some 85,some 86,some 87,some 88,some 89,some 90,none,some 5,some 6,some 7] (by kernel_rfl)]
   simp only[putL,Nat.reduceAdd,e0,e1,e2,e3,e4,e5,e6,e7,e9,e10,e11]
   clear e0 e1 e2 e3 e4 e5 e6 e7 e9 e10 e11
   have HL:=Lib.hid hld
   clear hld
   go_simp
   go_wp2
   exact bodyPost_ret (v:=.tuple #[vT rN,.slice (some ⟨σ,0,none⟩) 1 1,.slice none 0 0,.int .i64 0]) (results_c4 (ad:=⟨r0,0,none⟩) rfl rfl HL.out rfl rfl rfl) rfl (by rw[HPOST.out sN HSN.out];exact⟨rN,(some ⟨σ,0,none⟩,1,1),(none,0,0),rfl,(HST.out.hi rfl).1,HST.out.slF HFL.out,SlF.nil _ _ _,(HST.out.hi rfl).2.1⟩)
end
end Go.Proofs.YtgojaelkdpabkaaGreatDoor
