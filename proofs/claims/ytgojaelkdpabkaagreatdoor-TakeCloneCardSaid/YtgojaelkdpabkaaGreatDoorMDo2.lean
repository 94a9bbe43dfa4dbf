/- bulletinlaw34.do: Accepted and Cancel. -/
import Derived.Test.YtgojaelkdpabkaaGreatDoorMDy
namespace Go.Proofs.YtgojaelkdpabkaaGreatDoor
open Go.RowKit
section
set_option maxRecDepth 100000
set_option maxHeartbeats 3200000
theorem do_accepted (w0:World) (b:Nat) (s:Tk) (F:List Nat) (r:Rt) (p:Opn) (w:World) (hL:Laid w0) (ht:TkB w0 b s F w) (X:List Nat) (hX:∀ k∈X,k<w.heap.size) (hr:RfAt (F++X) s r w) (hs:p.cmd.text.size≤200∧p.cmd.name.size≤100) (hk:p.kind=2) :
  Calls Tryz.prog 33 #[.pointer (some ⟨b,0,none⟩),vT r,vO p] w (DoP w0 b ((acceptedT s p.cmd.id p.result).1) F X w):=by
 obtain⟨g,W1,o,W2,r0,W3,hg,hW1,ho,hW2,hr0,hW3,hD⟩:=Dx0.new r p w
 obtain⟨d1,d2,d3⟩:=hD.ro.opC
 have HR:=Lib.hid (show RfAt (F++(r0 :: X)) s r w from hr.new _ fun k hk=>by
  rcases List.mem_append.1 hk with hk|hk
  ·exact Or.inl (List.mem_append_left _ hk)
  ·rcases List.mem_cons.1 hk with rfl|hk
   ·exact Or.inr hD.lr
   ·exact Or.inl (List.mem_append_right _ hk))
 have HXX:=Lib.hid hX
 have HD:=Lib.hid hD
 have HT:=Lib.hid ht
 have HW0:=Lib.hid (show w0.heap.size≤w.heap.size from ht.bel.size)
 have HS:=Lib.hid (show p.cmd.name.size≤1000000∧p.cmd.text.size≤1000000 from ⟨by omega,by omega⟩)
 have HL:=Lib.hid hL
 clear hD hr ht hs hL hX
 have HK:=Lib.hid hk
 clear hk
 obtain⟨Z,hZ⟩:∃ Z,acceptedT s p.cmd.id p.result=Z:=⟨_,rfl⟩
 rw[hZ]
 obtain⟨s1,dd,no⟩:=Z
 have HE:=Lib.hid hZ
 clear hZ
 dsimp only
 go_enter Tryz.func33,Tryz.ntmps33
 go_upto_region 27 with (first
  | (go_at_call 57;refine (refAccepted57 (F9++(r0 :: X)) s r p.cmd.id p.result V2 HR9.out (HX9.out.lt HT9.out HXX.out) HT.out.inv.a100 HT.out.inv.nda).mono ?_;rw[HE.out];rintro e w10 ⟨r1,rfl,hr10,hb10⟩;dsimp only at hr10 ⊢;obtain⟨nx,W11,cx,W12,W13,W14,hnx,hW11,hcx,hW12,rokn,hW13,rokc,hW14,hrn,hrc,hb14⟩:=row_made2 (ds:=cT r1) (t:=60) (ds':=cC dd) (t':=35) w10 (cT_length zT) (cC_length zC);rw[show w10.alloc (.cells (cT zT).toArray 60)=w10.alloc (.cells (aT zT) 60) from rfl] at hW11;rw[show W11.alloc (.cells (cC zC).toArray 35)=W11.alloc (.cells (aC zC) 35) from rfl] at hW12;rw[show W12.setRow nx (cT r1).toArray=W12.setRow nx (aT r1) from rfl] at hW13;rw[show W13.setRow cx (cC dd).toArray=W13.setRow cx (aC dd) from rfl] at hW14;have hb:=Below.step hb10 hb14;have HX14:=Lib.hid (HX9.out.keep hb);have HT14:=Lib.hid (HT9.out.keep hb);have HR14:=Lib.hid (hr10.keep hb14);have HROW:=Lib.hid (And.intro hrn (And.intro hrc (HRD.out.keep hb)));have HN:=Lib.hid (And.intro (show nx≠r0 by have:=HX9.out.rr.lt;have:=hb10.size;omega) (And.intro (show cx≠r0 by have:=HX9.out.rr.lt;have:=hb10.size;have h11:w10.heap.size≤W11.heap.size:=(by rw[← hW11];exact (below_alloc _ _).size);omega) (show db≠r0 by intro e;have:=HX8.out.rr.lt;have:=HS9.out;omega)));clear hb hb10 hb14 hr10 hrn hrc)
  | (go_at_call 25;refine (HT8.out.accepted p.cmd.id p.result).mono ?_;rintro e w9 ⟨rfl,F9,ht9,hk9⟩;rw[HE.out] at ht9 ⊢;dsimp only at ht9 ⊢;have hX9:=HX8.out.turn hk9;have hr9:=HR8.out.kp (hk9.app (r0 :: X));obtain⟨db,V1,V2,hdb,hV1,rokd,hV2,hrd,hbd, -⟩:=row_made (ds:=cC dd) (t:=32) w9 (cC_length zC);rw[show w9.alloc (.cells (cC zC).toArray 32)=w9.alloc (.cells (aC zC) 32) from rfl] at hV1;rw[show V1.setRow db (cC dd).toArray=V1.setRow db (aC dd) from rfl] at hV2;have hX9:=hX9.keep hbd;have hr9:=hr9.keep hbd;have ht9:=ht9.keep hbd;obtain⟨⟨y1,y2⟩,⟨y3,y4,y5⟩,⟨y6,y7⟩,y8,⟨y9,y10⟩,⟨y11,y12⟩⟩:=hX9.ld;have HS9:=Lib.hid (show W8.heap.size≤db by rw[← hdb];exact hk9.size);have HX9:=Lib.hid hX9;have HT9:=Lib.hid ht9;have HR9:=Lib.hid hr9;have HRD:=Lib.hid hrd;clear hk9 hX9 hr9 ht9 hrd hbd)
  | (go_at_call 14;refine (own14 p.cmd W3).mono ?_;rintro e w4 ⟨rfl,hb4⟩;obtain⟨cb,W5,W6,ib,W7,W8,hcb,hW5,rok5,hW6,hib,hW7,rok7,hW8,k1,k2,hX8,hb8⟩:=HD.out.box (F:=F) HT.out.lt hb4;obtain⟨⟨x1,x2⟩,⟨x3,x4,x5⟩,⟨x6,x7⟩,x8,⟨x9,x10⟩,⟨x11,x12⟩⟩:=hX8.ld;rw[HK.out] at x5;have HT8:=Lib.hid (HT.out.keep hb8);have HR8:=Lib.hid (HR.out.keep hb8);have HX8:=Lib.hid hX8;clear hb4 hX8 hb8))
 refine AnyO.wp_anyI (by kernel_rfl) (by kernel_rfl) (AnyO.InvG (σ:=Unit) (fun σ=>AnyO.pvL [some (vT r1),some (.int .i64 no),some (.int .i64 no),some (.bool true),some (.bool true),some (vC dd),some (vC dd),some (vC dd),some (.bool true),some (.bool true),none,some (.bool true)]) (fun _ D u=>RX (DoS w0 b s1 F F9 X r1 w r0) W14 r0 (D 10) u)) (AnyO.InvG.start (g:=()) (RX.start (below_drew _))) ?_ ?_
 ·intro i hi
  have hi2:i=0∨i=5∨i=6∨i=7∨i=8∨i=10∨i=1∨i=2∨i=3∨i=4∨i=9∨i=11:=by simp only[List.size_toArray,List.length_cons,List.length_nil] at hi;omega
  clear hi
  rcases hi2 with rfl|rfl|rfl|rfl|rfl|rfl|rfl|rfl|rfl|rfl|rfl|rfl
  ·refine AnyO.I rfl [] ?_;rintro D vs u σ Q h0 hC hp ac hb K hK
   have s25:=AnyO.sz (v:=.pointer (some ⟨nx,0,none⟩)) 25 hb
   have hf10:=AnyO.fls (hC.out 10) h0 (show AnyO.pre _ 10=[0,7,0] from by kernel_rfl) (by decide)
   have hst:=Q.out.2.lo hf10
   have lk:=Row.okw (HROW.out.1.keep hst) (cT_length r1)
   have rr1:=lk.1
   have rr2:rdA u ⟨nx,0,none⟩ 4=vT r1:=lk.2
   clear hst hf10 lk
   go_simp;exact hK _ _ (AnyO.InvG.step (g:=σ) Q.out.1 rfl Q.out.2)
  ·refine AnyO.StepI.mk rfl [4] (by kernel_rfl) ?_;rintro D vs u ⟨σ,hP,hW⟩ h0 hC hp ac hb K hK
   have s23:ac.tmps[23]?.getD undef=.pointer (some ⟨db,0,none⟩):=by rw[hb];kernel_rfl
   have s223:=AnyO.slot 223 hb (by kernel_rfl) (hP 4 (hp 4 (by decide)))
   rw[if_pos (AnyO.wanted_some (g:=4) (t:=223) (want:=true) rfl rfl s223)]
   clear hb hp
   have lk:=Row.okw (hW.row HROW.out.2.2 HN.out.2.2) (cC_length dd)
   have rr1:=lk.1
   have rr2:rdA u ⟨db,0,none⟩ 39=vC dd:=lk.2
   clear lk
   clear hC h0;have HPW:=Lib.hid (And.intro hP hW);clear hP hW;go_simp;exact hK _ _ (AnyO.InvG.step (g:=σ) HPW.out.1 rfl HPW.out.2)
  ·refine AnyO.StepI.mk rfl [4] (by kernel_rfl) ?_;rintro D vs u ⟨σ,hP,hW⟩ h0 hC hp ac hb K hK
   have s26:ac.tmps[26]?.getD undef=.pointer (some ⟨cx,0,none⟩):=by rw[hb];kernel_rfl
   have s223:=AnyO.slot 223 hb (by kernel_rfl) (hP 4 (hp 4 (by decide)))
   rw[if_pos (AnyO.wanted_some (g:=4) (t:=223) (want:=true) rfl rfl s223)]
   clear hb hp
   have lk:=Row.okw (hW.row HROW.out.2.1 HN.out.2.1) (cC_length dd)
   have rr1:=lk.1
   have rr2:rdA u ⟨cx,0,none⟩ 39=vC dd:=lk.2
   clear lk
   clear hC h0;have HPW:=Lib.hid (And.intro hP hW);clear hP hW;go_simp;exact hK _ _ (AnyO.InvG.step (g:=σ) HPW.out.1 rfl HPW.out.2)
  ·refine AnyO.StepI.mk rfl [6,4,4] (by kernel_rfl) ?_;rintro D vs u ⟨σ,hP,hW⟩ h0 hC hp ac hb K hK
   have s225:=AnyO.slot 225 hb (by kernel_rfl) (hP 6 (hp 6 (by decide)))
   have s223:=AnyO.slot 223 hb (by kernel_rfl) (hP 4 (hp 4 (by decide)))
   rw[if_pos (AnyO.wanted_some (g:=4) (t:=223) (want:=true) rfl rfl s223)]
   clear hb hp
   clear hC h0;have HPW:=Lib.hid (And.intro hP hW);clear hP hW;go_simp;obtain⟨hP,hW⟩:=HPW.out
   go_at_call 14
   refine (own14 dd u).mono ?_
   rintro e w2 ⟨rfl,hb2⟩
   exact hK _ _ (AnyO.InvG.step (g:=σ) hP rfl (hW.read hb2))
  ·refine AnyO.StepI.mk rfl [5,7,4] (by kernel_rfl) ?_;rintro D vs u ⟨σ,hP,hW⟩ h0 hC hp ac hb K hK
   have s224:=AnyO.slot 224 hb (by kernel_rfl) (hP 5 (hp 5 (by decide)))
   have s226:=AnyO.slot 226 hb (by kernel_rfl) (hP 7 (hp 7 (by decide)))
   have s223:=AnyO.slot 223 hb (by kernel_rfl) (hP 4 (hp 4 (by decide)))
   rw[if_pos (AnyO.wanted_some (g:=4) (t:=223) (want:=true) rfl rfl s223)]
   clear hb hp
   clear hC h0;have HPW:=Lib.hid (And.intro hP hW);clear hP hW;go_simp;exact hK _ _ (AnyO.InvG.step (g:=σ) HPW.out.1 rfl HPW.out.2)
  ·refine AnyO.I rfl [0,7,0] ?_;rintro D vs u σ Q h0 hC hp ac hb K hK
   have s6:=AnyO.sz (v:=.pointer (some ⟨r0,0,none⟩)) 6 hb
   have s219:_=_:=AnyO.sv 219 0 hb hp Q
   have hst:=Q.out.2
   rw[show D 10=false from h0] at hst
   have SS:=hst.stored HX14.out HW0.out HT14.out HR14.out
   have ro:=SS.1
   have RP:=Lib.hid SS.2
   clear hst SS
   go_simp
   exact hK undef _ (AnyO.InvG.step (g:=σ) Q.out.1 trivial RP.out)
  all_goals
   refine AnyO.J rfl ?_;rintro D vs u σ Q h0 hC hp ac hb K hK
   try have s24:ac.tmps[24]?.getD undef=.int .i64 no:=by rw[hb.out];kernel_rfl
   try have s27:ac.tmps[27]?.getD undef=.int .i64 no:=by rw[hb.out];kernel_rfl
   try have s220:_=_:=AnyO.sv 220 1 hb hp Q
   try have s221:_=_:=AnyO.sv 221 2 hb hp Q
   try have s222:_=_:=AnyO.sv 222 3 hb hp Q
   try have s223:_=_:=AnyO.sv 223 4 hb hp Q
   try have s227:_=_:=AnyO.sv 227 8 hb hp Q
   try have s228:_=_:=AnyO.sv 228 9 hb hp Q
   go_simp
   exact hK _ _ (AnyO.InvG.step (g:=σ) Q.out.1 rfl Q.out.2)
 ·intro D vs u hI hD
  obtain⟨σ,hP,hW⟩:=hI
  have e0:_=_:=hP 0 (hD 0 (by decide))
  have e1:_=_:=hP 1 (hD 1 (by decide))
  have e2:_=_:=hP 2 (hD 2 (by decide))
  have e3:_=_:=hP 3 (hD 3 (by decide))
  have e4:_=_:=hP 4 (hD 4 (by decide))
  have e5:_=_:=hP 5 (hD 5 (by decide))
  have e6:_=_:=hP 6 (hD 6 (by decide))
  have e7:_=_:=hP 7 (hD 7 (by decide))
  have e8:_=_:=hP 8 (hD 8 (by decide))
  have e9:_=_:=hP 9 (hD 9 (by decide))
  have e11:_=_:=hP 11 (hD 11 (by decide))
  have hst:=hW
  rw[show D 10=true from hD 10 (by decide)] at hst
  have HST:=Lib.hid (hst.hi rfl)
  have hld:=load_T (hst.hi rfl).row
  clear hst
  have HW:=Lib.hid hW
  clear hW hP hD
  rw[puts_range [some 219,some 220,some 221,some 222,some 223,some 224,some 225,some 226,some 227,some 228,none,some 7] (by kernel_rfl)]
  simp only[putL,Nat.reduceAdd,e0,e1,e2,e3,e4,e5,e6,e7,e8,e9,e11]
  clear e0 e1 e2 e3 e4 e5 e6 e7 e8 e9 e11
  have HL2:=Lib.hid hld
  clear hld
  go_simp
  go_wp2
  exact bodyPost_ret (v:=.tuple #[vT r1,.bool true]) (results_c2 (ad:=⟨r0,0,none⟩) rfl rfl HL2.out rfl) rfl ⟨r1,_,rfl,HST.out.tb,HST.out.rf,HST.out.kp⟩
theorem do_cancel (w0:World) (b:Nat) (s:Tk) (F:List Nat) (r:Rt) (p:Opn) (w:World) (hL:Laid w0) (ht:TkB w0 b s F w) (X:List Nat) (hX:∀ k∈X,k<w.heap.size) (hr:RfAt (F++X) s r w) (hs:p.cmd.text.size≤200∧p.cmd.name.size≤100) (hk:p.kind=3) :
  Calls Tryz.prog 33 #[.pointer (some ⟨b,0,none⟩),vT r,vO p] w (DoP w0 b ((cancelT s p.cmd.id).1) F X w):=by
 obtain⟨g,W1,o,W2,r0,W3,hg,hW1,ho,hW2,hr0,hW3,hD⟩:=Dx0.new r p w
 obtain⟨d1,d2,d3⟩:=hD.ro.opC
 have HR:=Lib.hid (show RfAt (F++(r0 :: X)) s r w from hr.new _ fun k hk=>by
  rcases List.mem_append.1 hk with hk|hk
  ·exact Or.inl (List.mem_append_left _ hk)
  ·rcases List.mem_cons.1 hk with rfl|hk
   ·exact Or.inr hD.lr
   ·exact Or.inl (List.mem_append_right _ hk))
 have HXX:=Lib.hid hX
 have HD:=Lib.hid hD
 have HT:=Lib.hid ht
 have HW0:=Lib.hid (show w0.heap.size≤w.heap.size from ht.bel.size)
 have HS:=Lib.hid (show p.cmd.name.size≤1000000∧p.cmd.text.size≤1000000 from ⟨by omega,by omega⟩)
 have HL:=Lib.hid hL
 clear hD hr ht hs hL hX
 have HK:=Lib.hid hk
 clear hk
 obtain⟨Z,hZ⟩:∃ Z,cancelT s p.cmd.id=Z:=⟨_,rfl⟩
 rw[hZ]
 obtain⟨s1,dd,no⟩:=Z
 have HE:=Lib.hid hZ
 clear hZ
 dsimp only
 go_enter Tryz.func33,Tryz.ntmps33
 go_upto_region 31 with (first
  | (go_at_call 58;refine (refCancel58 (F9++(r0 :: X)) s r p.cmd.id V2 HR9.out (HX9.out.lt HT9.out HXX.out) HT.out.inv.a100 HT.out.inv.kept HT.out.inv.nda HT.out.inv.ndk).mono ?_;rw[HE.out];rintro e w10 ⟨r1,rfl,hr10,hb10⟩;dsimp only at hr10 ⊢;obtain⟨nx,W11,cx,W12,W13,W14,hnx,hW11,hcx,hW12,rokn,hW13,rokc,hW14,hrn,hrc,hb14⟩:=row_made2 (ds:=cT r1) (t:=60) (ds':=cC dd) (t':=35) w10 (cT_length zT) (cC_length zC);rw[show w10.alloc (.cells (cT zT).toArray 60)=w10.alloc (.cells (aT zT) 60) from rfl] at hW11;rw[show W11.alloc (.cells (cC zC).toArray 35)=W11.alloc (.cells (aC zC) 35) from rfl] at hW12;rw[show W12.setRow nx (cT r1).toArray=W12.setRow nx (aT r1) from rfl] at hW13;rw[show W13.setRow cx (cC dd).toArray=W13.setRow cx (aC dd) from rfl] at hW14;have hb:=Below.step hb10 hb14;have HX14:=Lib.hid (HX9.out.keep hb);have HT14:=Lib.hid (HT9.out.keep hb);have HR14:=Lib.hid (hr10.keep hb14);have HROW:=Lib.hid (And.intro hrn (And.intro hrc (HRD.out.keep hb)));have HN:=Lib.hid (And.intro (show nx≠r0 by have:=HX9.out.rr.lt;have:=hb10.size;omega) (And.intro (show cx≠r0 by have:=HX9.out.rr.lt;have:=hb10.size;have h11:w10.heap.size≤W11.heap.size:=(by rw[← hW11];exact (below_alloc _ _).size);omega) (show db≠r0 by intro e;have:=HX8.out.rr.lt;have:=HS9.out;omega)));clear hb hb10 hb14 hr10 hrn hrc)
  | (go_at_call 28;refine (HT8.out.cancel p.cmd.id).mono ?_;rintro e w9 ⟨rfl,F9,ht9,hk9⟩;rw[HE.out] at ht9 ⊢;dsimp only at ht9 ⊢;have hX9:=HX8.out.turn hk9;have hr9:=HR8.out.kp (hk9.app (r0 :: X));obtain⟨db,V1,V2,hdb,hV1,rokd,hV2,hrd,hbd, -⟩:=row_made (ds:=cC dd) (t:=32) w9 (cC_length zC);rw[show w9.alloc (.cells (cC zC).toArray 32)=w9.alloc (.cells (aC zC) 32) from rfl] at hV1;rw[show V1.setRow db (cC dd).toArray=V1.setRow db (aC dd) from rfl] at hV2;have hX9:=hX9.keep hbd;have hr9:=hr9.keep hbd;have ht9:=ht9.keep hbd;obtain⟨⟨y1,y2⟩,⟨y3,y4,y5⟩,⟨y6,y7⟩,y8,⟨y9,y10⟩,⟨y11,y12⟩⟩:=hX9.ld;have HS9:=Lib.hid (show W8.heap.size≤db by rw[← hdb];exact hk9.size);have HX9:=Lib.hid hX9;have HT9:=Lib.hid ht9;have HR9:=Lib.hid hr9;have HRD:=Lib.hid hrd;clear hk9 hX9 hr9 ht9 hrd hbd)
  | (go_at_call 14;refine (own14 p.cmd W3).mono ?_;rintro e w4 ⟨rfl,hb4⟩;obtain⟨cb,W5,W6,ib,W7,W8,hcb,hW5,rok5,hW6,hib,hW7,rok7,hW8,k1,k2,hX8,hb8⟩:=HD.out.box (F:=F) HT.out.lt hb4;obtain⟨⟨x1,x2⟩,⟨x3,x4,x5⟩,⟨x6,x7⟩,x8,⟨x9,x10⟩,⟨x11,x12⟩⟩:=hX8.ld;rw[HK.out] at x5;have HT8:=Lib.hid (HT.out.keep hb8);have HR8:=Lib.hid (HR.out.keep hb8);have HX8:=Lib.hid hX8;clear hb4 hX8 hb8))
 refine AnyO.wp_anyI (by kernel_rfl) (by kernel_rfl) (AnyO.InvG (σ:=Unit) (fun σ=>AnyO.pvL [some (vT r1),some (.int .i64 no),some (.int .i64 no),some (.bool true),some (.bool true),some (vC dd),some (vC dd),some (vC dd),some (.bool true),some (.bool true),none,some (.bool true)]) (fun _ D u=>RX (DoS w0 b s1 F F9 X r1 w r0) W14 r0 (D 10) u)) (AnyO.InvG.start (g:=()) (RX.start (below_drew _))) ?_ ?_
 ·intro i hi
  have hi2:i=0∨i=5∨i=6∨i=7∨i=8∨i=10∨i=1∨i=2∨i=3∨i=4∨i=9∨i=11:=by simp only[List.size_toArray,List.length_cons,List.length_nil] at hi;omega
  clear hi
  rcases hi2 with rfl|rfl|rfl|rfl|rfl|rfl|rfl|rfl|rfl|rfl|rfl|rfl
  ·refine AnyO.I rfl [] ?_;rintro D vs u σ Q h0 hC hp ac hb K hK
   have s30:=AnyO.sz (v:=.pointer (some ⟨nx,0,none⟩)) 30 hb
   have hf10:=AnyO.fls (hC.out 10) h0 (show AnyO.pre _ 10=[0,7,0] from by kernel_rfl) (by decide)
   have hst:=Q.out.2.lo hf10
   have lk:=Row.okw (HROW.out.1.keep hst) (cT_length r1)
   have rr1:=lk.1
   have rr2:rdA u ⟨nx,0,none⟩ 4=vT r1:=lk.2
   clear hst hf10 lk
   go_simp;exact hK _ _ (AnyO.InvG.step (g:=σ) Q.out.1 rfl Q.out.2)
  ·refine AnyO.StepI.mk rfl [4] (by kernel_rfl) ?_;rintro D vs u ⟨σ,hP,hW⟩ h0 hC hp ac hb K hK
   have s28:ac.tmps[28]?.getD undef=.pointer (some ⟨db,0,none⟩):=by rw[hb];kernel_rfl
   have s250:=AnyO.slot 250 hb (by kernel_rfl) (hP 4 (hp 4 (by decide)))
   rw[if_pos (AnyO.wanted_some (g:=4) (t:=250) (want:=true) rfl rfl s250)]
   clear hb hp
   have lk:=Row.okw (hW.row HROW.out.2.2 HN.out.2.2) (cC_length dd)
   have rr1:=lk.1
   have rr2:rdA u ⟨db,0,none⟩ 39=vC dd:=lk.2
   clear lk
   clear hC h0;have HPW:=Lib.hid (And.intro hP hW);clear hP hW;go_simp;exact hK _ _ (AnyO.InvG.step (g:=σ) HPW.out.1 rfl HPW.out.2)
  ·refine AnyO.StepI.mk rfl [4] (by kernel_rfl) ?_;rintro D vs u ⟨σ,hP,hW⟩ h0 hC hp ac hb K hK
   have s31:ac.tmps[31]?.getD undef=.pointer (some ⟨cx,0,none⟩):=by rw[hb];kernel_rfl
   have s250:=AnyO.slot 250 hb (by kernel_rfl) (hP 4 (hp 4 (by decide)))
   rw[if_pos (AnyO.wanted_some (g:=4) (t:=250) (want:=true) rfl rfl s250)]
   clear hb hp
   have lk:=Row.okw (hW.row HROW.out.2.1 HN.out.2.1) (cC_length dd)
   have rr1:=lk.1
   have rr2:rdA u ⟨cx,0,none⟩ 39=vC dd:=lk.2
   clear lk
   clear hC h0;have HPW:=Lib.hid (And.intro hP hW);clear hP hW;go_simp;exact hK _ _ (AnyO.InvG.step (g:=σ) HPW.out.1 rfl HPW.out.2)
  ·refine AnyO.StepI.mk rfl [6,4,4] (by kernel_rfl) ?_;rintro D vs u ⟨σ,hP,hW⟩ h0 hC hp ac hb K hK
   have s252:=AnyO.slot 252 hb (by kernel_rfl) (hP 6 (hp 6 (by decide)))
   have s250:=AnyO.slot 250 hb (by kernel_rfl) (hP 4 (hp 4 (by decide)))
   rw[if_pos (AnyO.wanted_some (g:=4) (t:=250) (want:=true) rfl rfl s250)]
   clear hb hp
   clear hC h0;have HPW:=Lib.hid (And.intro hP hW);clear hP hW;go_simp;obtain⟨hP,hW⟩:=HPW.out
   go_at_call 14
   refine (own14 dd u).mono ?_
   rintro e w2 ⟨rfl,hb2⟩
   exact hK _ _ (AnyO.InvG.step (g:=σ) hP rfl (hW.read hb2))
  ·refine AnyO.StepI.mk rfl [5,7,4] (by kernel_rfl) ?_;rintro D vs u ⟨σ,hP,hW⟩ h0 hC hp ac hb K hK
   have s251:=AnyO.slot 251 hb (by kernel_rfl) (hP 5 (hp 5 (by decide)))
   have s253:=AnyO.slot 253 hb (by kernel_rfl) (hP 7 (hp 7 (by decide)))
   have s250:=AnyO.slot 250 hb (by kernel_rfl) (hP 4 (hp 4 (by decide)))
   rw[if_pos (AnyO.wanted_some (g:=4) (t:=250) (want:=true) rfl rfl s250)]
   clear hb hp
   clear hC h0;have HPW:=Lib.hid (And.intro hP hW);clear hP hW;go_simp;exact hK _ _ (AnyO.InvG.step (g:=σ) HPW.out.1 rfl HPW.out.2)
  ·refine AnyO.I rfl [0,7,0] ?_;rintro D vs u σ Q h0 hC hp ac hb K hK
   have s6:=AnyO.sz (v:=.pointer (some ⟨r0,0,none⟩)) 6 hb
   have s246:_=_:=AnyO.sv 246 0 hb hp Q
   have hst:=Q.out.2
   rw[show D 10=false from h0] at hst
   have SS:=hst.stored HX14.out HW0.out HT14.out HR14.out
   have ro:=SS.1
   have RP:=Lib.hid SS.2
   clear hst SS
   go_simp
   exact hK undef _ (AnyO.InvG.step (g:=σ) Q.out.1 trivial RP.out)
  all_goals
   refine AnyO.J rfl ?_;rintro D vs u σ Q h0 hC hp ac hb K hK
   try have s29:ac.tmps[29]?.getD undef=.int .i64 no:=by rw[hb.out];kernel_rfl
   try have s32:ac.tmps[32]?.getD undef=.int .i64 no:=by rw[hb.out];kernel_rfl
   try have s247:_=_:=AnyO.sv 247 1 hb hp Q
   try have s248:_=_:=AnyO.sv 248 2 hb hp Q
   try have s249:_=_:=AnyO.sv 249 3 hb hp Q
   try have s250:_=_:=AnyO.sv 250 4 hb hp Q
   try have s254:_=_:=AnyO.sv 254 8 hb hp Q
   try have s255:_=_:=AnyO.sv 255 9 hb hp Q
   go_simp
   exact hK _ _ (AnyO.InvG.step (g:=σ) Q.out.1 rfl Q.out.2)
 ·intro D vs u hI hD
  obtain⟨σ,hP,hW⟩:=hI
  have e0:_=_:=hP 0 (hD 0 (by decide))
  have e1:_=_:=hP 1 (hD 1 (by decide))
  have e2:_=_:=hP 2 (hD 2 (by decide))
  have e3:_=_:=hP 3 (hD 3 (by decide))
  have e4:_=_:=hP 4 (hD 4 (by decide))
  have e5:_=_:=hP 5 (hD 5 (by decide))
  have e6:_=_:=hP 6 (hD 6 (by decide))
  have e7:_=_:=hP 7 (hD 7 (by decide))
  have e8:_=_:=hP 8 (hD 8 (by decide))
  have e9:_=_:=hP 9 (hD 9 (by decide))
  have e11:_=_:=hP 11 (hD 11 (by decide))
  have hst:=hW
  rw[show D 10=true from hD 10 (by decide)] at hst
  have HST:=Lib.hid (hst.hi rfl)
  have hld:=load_T (hst.hi rfl).row
  clear hst
  have HW:=Lib.hid hW
  clear hW hP hD
  rw[puts_range [some 246,some 247,some 248,some 249,some 250,some 251,some 252,some 253,some 254,some 255,none,some 7] (by kernel_rfl)]
  simp only[putL,Nat.reduceAdd,e0,e1,e2,e3,e4,e5,e6,e7,e8,e9,e11]
  clear e0 e1 e2 e3 e4 e5 e6 e7 e8 e9 e11
  have HL2:=Lib.hid hld
  clear hld
  go_simp
  go_wp2
  exact bodyPost_ret (v:=.tuple #[vT r1,.bool true]) (results_c2 (ad:=⟨r0,0,none⟩) rfl rfl HL2.out rfl) rfl ⟨r1,_,rfl,HST.out.tb,HST.out.rf,HST.out.kp⟩
end
end Go.Proofs.YtgojaelkdpabkaaGreatDoor
