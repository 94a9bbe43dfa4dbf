/- bulletinlaw34.do: Answer. -/
import Derived.Test.YtgojaelkdpabkaaGreatDoorMDy
namespace Go.Proofs.YtgojaelkdpabkaaGreatDoor
open Go.RowKit
theorem ans_say (s:Tk) (c:Cm):((answerT s c).2.2=0→(answerT s c).2.1=c)∧((answerT s c).2.2≠0→(answerT s c).2.1=zC):=by
 unfold answerT
 split
 ·exact⟨fun h=>absurd h (by assumption),fun _=>rfl⟩
 ·split
  ·exact⟨fun h=>absurd h (by dsimp only;omega),fun _=>rfl⟩
  ·split
   ·exact⟨fun h=>absurd h (by dsimp only;omega),fun _=>rfl⟩
   ·split
    ·exact⟨fun h=>absurd h (by dsimp only;omega),fun _=>rfl⟩
    ·split
     ·exact⟨fun h=>absurd h (by dsimp only;omega),fun _=>rfl⟩
     ·split
      ·exact⟨fun _=>rfl,fun h=>absurd rfl h⟩
      ·split
       ·exact⟨fun _=>rfl,fun h=>absurd rfl h⟩
       ·exact⟨fun _=>rfl,fun h=>absurd rfl h⟩
set_option maxRecDepth 100000 in
set_option maxHeartbeats 3200000 in
theorem do_answer (w0:World) (b:Nat) (s:Tk) (F:List Nat) (r:Rt) (p:Opn) (w:World) (hL:Laid w0) (ht:TkB w0 b s F w) (X:List Nat) (hX:∀ k∈X,k<w.heap.size) (hr:RfAt (F++X) s r w) (hs:p.cmd.text.size≤200∧p.cmd.name.size≤100) (hk:p.kind=1) :
  Calls Tryz.prog 33 #[.pointer (some ⟨b,0,none⟩),vT r,vO p] w (DoP w0 b ((answerT s p.cmd).1) F X w):=by
 obtain⟨g,W1,o,W2,r0,W3,hg,hW1,ho,hW2,hr0,hW3,hD⟩:=Dx0.new r p w
 obtain⟨d1,d2,d3⟩:=hD.ro.opC
 have HR:=Lib.hid (show RfAt (F++(r0 :: X)) s r w from hr.new _ fun k hk=>by
  rcases List.mem_append.1 hk with hk|hk
  ·exact Or.inl (List.mem_append_left _ hk)
  ·rcases List.mem_cons.1 hk with rfl|hk
   ·exact Or.inr hD.lr
   ·exact Or.inl (List.mem_append_right _ hk))
 have HXX:=Lib.hid hX
 have HD:=Lib.hid hD
 have HT:=Lib.hid ht
 have HW0:=Lib.hid (show w0.heap.size≤w.heap.size from ht.bel.size)
 have HS:=Lib.hid (show p.cmd.name.size≤1000000∧p.cmd.text.size≤1000000 from ⟨by omega,by omega⟩)
 have HL:=Lib.hid hL
 clear hD hr ht hs hL hX
 have HK:=Lib.hid hk
 clear hk
 obtain⟨hs0,hs1⟩:=ans_say s p.cmd
 obtain⟨Z,hZ⟩:∃ Z,answerT s p.cmd=Z:=⟨_,rfl⟩
 rw[hZ] at hs0 hs1 ⊢
 obtain⟨s1,dd,no⟩:=Z
 dsimp only at hs0 hs1 ⊢
 by_cases hno:no=0
 ·have hd:=hs0 hno
  subst hd
  subst hno
  have HE:=Lib.hid hZ
  clear hZ hs0 hs1
  go_enter Tryz.func33,Tryz.ntmps33
  go_upto_region 23 with (first
   | (go_at_call 56;refine (refAnswer56 (F9++(r0 :: X)) s r p.cmd V2 HR9.out (HX9.out.lt HT9.out HXX.out) HS.out.1 HS.out.2 HT.out.inv.a100 HT.out.inv.k100 HT.out.inv.nda HT.out.inv.ndk).mono ?_;rw[HE.out];rintro e w10 ⟨r1,rfl,hr10,hb10⟩;dsimp only at hr10 ⊢;obtain⟨nx,W11,W14,hnx,hW11,rokn,hW14,hrn,hb14, -⟩:=row_made (ds:=cT r1) (t:=60) w10 (cT_length zT);rw[show w10.alloc (.cells (cT zT).toArray 60)=w10.alloc (.cells (aT zT) 60) from rfl] at hW11;rw[show W11.setRow nx (cT r1).toArray=W11.setRow nx (aT r1) from rfl] at hW14;have hb:=Below.step hb10 hb14;have HX14:=Lib.hid (HX9.out.keep hb);have HT14:=Lib.hid (HT9.out.keep hb);have HR14:=Lib.hid (hr10.keep hb14);have HROW:=Lib.hid (And.intro hrn (HRD.out.keep hb));have HN:=Lib.hid (And.intro (show nx≠r0 by have:=HX9.out.rr.lt;have:=hb10.size;omega) (show db≠r0 by intro e;have:=HX8.out.rr.lt;have:=HS9.out;omega));clear hb hb10 hb14 hr10 hrn)
   | (go_at_call 16;refine (HT8.out.answer HL.out p.cmd HS.out.1).mono ?_;rintro e w9 ⟨rfl,F9,ht9,hk9⟩;rw[HE.out] at ht9 ⊢;dsimp only at ht9 ⊢;have hX9:=HX8.out.turn hk9;have hr9:=HR8.out.kp (hk9.app (r0 :: X));obtain⟨db,V1,V2,hdb,hV1,rokd,hV2,hrd,hbd, -⟩:=row_made (ds:=cC p.cmd) (t:=32) w9 (cC_length zC);rw[show w9.alloc (.cells (cC zC).toArray 32)=w9.alloc (.cells (aC zC) 32) from rfl] at hV1;rw[show V1.setRow db (cC p.cmd).toArray=V1.setRow db (aC p.cmd) from rfl] at hV2;have hX9:=hX9.keep hbd;have hr9:=hr9.keep hbd;have ht9:=ht9.keep hbd;obtain⟨⟨y1,y2⟩,⟨y3,y4,y5⟩,⟨y6,y7⟩,y8,⟨y9,y10⟩,⟨y11,y12⟩⟩:=hX9.ld;have HS9:=Lib.hid (show W8.heap.size≤db by rw[← hdb];exact hk9.size);have HX9:=Lib.hid hX9;have HT9:=Lib.hid ht9;have HR9:=Lib.hid hr9;have HRD:=Lib.hid hrd;clear hk9 hX9 hr9 ht9 hrd hbd)
   | (go_at_call 14;refine (own14 p.cmd W3).mono ?_;rintro e w4 ⟨rfl,hb4⟩;obtain⟨cb,W5,W6,ib,W7,W8,hcb,hW5,rok5,hW6,hib,hW7,rok7,hW8,k1,k2,hX8,hb8⟩:=HD.out.box (F:=F) HT.out.lt hb4;obtain⟨⟨x1,x2⟩,⟨x3,x4,x5⟩,⟨x6,x7⟩,x8,⟨x9,x10⟩,⟨x11,x12⟩⟩:=hX8.ld;rw[HK.out] at x5;have HT8:=Lib.hid (HT.out.keep hb8);have HR8:=Lib.hid (HR.out.keep hb8);have HX8:=Lib.hid hX8;clear hb4 hX8 hb8))
  refine AnyO.wp_anyI (by kernel_rfl) (by kernel_rfl) (AnyO.InvG (σ:=Unit) (fun σ=>AnyO.pvL [some (vT r1),some (.int .i64 0),some (.int .i64 0),some (.bool true),some (.bool true),some (.int .i64 0),some (.bool true),some (.bool true),some (vC p.cmd),some (vC p.cmd),some (.bool true),some (.bool true),some (.bool true),some (undef),some (undef),some (undef),some (undef),some (undef),some (undef),some (undef),some (.bool true),some (.bool true),none,some (.bool true)]) (fun _ D u=>RX (DoS w0 b s1 F F9 X r1 w r0) W14 r0 (D 22) u)) (AnyO.InvG.start (g:=()) (RX.start (below_drew _))) ?_ ?_
  ·intro i hi
   have hi2:i=0∨i=5∨i=6∨i=7∨i=8∨i=9∨i=10∨i=11∨i=12∨i=13∨i=14∨i=15∨i=16∨i=17∨i=18∨i=19∨i=20∨i=22∨i=1∨i=2∨i=3∨i=4∨i=21∨i=23:=by simp only[List.size_toArray,List.length_cons,List.length_nil] at hi;omega
   clear hi
   rcases hi2 with rfl|rfl|rfl|rfl|rfl|rfl|rfl|rfl|rfl|rfl|rfl|rfl|rfl|rfl|rfl|rfl|rfl|rfl|rfl|rfl|rfl|rfl|rfl|rfl
   ·refine AnyO.I rfl [] ?_;rintro D vs u σ Q h0 hC hp ac hb K hK
    have s21:=AnyO.sz (v:=.pointer (some ⟨nx,0,none⟩)) 21 hb
    have hf22:=AnyO.fls (hC.out 22) h0 (show AnyO.pre _ 22=[0,15,0] from by kernel_rfl) (by decide)
    have hst:=Q.out.2.lo hf22
    have lk:=Row.okw (HROW.out.1.keep hst) (cT_length r1)
    have rr1:=lk.1
    have rr2:rdA u ⟨nx,0,none⟩ 4=vT r1:=lk.2
    clear hst hf22 lk
    go_simp;exact hK _ _ (AnyO.InvG.step (g:=σ) Q.out.1 rfl Q.out.2)
   ·refine AnyO.StepI.mk rfl [4] (by kernel_rfl) ?_;rintro D vs u ⟨σ,hP,hW⟩ h0 hC hp ac hb K hK
    have s20:ac.tmps[20]?.getD undef=.int .i64 0:=by rw[hb];kernel_rfl
    have s180:=AnyO.slot 180 hb (by kernel_rfl) (hP 4 (hp 4 (by decide)))
    rw[if_pos (AnyO.wanted_some (g:=4) (t:=180) (want:=true) rfl rfl s180)]
    clear hb hp
    clear hC h0;have HPW:=Lib.hid (And.intro hP hW);clear hP hW;go_simp;exact hK _ _ (AnyO.InvG.step (g:=σ) HPW.out.1 rfl HPW.out.2)
   ·refine AnyO.StepI.mk rfl [5,4] (by kernel_rfl) ?_;rintro D vs u ⟨σ,hP,hW⟩ h0 hC hp ac hb K hK
    have s181:=AnyO.slot 181 hb (by kernel_rfl) (hP 5 (hp 5 (by decide)))
    have s180:=AnyO.slot 180 hb (by kernel_rfl) (hP 4 (hp 4 (by decide)))
    rw[if_pos (AnyO.wanted_some (g:=4) (t:=180) (want:=true) rfl rfl s180)]
    clear hb hp
    clear hC h0;have HPW:=Lib.hid (And.intro hP hW);clear hP hW;go_simp;exact hK _ _ (AnyO.InvG.step (g:=σ) HPW.out.1 rfl HPW.out.2)
   ·refine AnyO.StepI.mk rfl [6,4,4] (by kernel_rfl) ?_;rintro D vs u ⟨σ,hP,hW⟩ h0 hC hp ac hb K hK
    have s182:=AnyO.slot 182 hb (by kernel_rfl) (hP 6 (hp 6 (by decide)))
    have s180:=AnyO.slot 180 hb (by kernel_rfl) (hP 4 (hp 4 (by decide)))
    rw[if_pos (AnyO.wanted_some (g:=4) (t:=180) (want:=true) rfl rfl s180)]
    clear hb hp
    clear hC h0;have HPW:=Lib.hid (And.intro hP hW);clear hP hW;go_simp;exact hK _ _ (AnyO.InvG.step (g:=σ) HPW.out.1 rfl HPW.out.2)
   ·refine AnyO.StepI.mk rfl [7] (by kernel_rfl) ?_;rintro D vs u ⟨σ,hP,hW⟩ h0 hC hp ac hb K hK
    have s19:ac.tmps[19]?.getD undef=.pointer (some ⟨db,0,none⟩):=by rw[hb];kernel_rfl
    have s183:=AnyO.slot 183 hb (by kernel_rfl) (hP 7 (hp 7 (by decide)))
    rw[if_pos (AnyO.wanted_some (g:=7) (t:=183) (want:=true) rfl rfl s183)]
    clear hb hp
    have lk:=Row.okw (hW.row HROW.out.2 HN.out.2) (cC_length (p.cmd))
    have rr1:=lk.1
    have rr2:rdA u ⟨db,0,none⟩ 39=vC (p.cmd):=lk.2
    clear lk
    clear hC h0;have HPW:=Lib.hid (And.intro hP hW);clear hP hW;go_simp;exact hK _ _ (AnyO.InvG.step (g:=σ) HPW.out.1 rfl HPW.out.2)
   ·refine AnyO.StepI.mk rfl [7] (by kernel_rfl) ?_;rintro D vs u ⟨σ,hP,hW⟩ h0 hC hp ac hb K hK
    have s8:ac.tmps[8]?.getD undef=.pointer (some ⟨cb,0,none⟩):=by rw[hb];kernel_rfl
    have s183:=AnyO.slot 183 hb (by kernel_rfl) (hP 7 (hp 7 (by decide)))
    rw[if_pos (AnyO.wanted_some (g:=7) (t:=183) (want:=true) rfl rfl s183)]
    clear hb hp
    have lk:=Row.okw (hW.row HX14.out.rc HX14.out.nrc.symm) (cC_length p.cmd)
    have rr1:=lk.1
    have rr2:rdA u ⟨cb,0,none⟩ 39=vC p.cmd:=lk.2
    clear lk
    clear hC h0;have HPW:=Lib.hid (And.intro hP hW);clear hP hW;go_simp;exact hK _ _ (AnyO.InvG.step (g:=σ) HPW.out.1 rfl HPW.out.2)
   ·refine AnyO.StepI.mk rfl [8,9,7] (by kernel_rfl) ?_;rintro D vs u ⟨σ,hP,hW⟩ h0 hC hp ac hb K hK
    have s184:=AnyO.slot 184 hb (by kernel_rfl) (hP 8 (hp 8 (by decide)))
    have s185:=AnyO.slot 185 hb (by kernel_rfl) (hP 9 (hp 9 (by decide)))
    have s183:=AnyO.slot 183 hb (by kernel_rfl) (hP 7 (hp 7 (by decide)))
    rw[if_pos (AnyO.wanted_some (g:=7) (t:=183) (want:=true) rfl rfl s183)]
    clear hb hp
    clear hC h0;have HPW:=Lib.hid (And.intro hP hW);clear hP hW;go_simp;exact hK _ _ (AnyO.InvG.step (g:=σ) HPW.out.1 rfl HPW.out.2)
   ·refine AnyO.StepI.mk rfl [7,10,4] (by kernel_rfl) ?_;rintro D vs u ⟨σ,hP,hW⟩ h0 hC hp ac hb K hK
    have s183:=AnyO.slot 183 hb (by kernel_rfl) (hP 7 (hp 7 (by decide)))
    have s186:=AnyO.slot 186 hb (by kernel_rfl) (hP 10 (hp 10 (by decide)))
    have s180:=AnyO.slot 180 hb (by kernel_rfl) (hP 4 (hp 4 (by decide)))
    rw[if_pos (AnyO.wanted_some (g:=4) (t:=180) (want:=true) rfl rfl s180)]
    clear hb hp
    clear hC h0;have HPW:=Lib.hid (And.intro hP hW);clear hP hW;go_simp;exact hK _ _ (AnyO.InvG.step (g:=σ) HPW.out.1 rfl HPW.out.2)
   ·refine AnyO.StepI.mk rfl [11,7,4] (by kernel_rfl) ?_;rintro D vs u ⟨σ,hP,hW⟩ h0 hC hp ac hb K hK
    have s187:=AnyO.slot 187 hb (by kernel_rfl) (hP 11 (hp 11 (by decide)))
    have s180:=AnyO.slot 180 hb (by kernel_rfl) (hP 4 (hp 4 (by decide)))
    rw[if_pos (AnyO.wanted_some (g:=4) (t:=180) (want:=true) rfl rfl s180)]
    clear hb hp
    clear hC h0;have HPW:=Lib.hid (And.intro hP hW);clear hP hW;go_simp;exact hK _ _ (AnyO.InvG.step (g:=σ) HPW.out.1 rfl HPW.out.2)
   ·refine AnyO.StepI.mk rfl [12] (by kernel_rfl) ?_;rintro D vs u ⟨σ,hP,hW⟩ h0 hC hp ac hb K hK
    have s20:ac.tmps[20]?.getD undef=.int .i64 0:=by rw[hb];kernel_rfl
    have s188:=AnyO.slot 188 hb (by kernel_rfl) (hP 12 (hp 12 (by decide)))
    rw[if_neg (AnyO.wanted_not (g:=12) (t:=188) (want:=false) rfl rfl s188 (fun e=>by cases e))]
    exact hK undef _ (AnyO.InvG.step (g:=σ) hP rfl hW)
   ·refine AnyO.StepI.mk rfl [13,12] (by kernel_rfl) ?_;rintro D vs u ⟨σ,hP,hW⟩ h0 hC hp ac hb K hK
    have s189:=AnyO.slot 189 hb (by kernel_rfl) (hP 13 (hp 13 (by decide)))
    have s188:=AnyO.slot 188 hb (by kernel_rfl) (hP 12 (hp 12 (by decide)))
    rw[if_neg (AnyO.wanted_not (g:=12) (t:=188) (want:=false) rfl rfl s188 (fun e=>by cases e))]
    exact hK undef _ (AnyO.InvG.step (g:=σ) hP rfl hW)
   ·refine AnyO.StepI.mk rfl [14,12,12] (by kernel_rfl) ?_;rintro D vs u ⟨σ,hP,hW⟩ h0 hC hp ac hb K hK
    have s190:=AnyO.slot 190 hb (by kernel_rfl) (hP 14 (hp 14 (by decide)))
    have s188:=AnyO.slot 188 hb (by kernel_rfl) (hP 12 (hp 12 (by decide)))
    rw[if_neg (AnyO.wanted_not (g:=12) (t:=188) (want:=false) rfl rfl s188 (fun e=>by cases e))]
    exact hK undef _ (AnyO.InvG.step (g:=σ) hP rfl hW)
   ·refine AnyO.StepI.mk rfl [15] (by kernel_rfl) ?_;rintro D vs u ⟨σ,hP,hW⟩ h0 hC hp ac hb K hK
    have s19:ac.tmps[19]?.getD undef=.pointer (some ⟨db,0,none⟩):=by rw[hb];kernel_rfl
    have s191:=AnyO.slot 191 hb (by kernel_rfl) (hP 15 (hp 15 (by decide)))
    rw[if_neg (AnyO.wanted_not (g:=15) (t:=191) (want:=true) rfl rfl s191 (fun e=>by cases e))]
    exact hK undef _ (AnyO.InvG.step (g:=σ) hP rfl hW)
   ·refine AnyO.StepI.mk rfl [15] (by kernel_rfl) ?_;rintro D vs u ⟨σ,hP,hW⟩ h0 hC hp ac hb K hK
    have s191:=AnyO.slot 191 hb (by kernel_rfl) (hP 15 (hp 15 (by decide)))
    rw[if_neg (AnyO.wanted_not (g:=15) (t:=191) (want:=true) rfl rfl s191 (fun e=>by cases e))]
    exact hK undef _ (AnyO.InvG.step (g:=σ) hP rfl hW)
   ·refine AnyO.StepI.mk rfl [16,17,15] (by kernel_rfl) ?_;rintro D vs u ⟨σ,hP,hW⟩ h0 hC hp ac hb K hK
    have s192:=AnyO.slot 192 hb (by kernel_rfl) (hP 16 (hp 16 (by decide)))
    have s193:=AnyO.slot 193 hb (by kernel_rfl) (hP 17 (hp 17 (by decide)))
    have s191:=AnyO.slot 191 hb (by kernel_rfl) (hP 15 (hp 15 (by decide)))
    rw[if_neg (AnyO.wanted_not (g:=15) (t:=191) (want:=true) rfl rfl s191 (fun e=>by cases e))]
    exact hK undef _ (AnyO.InvG.step (g:=σ) hP rfl hW)
   ·refine AnyO.StepI.mk rfl [15,18,12] (by kernel_rfl) ?_;rintro D vs u ⟨σ,hP,hW⟩ h0 hC hp ac hb K hK
    have s191:=AnyO.slot 191 hb (by kernel_rfl) (hP 15 (hp 15 (by decide)))
    have s194:=AnyO.slot 194 hb (by kernel_rfl) (hP 18 (hp 18 (by decide)))
    have s188:=AnyO.slot 188 hb (by kernel_rfl) (hP 12 (hp 12 (by decide)))
    rw[if_neg (AnyO.wanted_not (g:=12) (t:=188) (want:=false) rfl rfl s188 (fun e=>by cases e))]
    exact hK undef _ (AnyO.InvG.step (g:=σ) hP rfl hW)
   ·refine AnyO.StepI.mk rfl [12,19,4] (by kernel_rfl) ?_;rintro D vs u ⟨σ,hP,hW⟩ h0 hC hp ac hb K hK
    have s188:=AnyO.slot 188 hb (by kernel_rfl) (hP 12 (hp 12 (by decide)))
    have s195:=AnyO.slot 195 hb (by kernel_rfl) (hP 19 (hp 19 (by decide)))
    have s180:=AnyO.slot 180 hb (by kernel_rfl) (hP 4 (hp 4 (by decide)))
    rw[if_pos (AnyO.wanted_some (g:=4) (t:=180) (want:=true) rfl rfl s180)]
    clear hb hp
    clear hC h0;have HPW:=Lib.hid (And.intro hP hW);clear hP hW;go_simp;exact hK _ _ (AnyO.InvG.step (g:=σ) HPW.out.1 rfl HPW.out.2)
   ·refine AnyO.I rfl [0,15,0] ?_;rintro D vs u σ Q h0 hC hp ac hb K hK
    have s6:=AnyO.sz (v:=.pointer (some ⟨r0,0,none⟩)) 6 hb
    have s176:_=_:=AnyO.sv 176 0 hb hp Q
    have hst:=Q.out.2
    rw[show D 22=false from h0] at hst
    have SS:=hst.stored HX14.out HW0.out HT14.out HR14.out
    have ro:=SS.1
    have RP:=Lib.hid SS.2
    clear hst SS
    go_simp
    exact hK undef _ (AnyO.InvG.step (g:=σ) Q.out.1 trivial RP.out)
   all_goals
    refine AnyO.J rfl ?_;rintro D vs u σ Q h0 hC hp ac hb K hK
    try have s20:ac.tmps[20]?.getD undef=.int .i64 0:=by rw[hb.out];kernel_rfl
    try have s22:ac.tmps[22]?.getD undef=.int .i64 0:=by rw[hb.out];kernel_rfl
    try have s177:_=_:=AnyO.sv 177 1 hb hp Q
    try have s178:_=_:=AnyO.sv 178 2 hb hp Q
    try have s179:_=_:=AnyO.sv 179 3 hb hp Q
    try have s180:_=_:=AnyO.sv 180 4 hb hp Q
    try have s196:_=_:=AnyO.sv 196 20 hb hp Q
    try have s197:_=_:=AnyO.sv 197 21 hb hp Q
    go_simp
    exact hK _ _ (AnyO.InvG.step (g:=σ) Q.out.1 rfl Q.out.2)
  ·intro D vs u hI hD
   obtain⟨σ,hP,hW⟩:=hI
   have e0:_=_:=hP 0 (hD 0 (by decide))
   have e1:_=_:=hP 1 (hD 1 (by decide))
   have e2:_=_:=hP 2 (hD 2 (by decide))
   have e3:_=_:=hP 3 (hD 3 (by decide))
   have e4:_=_:=hP 4 (hD 4 (by decide))
   have e5:_=_:=hP 5 (hD 5 (by decide))
   have e6:_=_:=hP 6 (hD 6 (by decide))
   have e7:_=_:=hP 7 (hD 7 (by decide))
   have e8:_=_:=hP 8 (hD 8 (by decide))
   have e9:_=_:=hP 9 (hD 9 (by decide))
   have e10:_=_:=hP 10 (hD 10 (by decide))
   have e11:_=_:=hP 11 (hD 11 (by decide))
   have e12:_=_:=hP 12 (hD 12 (by decide))
   have e13:_=_:=hP 13 (hD 13 (by decide))
   have e14:_=_:=hP 14 (hD 14 (by decide))
   have e15:_=_:=hP 15 (hD 15 (by decide))
   have e16:_=_:=hP 16 (hD 16 (by decide))
   have e17:_=_:=hP 17 (hD 17 (by decide))
   have e18:_=_:=hP 18 (hD 18 (by decide))
   have e19:_=_:=hP 19 (hD 19 (by decide))
   have e20:_=_:=hP 20 (hD 20 (by decide))
   have e21:_=_:=hP 21 (hD 21 (by decide))
   have e23:_=_:=hP 23 (hD 23 (by decide))
   have hst:=hW
   rw[show D 22=true from hD 22 (by decide)] at hst
   have HST:=Lib.hid (hst.hi rfl)
   have hld:=load_T (hst.hi rfl).row
   clear hst
   have HW:=Lib.hid hW
   clear hW hP hD
   rw[puts_range [some 176,some 177,some 178,some 179,some 180,some 181,some 182,some 183,some 184,some 185,some 186,some 187,some 188,some 189,some 190,some 191,some 192,some 193,some 194,some 195,some 196,some 197,none,some 7] (by kernel_rfl)]
   simp only[putL,Nat.reduceAdd,e0,e1,e2,e3,e4,e5,e6,e7,e8,e9,e10,e11,e12,e13,e14,e15,e16,e17,e18,e19,e20,e21,e23]
   clear e0 e1 e2 e3 e4 e5 e6 e7 e8 e9 e10 e11 e12 e13 e14 e15 e16 e17 e18 e19 e20 e21 e23
   have HL2:=Lib.hid hld
   clear hld
   go_simp
   go_wp2
   exact bodyPost_ret (v:=.tuple #[vT r1,.bool true]) (results_c2 (ad:=⟨r0,0,none⟩) rfl rfl HL2.out rfl) rfl ⟨r1,_,rfl,HST.out.tb,HST.out.rf,HST.out.kp⟩
 ·have hd:=hs1 hno
  subst hd
  have q1:(no==0)=false:=by simpa using hno
  have q2:(no != 0)=true:=by simpa using hno
  have HE:=Lib.hid hZ
  clear hZ hs0 hs1 hno
  go_enter Tryz.func33,Tryz.ntmps33
  go_upto_region 23 with (first
   | (go_at_call 56;refine (refAnswer56 (F9++(r0 :: X)) s r p.cmd V2 HR9.out (HX9.out.lt HT9.out HXX.out) HS.out.1 HS.out.2 HT.out.inv.a100 HT.out.inv.k100 HT.out.inv.nda HT.out.inv.ndk).mono ?_;rw[HE.out];rintro e w10 ⟨r1,rfl,hr10,hb10⟩;dsimp only at hr10 ⊢;obtain⟨nx,W11,W14,hnx,hW11,rokn,hW14,hrn,hb14, -⟩:=row_made (ds:=cT r1) (t:=60) w10 (cT_length zT);rw[show w10.alloc (.cells (cT zT).toArray 60)=w10.alloc (.cells (aT zT) 60) from rfl] at hW11;rw[show W11.setRow nx (cT r1).toArray=W11.setRow nx (aT r1) from rfl] at hW14;have hb:=Below.step hb10 hb14;have HX14:=Lib.hid (HX9.out.keep hb);have HT14:=Lib.hid (HT9.out.keep hb);have HR14:=Lib.hid (hr10.keep hb14);have HROW:=Lib.hid (And.intro hrn (HRD.out.keep hb));have HN:=Lib.hid (And.intro (show nx≠r0 by have:=HX9.out.rr.lt;have:=hb10.size;omega) (show db≠r0 by intro e;have:=HX8.out.rr.lt;have:=HS9.out;omega));clear hb hb10 hb14 hr10 hrn)
   | (go_at_call 16;refine (HT8.out.answer HL.out p.cmd HS.out.1).mono ?_;rintro e w9 ⟨rfl,F9,ht9,hk9⟩;rw[HE.out] at ht9 ⊢;dsimp only at ht9 ⊢;have hX9:=HX8.out.turn hk9;have hr9:=HR8.out.kp (hk9.app (r0 :: X));obtain⟨db,V1,V2,hdb,hV1,rokd,hV2,hrd,hbd, -⟩:=row_made (ds:=cC zC) (t:=32) w9 (cC_length zC);rw[show w9.alloc (.cells (cC zC).toArray 32)=w9.alloc (.cells (aC zC) 32) from rfl] at hV1;rw[show V1.setRow db (cC zC).toArray=V1.setRow db (aC zC) from rfl] at hV2;have hX9:=hX9.keep hbd;have hr9:=hr9.keep hbd;have ht9:=ht9.keep hbd;obtain⟨⟨y1,y2⟩,⟨y3,y4,y5⟩,⟨y6,y7⟩,y8,⟨y9,y10⟩,⟨y11,y12⟩⟩:=hX9.ld;have HS9:=Lib.hid (show W8.heap.size≤db by rw[← hdb];exact hk9.size);have HX9:=Lib.hid hX9;have HT9:=Lib.hid ht9;have HR9:=Lib.hid hr9;have HRD:=Lib.hid hrd;clear hk9 hX9 hr9 ht9 hrd hbd)
   | (go_at_call 14;refine (own14 p.cmd W3).mono ?_;rintro e w4 ⟨rfl,hb4⟩;obtain⟨cb,W5,W6,ib,W7,W8,hcb,hW5,rok5,hW6,hib,hW7,rok7,hW8,k1,k2,hX8,hb8⟩:=HD.out.box (F:=F) HT.out.lt hb4;obtain⟨⟨x1,x2⟩,⟨x3,x4,x5⟩,⟨x6,x7⟩,x8,⟨x9,x10⟩,⟨x11,x12⟩⟩:=hX8.ld;rw[HK.out] at x5;have HT8:=Lib.hid (HT.out.keep hb8);have HR8:=Lib.hid (HR.out.keep hb8);have HX8:=Lib.hid hX8;clear hb4 hX8 hb8))
  refine AnyO.wp_anyI (by kernel_rfl) (by kernel_rfl) (AnyO.InvG (σ:=Unit) (fun σ=>AnyO.pvL [some (vT r1),some (.int .i64 no),some (.int .i64 no),some (.bool true),some (.bool true),some (.int .i64 no),some (.bool false),some (.bool false),some (undef),some (undef),some (undef),some (.bool false),some (.bool false),some (.int .i64 no),some (.bool true),some (.bool true),some (vC zC),some (vC zC),some (.bool true),some (.bool true),some (.bool true),some (.bool true),none,some (.bool true)]) (fun _ D u=>RX (DoS w0 b s1 F F9 X r1 w r0) W14 r0 (D 22) u)) (AnyO.InvG.start (g:=()) (RX.start (below_drew _))) ?_ ?_
  ·intro i hi
   have hi2:i=0∨i=5∨i=6∨i=7∨i=8∨i=9∨i=10∨i=11∨i=12∨i=13∨i=14∨i=15∨i=16∨i=17∨i=18∨i=19∨i=20∨i=22∨i=1∨i=2∨i=3∨i=4∨i=21∨i=23:=by simp only[List.size_toArray,List.length_cons,List.length_nil] at hi;omega
   clear hi
   rcases hi2 with rfl|rfl|rfl|rfl|rfl|rfl|rfl|rfl|rfl|rfl|rfl|rfl|rfl|rfl|rfl|rfl|rfl|rfl|rfl|rfl|rfl|rfl|rfl|rfl
   ·refine AnyO.I rfl [] ?_;rintro D vs u σ Q h0 hC hp ac hb K hK
    have s21:=AnyO.sz (v:=.pointer (some ⟨nx,0,none⟩)) 21 hb
    have hf22:=AnyO.fls (hC.out 22) h0 (show AnyO.pre _ 22=[0,15,0] from by kernel_rfl) (by decide)
    have hst:=Q.out.2.lo hf22
    have lk:=Row.okw (HROW.out.1.keep hst) (cT_length r1)
    have rr1:=lk.1
    have rr2:rdA u ⟨nx,0,none⟩ 4=vT r1:=lk.2
    clear hst hf22 lk
    go_simp;exact hK _ _ (AnyO.InvG.step (g:=σ) Q.out.1 rfl Q.out.2)
   ·refine AnyO.StepI.mk rfl [4] (by kernel_rfl) ?_;rintro D vs u ⟨σ,hP,hW⟩ h0 hC hp ac hb K hK
    have s20:ac.tmps[20]?.getD undef=.int .i64 no:=by rw[hb];kernel_rfl
    have s180:=AnyO.slot 180 hb (by kernel_rfl) (hP 4 (hp 4 (by decide)))
    rw[if_pos (AnyO.wanted_some (g:=4) (t:=180) (want:=true) rfl rfl s180)]
    clear hb hp
    clear hC h0;have HPW:=Lib.hid (And.intro hP hW);clear hP hW;go_simp;exact hK _ _ (AnyO.InvG.step (g:=σ) HPW.out.1 rfl HPW.out.2)
   ·refine AnyO.StepI.mk rfl [5,4] (by kernel_rfl) ?_;rintro D vs u ⟨σ,hP,hW⟩ h0 hC hp ac hb K hK
    have s181:=AnyO.slot 181 hb (by kernel_rfl) (hP 5 (hp 5 (by decide)))
    have s180:=AnyO.slot 180 hb (by kernel_rfl) (hP 4 (hp 4 (by decide)))
    rw[if_pos (AnyO.wanted_some (g:=4) (t:=180) (want:=true) rfl rfl s180)]
    clear hb hp
    clear hC h0;have HPW:=Lib.hid (And.intro hP hW);clear hP hW;go_simp;exact hK _ _ (AnyO.InvG.step (g:=σ) HPW.out.1 rfl HPW.out.2)
   ·refine AnyO.StepI.mk rfl [6,4,4] (by kernel_rfl) ?_;rintro D vs u ⟨σ,hP,hW⟩ h0 hC hp ac hb K hK
    have s182:=AnyO.slot 182 hb (by kernel_rfl) (hP 6 (hp 6 (by decide)))
    have s180:=AnyO.slot 180 hb (by kernel_rfl) (hP 4 (hp 4 (by decide)))
    rw[if_pos (AnyO.wanted_some (g:=4) (t:=180) (want:=true) rfl rfl s180)]
    clear hb hp
    clear hC h0;have HPW:=Lib.hid (And.intro hP hW);clear hP hW;go_simp;exact hK _ _ (AnyO.InvG.step (g:=σ) HPW.out.1 rfl HPW.out.2)
   ·refine AnyO.StepI.mk rfl [7] (by kernel_rfl) ?_;rintro D vs u ⟨σ,hP,hW⟩ h0 hC hp ac hb K hK
    have s19:ac.tmps[19]?.getD undef=.pointer (some ⟨db,0,none⟩):=by rw[hb];kernel_rfl
    have s183:=AnyO.slot 183 hb (by kernel_rfl) (hP 7 (hp 7 (by decide)))
    rw[if_neg (AnyO.wanted_not (g:=7) (t:=183) (want:=true) rfl rfl s183 (fun e=>by cases e))]
    exact hK undef _ (AnyO.InvG.step (g:=σ) hP rfl hW)
   ·refine AnyO.StepI.mk rfl [7] (by kernel_rfl) ?_;rintro D vs u ⟨σ,hP,hW⟩ h0 hC hp ac hb K hK
    have s8:ac.tmps[8]?.getD undef=.pointer (some ⟨cb,0,none⟩):=by rw[hb];kernel_rfl
    have s183:=AnyO.slot 183 hb (by kernel_rfl) (hP 7 (hp 7 (by decide)))
    rw[if_neg (AnyO.wanted_not (g:=7) (t:=183) (want:=true) rfl rfl s183 (fun e=>by cases e))]
    exact hK undef _ (AnyO.InvG.step (g:=σ) hP rfl hW)
   ·refine AnyO.StepI.mk rfl [8,9,7] (by kernel_rfl) ?_;rintro D vs u ⟨σ,hP,hW⟩ h0 hC hp ac hb K hK
    have s184:=AnyO.slot 184 hb (by kernel_rfl) (hP 8 (hp 8 (by decide)))
    have s185:=AnyO.slot 185 hb (by kernel_rfl) (hP 9 (hp 9 (by decide)))
    have s183:=AnyO.slot 183 hb (by kernel_rfl) (hP 7 (hp 7 (by decide)))
    rw[if_neg (AnyO.wanted_not (g:=7) (t:=183) (want:=true) rfl rfl s183 (fun e=>by cases e))]
    exact hK undef _ (AnyO.InvG.step (g:=σ) hP rfl hW)
   ·refine AnyO.StepI.mk rfl [7,10,4] (by kernel_rfl) ?_;rintro D vs u ⟨σ,hP,hW⟩ h0 hC hp ac hb K hK
    have s183:=AnyO.slot 183 hb (by kernel_rfl) (hP 7 (hp 7 (by decide)))
    have s186:=AnyO.slot 186 hb (by kernel_rfl) (hP 10 (hp 10 (by decide)))
    have s180:=AnyO.slot 180 hb (by kernel_rfl) (hP 4 (hp 4 (by decide)))
    rw[if_pos (AnyO.wanted_some (g:=4) (t:=180) (want:=true) rfl rfl s180)]
    clear hb hp
    clear hC h0;have HPW:=Lib.hid (And.intro hP hW);clear hP hW;go_simp;exact hK _ _ (AnyO.InvG.step (g:=σ) HPW.out.1 rfl HPW.out.2)
   ·refine AnyO.StepI.mk rfl [11,7,4] (by kernel_rfl) ?_;rintro D vs u ⟨σ,hP,hW⟩ h0 hC hp ac hb K hK
    have s187:=AnyO.slot 187 hb (by kernel_rfl) (hP 11 (hp 11 (by decide)))
    have s180:=AnyO.slot 180 hb (by kernel_rfl) (hP 4 (hp 4 (by decide)))
    rw[if_pos (AnyO.wanted_some (g:=4) (t:=180) (want:=true) rfl rfl s180)]
    clear hb hp
    clear hC h0;have HPW:=Lib.hid (And.intro hP hW);clear hP hW;go_simp;exact hK _ _ (AnyO.InvG.step (g:=σ) HPW.out.1 rfl HPW.out.2)
   ·refine AnyO.StepI.mk rfl [12] (by kernel_rfl) ?_;rintro D vs u ⟨σ,hP,hW⟩ h0 hC hp ac hb K hK
    have s20:ac.tmps[20]?.getD undef=.int .i64 no:=by rw[hb];kernel_rfl
    have s188:=AnyO.slot 188 hb (by kernel_rfl) (hP 12 (hp 12 (by decide)))
    rw[if_pos (AnyO.wanted_some (g:=12) (t:=188) (want:=false) rfl rfl s188)]
    clear hb hp
    clear hC h0;have HPW:=Lib.hid (And.intro hP hW);clear hP hW;go_simp;exact hK _ _ (AnyO.InvG.step (g:=σ) HPW.out.1 rfl HPW.out.2)
   ·refine AnyO.StepI.mk rfl [13,12] (by kernel_rfl) ?_;rintro D vs u ⟨σ,hP,hW⟩ h0 hC hp ac hb K hK
    have s189:=AnyO.slot 189 hb (by kernel_rfl) (hP 13 (hp 13 (by decide)))
    have s188:=AnyO.slot 188 hb (by kernel_rfl) (hP 12 (hp 12 (by decide)))
    rw[if_pos (AnyO.wanted_some (g:=12) (t:=188) (want:=false) rfl rfl s188)]
    clear hb hp
    clear hC h0;have HPW:=Lib.hid (And.intro hP hW);clear hP hW;go_simp;exact hK _ _ (AnyO.InvG.step (g:=σ) HPW.out.1 rfl HPW.out.2)
   ·refine AnyO.StepI.mk rfl [14,12,12] (by kernel_rfl) ?_;rintro D vs u ⟨σ,hP,hW⟩ h0 hC hp ac hb K hK
    have s190:=AnyO.slot 190 hb (by kernel_rfl) (hP 14 (hp 14 (by decide)))
    have s188:=AnyO.slot 188 hb (by kernel_rfl) (hP 12 (hp 12 (by decide)))
    rw[if_pos (AnyO.wanted_some (g:=12) (t:=188) (want:=false) rfl rfl s188)]
    clear hb hp
    clear hC h0;have HPW:=Lib.hid (And.intro hP hW);clear hP hW;go_simp;exact hK _ _ (AnyO.InvG.step (g:=σ) HPW.out.1 rfl HPW.out.2)
   ·refine AnyO.StepI.mk rfl [15] (by kernel_rfl) ?_;rintro D vs u ⟨σ,hP,hW⟩ h0 hC hp ac hb K hK
    have s19:ac.tmps[19]?.getD undef=.pointer (some ⟨db,0,none⟩):=by rw[hb];kernel_rfl
    have s191:=AnyO.slot 191 hb (by kernel_rfl) (hP 15 (hp 15 (by decide)))
    rw[if_pos (AnyO.wanted_some (g:=15) (t:=191) (want:=true) rfl rfl s191)]
    clear hb hp
    have lk:=Row.okw (hW.row HROW.out.2 HN.out.2) (cC_length (zC))
    have rr1:=lk.1
    have rr2:rdA u ⟨db,0,none⟩ 39=vC (zC):=lk.2
    clear lk
    clear hC h0;have HPW:=Lib.hid (And.intro hP hW);clear hP hW;go_simp;exact hK _ _ (AnyO.InvG.step (g:=σ) HPW.out.1 rfl HPW.out.2)
   ·refine AnyO.StepI.mk rfl [15] (by kernel_rfl) ?_;rintro D vs u ⟨σ,hP,hW⟩ h0 hC hp ac hb K hK
    have s191:=AnyO.slot 191 hb (by kernel_rfl) (hP 15 (hp 15 (by decide)))
    rw[if_pos (AnyO.wanted_some (g:=15) (t:=191) (want:=true) rfl rfl s191)]
    clear hb hp
    clear hC h0;have HPW:=Lib.hid (And.intro hP hW);clear hP hW;go_simp;exact hK _ _ (AnyO.InvG.step (g:=σ) HPW.out.1 rfl HPW.out.2)
   ·refine AnyO.StepI.mk rfl [16,17,15] (by kernel_rfl) ?_;rintro D vs u ⟨σ,hP,hW⟩ h0 hC hp ac hb K hK
    have s192:=AnyO.slot 192 hb (by kernel_rfl) (hP 16 (hp 16 (by decide)))
    have s193:=AnyO.slot 193 hb (by kernel_rfl) (hP 17 (hp 17 (by decide)))
    have s191:=AnyO.slot 191 hb (by kernel_rfl) (hP 15 (hp 15 (by decide)))
    rw[if_pos (AnyO.wanted_some (g:=15) (t:=191) (want:=true) rfl rfl s191)]
    clear hb hp
    clear hC h0;have HPW:=Lib.hid (And.intro hP hW);clear hP hW;go_simp;exact hK _ _ (AnyO.InvG.step (g:=σ) HPW.out.1 rfl HPW.out.2)
   ·refine AnyO.StepI.mk rfl [15,18,12] (by kernel_rfl) ?_;rintro D vs u ⟨σ,hP,hW⟩ h0 hC hp ac hb K hK
    have s191:=AnyO.slot 191 hb (by kernel_rfl) (hP 15 (hp 15 (by decide)))
    have s194:=AnyO.slot 194 hb (by kernel_rfl) (hP 18 (hp 18 (by decide)))
    have s188:=AnyO.slot 188 hb (by kernel_rfl) (hP 12 (hp 12 (by decide)))
    rw[if_pos (AnyO.wanted_some (g:=12) (t:=188) (want:=false) rfl rfl s188)]
    clear hb hp
    clear hC h0;have HPW:=Lib.hid (And.intro hP hW);clear hP hW;go_simp;exact hK _ _ (AnyO.InvG.step (g:=σ) HPW.out.1 rfl HPW.out.2)
   ·refine AnyO.StepI.mk rfl [12,19,4] (by kernel_rfl) ?_;rintro D vs u ⟨σ,hP,hW⟩ h0 hC hp ac hb K hK
    have s188:=AnyO.slot 188 hb (by kernel_rfl) (hP 12 (hp 12 (by decide)))
    have s195:=AnyO.slot 195 hb (by kernel_rfl) (hP 19 (hp 19 (by decide)))
    have s180:=AnyO.slot 180 hb (by kernel_rfl) (hP 4 (hp 4 (by decide)))
    rw[if_pos (AnyO.wanted_some (g:=4) (t:=180) (want:=true) rfl rfl s180)]
    clear hb hp
    clear hC h0;have HPW:=Lib.hid (And.intro hP hW);clear hP hW;go_simp;exact hK _ _ (AnyO.InvG.step (g:=σ) HPW.out.1 rfl HPW.out.2)
   ·refine AnyO.I rfl [0,15,0] ?_;rintro D vs u σ Q h0 hC hp ac hb K hK
    have s6:=AnyO.sz (v:=.pointer (some ⟨r0,0,none⟩)) 6 hb
    have s176:_=_:=AnyO.sv 176 0 hb hp Q
    have hst:=Q.out.2
    rw[show D 22=false from h0] at hst
    have SS:=hst.stored HX14.out HW0.out HT14.out HR14.out
    have ro:=SS.1
    have RP:=Lib.hid SS.2
    clear hst SS
    go_simp
    exact hK undef _ (AnyO.InvG.step (g:=σ) Q.out.1 trivial RP.out)
   all_goals
    refine AnyO.J rfl ?_;rintro D vs u σ Q h0 hC hp ac hb K hK
    try have s20:ac.tmps[20]?.getD undef=.int .i64 no:=by rw[hb.out];kernel_rfl
    try have s22:ac.tmps[22]?.getD undef=.int .i64 no:=by rw[hb.out];kernel_rfl
    try have s177:_=_:=AnyO.sv 177 1 hb hp Q
    try have s178:_=_:=AnyO.sv 178 2 hb hp Q
    try have s179:_=_:=AnyO.sv 179 3 hb hp Q
    try have s180:_=_:=AnyO.sv 180 4 hb hp Q
    try have s196:_=_:=AnyO.sv 196 20 hb hp Q
    try have s197:_=_:=AnyO.sv 197 21 hb hp Q
    go_simp
    exact hK _ _ (AnyO.InvG.step (g:=σ) Q.out.1 rfl Q.out.2)
  ·intro D vs u hI hD
   obtain⟨σ,hP,hW⟩:=hI
   have e0:_=_:=hP 0 (hD 0 (by decide))
   have e1:_=_:=hP 1 (hD 1 (by decide))
   have e2:_=_:=hP 2 (hD 2 (by decide))
   have e3:_=_:=hP 3 (hD 3 (by decide))
   have e4:_=_:=hP 4 (hD 4 (by decide))
   have e5:_=_:=hP 5 (hD 5 (by decide))
   have e6:_=_:=hP 6 (hD 6 (by decide))
   have e7:_=_:=hP 7 (hD 7 (by decide))
   have e8:_=_:=hP 8 (hD 8 (by decide))
   have e9:_=_:=hP 9 (hD 9 (by decide))
   have e10:_=_:=hP 10 (hD 10 (by decide))
   have e11:_=_:=hP 11 (hD 11 (by decide))
   have e12:_=_:=hP 12 (hD 12 (by decide))
   have e13:_=_:=hP 13 (hD 13 (by decide))
   have e14:_=_:=hP 14 (hD 14 (by decide))
   have e15:_=_:=hP 15 (hD 15 (by decide))
   have e16:_=_:=hP 16 (hD 16 (by decide))
   have e17:_=_:=hP 17 (hD 17 (by decide))
   have e18:_=_:=hP 18 (hD 18 (by decide))
   have e19:_=_:=hP 19 (hD 19 (by decide))
   have e20:_=_:=hP 20 (hD 20 (by decide))
   have e21:_=_:=hP 21 (hD 21 (by decide))
   have e23:_=_:=hP 23 (hD 23 (by decide))
   have hst:=hW
   rw[show D 22=true from hD 22 (by decide)] at hst
   have HST:=Lib.hid (hst.hi rfl)
   have hld:=load_T (hst.hi rfl).row
   clear hst
   have HW:=Lib.hid hW
   clear hW hP hD
   rw[puts_range [some 176,some 177,some 178,some 179,some 180,some 181,some 182,some 183,some 184,some 185,some 186,some 187,some 188,some 189,some 190,some 191,some 192,some 193,some 194,some 195,some 196,some 197,none,some 7] (by kernel_rfl)]
   simp only[putL,Nat.reduceAdd,e0,e1,e2,e3,e4,e5,e6,e7,e8,e9,e10,e11,e12,e13,e14,e15,e16,e17,e18,e19,e20,e21,e23]
   clear e0 e1 e2 e3 e4 e5 e6 e7 e8 e9 e10 e11 e12 e13 e14 e15 e16 e17 e18 e19 e20 e21 e23
   have HL2:=Lib.hid hld
   clear hld
   go_simp
   go_wp2
   exact bodyPost_ret (v:=.tuple #[vT r1,.bool true]) (results_c2 (ad:=⟨r0,0,none⟩) rfl rfl HL2.out rfl) rfl ⟨r1,_,rfl,HST.out.tb,HST.out.rf,HST.out.kp⟩
end Go.Proofs.YtgojaelkdpabkaaGreatDoor
