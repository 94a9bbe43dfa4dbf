/- bulletinlaw34.do: Hear. -/
import Derived.Test.YtgojaelkdpabkaaGreatDoorMDy
namespace Go.Proofs.YtgojaelkdpabkaaGreatDoor
open Go.RowKit
theorem At.qn {w:World} {ad:Addr} {x:Qn} (h:At w ad (cQn x)):(okA w ad 32=true∧rdA w ad 32=vI x.1)∧w.cell? ⟨ad.block,ad.off+32,none⟩=some (.int .i64 x.2.1)∧w.cell? ⟨ad.block,ad.off+33,none⟩=some (.int .i64 x.2.2):=by
 have h0:At w ad (cI x.1):=⟨h.1,fun j u hj=>h.2 j u (by
  have hl:=(List.getElem?_eq_some_iff.1 hj).1
  unfold cQn
  rw[List.getElem?_append_left hl]
  exact hj)⟩
 exact⟨h0.idv,h.2 32 _ (cQn_hi x 0),h.2 33 _ (cQn_hi x 1)⟩
theorem At.tx {w:World} {ad:Addr} {x:Txt} (h:At w ad (cTx x)):(okA w ad 32=true∧rdA w ad 32=vI x.1)∧w.cell? ⟨ad.block,ad.off+32,none⟩=some (.string x.2):=by
 have h0:At w ad (cI x.1):=⟨h.1,fun j u hj=>h.2 j u (by
  have hl:=(List.getElem?_eq_some_iff.1 hj).1
  unfold cTx
  rw[List.getElem?_append_left hl]
  exact hj)⟩
 exact⟨h0.idv,h.2 32 _ (cTx_hi x 0)⟩
theorem hear_len (s:Tk) (c:Cm):(hearT s c).2.1.length≤1∧(hearT s c).2.2.1.length≤1:=by
 unfold hearT
 split
 ·exact⟨by simp,by simp⟩
 split
 ·exact⟨by simp,by simp⟩
 split
 ·refine⟨?_,by simp⟩
  show (offerT s c).2.1.length≤1
  unfold offerT
  split
  ·simp
  ·split <;> simp
 split
 ·exact⟨by simp,by simp⟩
 split
 ·refine⟨by simp,?_⟩
  show (doneT s c).2.1.length≤1
  unfold doneT
  split
  ·simp
  ·split <;> simp
 ·exact⟨by simp,by simp⟩
theorem Sl.ad {α:Type} {w:World} {enc:α→List Value} {A:Option Addr} {xs:List α} (h:Sl w enc A xs) (hn:xs≠[]):∃ ad,A=some ad:=by
 obtain⟨ad,e, -⟩:=h hn
 exact⟨ad,e⟩
set_option maxRecDepth 100000 in
set_option maxHeartbeats 3200000 in
theorem do_hear (w0:World) (b:Nat) (s:Tk) (F:List Nat) (r:Rt) (p:Opn) (w:World) (hL:Laid w0) (ht:TkB w0 b s F w) (X:List Nat) (hX:∀ k∈X,k<w.heap.size) (hr:RfAt (F++X) s r w) (hs:p.cmd.text.size≤200∧p.cmd.name.size≤100) (hk:p.kind=0) :
  Calls Tryz.prog 33 #[.pointer (some ⟨b,0,none⟩),vT r,vO p] w (DoP w0 b ((hearT s p.cmd).1) F X w):=by
 obtain⟨g,W1,o,W2,r0,W3,hg,hW1,ho,hW2,hr0,hW3,hD⟩:=Dx0.new r p w
 obtain⟨d1,d2,d3⟩:=hD.ro.opC
 have HR:=Lib.hid (show RfAt (F++(r0 :: X)) s r w from hr.new _ fun k hk=>by
  rcases List.mem_append.1 hk with hk|hk
  ·exact Or.inl (List.mem_append_left _ hk)
  ·rcases List.mem_cons.1 hk with rfl|hk
   ·exact Or.inr hD.lr
   ·exact Or.inl (List.mem_append_right _ hk))
 have HXX:=Lib.hid hX
 have HD:=Lib.hid hD
 have HT:=Lib.hid ht
 have HW0:=Lib.hid (show w0.heap.size≤w.heap.size from ht.bel.size)
 have HS:=Lib.hid (show p.cmd.name.size≤1000000∧p.cmd.text.size≤1000000 from ⟨by omega,by omega⟩)
 have HL:=Lib.hid hL
 clear hD hr ht hs hL hX
 have HK:=Lib.hid hk
 clear hk
 have htx:=hearR_txt s p.cmd
 have hln:=hear_len s p.cmd
 obtain⟨pr,hpr⟩:∃ pr,hearR s p.cmd=pr:=⟨_,rfl⟩
 have HRR:=Lib.hid hpr
 obtain⟨Z,hZ⟩:∃ Z,hearT s p.cmd=Z:=⟨_,rfl⟩
 rw[hZ] at htx hln ⊢
 rw[hpr] at htx
 obtain⟨s1,qs,ts,no⟩:=Z
 dsimp only at htx hln ⊢
 have HE:=Lib.hid hZ
 have HTX:=Lib.hid htx
 clear hZ hpr
 obtain⟨nq,hnq⟩:∃ nq,qs.length=nq:=⟨_,rfl⟩
 obtain⟨nt,hnt⟩:∃ nt,ts.length=nt:=⟨_,rfl⟩
 have hnq1:nq≤1:=by omega
 have hnt1:nt≤1:=by omega
 have HNQ:=Lib.hid hnq
 have HNT:=Lib.hid hnt
 have HNP:=Lib.hid (show pr.length=nt by rw[← hnt,← htx,List.length_map])
 clear hnq hnt htx hln
 rcases qs with _|⟨q0,qr⟩ <;> rcases ts with _|⟨t0,tr⟩
 ·go_enter Tryz.func33,Tryz.ntmps33
  go_wp2_with (first
   | (go_at_call 55;refine (refHear55 (F9++(r0 :: X)) s r p.cmd w9 HR9.out (HX9.out.lt HT9.out HXX.out) HS.out.1 HS.out.2 HT.out.inv.a100 HT.out.inv.k100 HT.out.inv.ndk HT.out.inv.bz).mono ?_;rw[HE.out];rintro e w10 ⟨r1,⟨pa,pn,pc⟩,⟨ma,mn,mc⟩,rfl,hr10,hq10,hl10,hb10⟩;dsimp only at hr10 hq10 hl10 ⊢;have eq10:=hq10.1;have el10:=hl10.1;dsimp only at eq10 el10;rw[HNQ.out] at eq10;rw[HRR.out,HNP.out] at el10;subst eq10;subst el10;have sq10:=hq10.2.2.1;have sl10:=hl10.2.2.1;rw[HRR.out] at sl10;dsimp only at sq10 sl10;obtain⟨nx,W11,W14,hnx,hW11,rokn,hW14,hrn,hb14, -⟩:=row_made (ds:=cT r1) (t:=60) w10 (cT_length zT);rw[show w10.alloc (.cells (cT zT).toArray 60)=w10.alloc (.cells (aT zT) 60) from rfl] at hW11;rw[show W11.setRow nx (cT r1).toArray=W11.setRow nx (aT r1) from rfl] at hW14;have hb:=Below.step hb10 hb14;have HX14:=Lib.hid (HX9.out.keep hb);have HT14:=Lib.hid (HT9.out.keep hb);have HR14:=Lib.hid (hr10.keep hb14);have HROW:=Lib.hid hrn;have HQ14:=Lib.hid (And.intro (HQ9.out.1.keep hb) (And.intro (sq10.keep hb14) (And.intro (HQ9.out.2.keep hb) (sl10.keep hb14))));clear hb hb10 hb14 hr10 hrn hq10 hl10 sq10 sl10)
   | (go_at_call 15;refine (HT8.out.hear HL.out p.cmd HS.out.1 HS.out.2).mono ?_;rintro e w9 ⟨⟨qa,qn,qc⟩,⟨la,ln,lc⟩,rfl,F9,ht9,hk9,hq9,hl9⟩;rw[HE.out] at ht9 hq9 hl9 ⊢;dsimp only at ht9 hq9 hl9 ⊢;have eq9:=hq9.1;have el9:=hl9.1;dsimp only at eq9 el9;rw[HNQ.out] at eq9;rw[HNT.out] at el9;subst eq9;subst el9;have sq9:=hq9.2.2.1;have sl9:=hl9.2.2.1;dsimp only at sq9 sl9;have hX9:=HX8.out.turn hk9;have hr9:=HR8.out.kp (hk9.app (r0 :: X));obtain⟨⟨y1,y2⟩,⟨y3,y4,y5⟩,⟨y6,y7⟩,y8,⟨y9,y10⟩,⟨y11,y12⟩⟩:=hX9.ld;have HX9:=Lib.hid hX9;have HT9:=Lib.hid ht9;have HR9:=Lib.hid hr9;have HQ9:=Lib.hid (And.intro sq9 sl9);clear hk9 hX9 hr9 ht9 hq9 hl9 sq9 sl9)
   | (go_at_call 14;refine (own14 p.cmd W3).mono ?_;rintro e w4 ⟨rfl,hb4⟩;obtain⟨cb,W5,W6,ib,W7,W8,hcb,hW5,rok5,hW6,hib,hW7,rok7,hW8,k1,k2,hX8,hb8⟩:=HD.out.box (F:=F) HT.out.lt hb4;obtain⟨⟨x1,x2⟩,⟨x3,x4,x5⟩,⟨x6,x7⟩,x8,⟨x9,x10⟩,⟨x11,x12⟩⟩:=hX8.ld;rw[HK.out] at x5;have HT8:=Lib.hid (HT.out.keep hb8);have HR8:=Lib.hid (HR.out.keep hb8);have HX8:=Lib.hid hX8;clear hb4 hX8 hb8))
  go_loopw [17] (fun i wr=>∃ k:Nat,i=.int .i64 k∧k≤nq∧Below W14.heap.size W14 wr) (fun i _=>nq+1 - (intOf i).toNat)
  case atStart=>exact⟨0,rfl,Nat.zero_le _,Below.refl _ _⟩
  case round =>
   obtain⟨k,rfl,hk,hbk⟩:=hrel
   have HBK:=Lib.hid hbk
   clear hbk
   by_cases hlt:k<nq
   ·exfalso
    have:=HNQ.out
    simp at this
    omega
   ·have hlt1:¬ (k:Int)<(nq:Int):=by omega
    go_wp2
    go_loopw [18] (fun i wr2=>∃ k:Nat,i=.int .i64 k∧k≤nt∧Below W14.heap.size W14 wr2) (fun i _=>nt+1 - (intOf i).toNat)
    case atStart=>exact⟨0,rfl,Nat.zero_le _,HBK.out⟩
    case round =>
     obtain⟨j,rfl,hj,hbj⟩:=hrel
     have HBJ:=Lib.hid hbj
     clear hbj
     by_cases hlj:j<nt
     ·exfalso
      have:=HNT.out
      simp at this
      omega
     ·have hlj1:¬ (j:Int)<(nt:Int):=by omega
      have lk:=Row.okw (HROW.out.keep HBJ.out) (cT_length r1)
      have n1:=lk.1
      have n2:rdA wr ⟨nx,0,none⟩ 4=vT r1:=lk.2
      have DN:=(HX14.out.keep HBJ.out).done HW0.out (HT14.out.keep HBJ.out) (HR14.out.keep HBJ.out)
      have rok0:=DN.1
      have HDN:=Lib.hid DN.2
      clear lk DN
      go_wp2
      exact bodyPost_ret (v:=.tuple #[vT r1,.bool true]) (results_c2 (ad:=⟨r0,0,none⟩) rfl rfl (ld_setRowT _ rok0) rfl) rfl ⟨r1,_,rfl,HDN.out.tb,HDN.out.rf,HDN.out.kp⟩
 ·have hpne:pr≠[]:=by intro e;have:=HTX.out;rw[e] at this;cases this
  go_enter Tryz.func33,Tryz.ntmps33
  go_wp2_with (first
   | (go_at_call 55;refine (refHear55 (F9++(r0 :: X)) s r p.cmd w9 HR9.out (HX9.out.lt HT9.out HXX.out) HS.out.1 HS.out.2 HT.out.inv.a100 HT.out.inv.k100 HT.out.inv.ndk HT.out.inv.bz).mono ?_;rw[HE.out];rintro e w10 ⟨r1,⟨pa,pn,pc⟩,⟨ma,mn,mc⟩,rfl,hr10,hq10,hl10,hb10⟩;dsimp only at hr10 hq10 hl10 ⊢;have eq10:=hq10.1;have el10:=hl10.1;dsimp only at eq10 el10;rw[HNQ.out] at eq10;rw[HRR.out,HNP.out] at el10;subst eq10;subst el10;have sq10:=hq10.2.2.1;have sl10:=hl10.2.2.1;rw[HRR.out] at sl10;dsimp only at sq10 sl10;obtain⟨pl,rfl⟩:=Sl.ad sl10 hpne;obtain⟨nx,W11,W14,hnx,hW11,rokn,hW14,hrn,hb14, -⟩:=row_made (ds:=cT r1) (t:=60) w10 (cT_length zT);rw[show w10.alloc (.cells (cT zT).toArray 60)=w10.alloc (.cells (aT zT) 60) from rfl] at hW11;rw[show W11.setRow nx (cT r1).toArray=W11.setRow nx (aT r1) from rfl] at hW14;have hb:=Below.step hb10 hb14;have HX14:=Lib.hid (HX9.out.keep hb);have HT14:=Lib.hid (HT9.out.keep hb);have HR14:=Lib.hid (hr10.keep hb14);have HROW:=Lib.hid hrn;have HQ14:=Lib.hid (And.intro (HQ9.out.1.keep hb) (And.intro (sq10.keep hb14) (And.intro (HQ9.out.2.keep hb) (sl10.keep hb14))));clear hb hb10 hb14 hr10 hrn hq10 hl10 sq10 sl10)
   | (go_at_call 15;refine (HT8.out.hear HL.out p.cmd HS.out.1 HS.out.2).mono ?_;rintro e w9 ⟨⟨qa,qn,qc⟩,⟨la,ln,lc⟩,rfl,F9,ht9,hk9,hq9,hl9⟩;rw[HE.out] at ht9 hq9 hl9 ⊢;dsimp only at ht9 hq9 hl9 ⊢;have eq9:=hq9.1;have el9:=hl9.1;dsimp only at eq9 el9;rw[HNQ.out] at eq9;rw[HNT.out] at el9;subst eq9;subst el9;have sq9:=hq9.2.2.1;have sl9:=hl9.2.2.1;dsimp only at sq9 sl9;obtain⟨al,rfl⟩:=Sl.ad sl9 (by simp);have hX9:=HX8.out.turn hk9;have hr9:=HR8.out.kp (hk9.app (r0 :: X));obtain⟨⟨y1,y2⟩,⟨y3,y4,y5⟩,⟨y6,y7⟩,y8,⟨y9,y10⟩,⟨y11,y12⟩⟩:=hX9.ld;have HX9:=Lib.hid hX9;have HT9:=Lib.hid ht9;have HR9:=Lib.hid hr9;have HQ9:=Lib.hid (And.intro sq9 sl9);clear hk9 hX9 hr9 ht9 hq9 hl9 sq9 sl9)
   | (go_at_call 14;refine (own14 p.cmd W3).mono ?_;rintro e w4 ⟨rfl,hb4⟩;obtain⟨cb,W5,W6,ib,W7,W8,hcb,hW5,rok5,hW6,hib,hW7,rok7,hW8,k1,k2,hX8,hb8⟩:=HD.out.box (F:=F) HT.out.lt hb4;obtain⟨⟨x1,x2⟩,⟨x3,x4,x5⟩,⟨x6,x7⟩,x8,⟨x9,x10⟩,⟨x11,x12⟩⟩:=hX8.ld;rw[HK.out] at x5;have HT8:=Lib.hid (HT.out.keep hb8);have HR8:=Lib.hid (HR.out.keep hb8);have HX8:=Lib.hid hX8;clear hb4 hX8 hb8))
  go_loopw [17] (fun i wr=>∃ k:Nat,i=.int .i64 k∧k≤nq∧Below W14.heap.size W14 wr) (fun i _=>nq+1 - (intOf i).toNat)
  case atStart=>exact⟨0,rfl,Nat.zero_le _,Below.refl _ _⟩
  case round =>
   obtain⟨k,rfl,hk,hbk⟩:=hrel
   have HBK:=Lib.hid hbk
   clear hbk
   by_cases hlt:k<nq
   ·exfalso
    have:=HNQ.out
    simp at this
    omega
   ·have hlt1:¬ (k:Int)<(nq:Int):=by omega
    go_wp2
    go_loopw [18] (fun i wr2=>∃ k:Nat,i=.int .i64 k∧k≤nt∧Below W14.heap.size W14 wr2) (fun i _=>nt+1 - (intOf i).toNat)
    case atStart=>exact⟨0,rfl,Nat.zero_le _,HBK.out⟩
    case round =>
     obtain⟨j,rfl,hj,hbj⟩:=hrel
     have HBJ:=Lib.hid hbj
     clear hbj
     by_cases hlj:j<nt
     ·have hlj1:(j:Int)<(nt:Int):=by omega
      have hjp:j<pr.length:=by rw[HNP.out];exact hlj
      have hjt:j<(t0 :: tr).length:=by rw[HNT.out];exact hlj
      obtain⟨a1,e1,hat1⟩:=Sl.at_ cTx_length (HQ14.out.2.2.1.keep HBJ.out) hjt
      cases e1
      obtain⟨a2,e2,hat2⟩:=Sl.at_ cA_length (HQ14.out.2.2.2.keep HBJ.out) hjp
      cases e2
      have hel:(t0 :: tr)[j]=(pr[j].id,pr[j].bytes):=by simp only[← HTX.out,List.getElem_map]
      rw[hel] at hat1
      obtain⟨xp,hxp⟩:∃ xp,pr[j]=xp:=⟨_,rfl⟩
      rw[hxp] at hat1 hat2
      obtain⟨⟨i1,i2⟩,i3⟩:=hat1.tx
      obtain⟨j1,j2⟩:=hat2.id
      have j3:=hat2.f34
      clear hat1 hat2 hxp hel
      go_wp2
      go_quiet (fail)
      generalize hU5:World.drewN _ _=U5
      have HB5:=Lib.hid (show Below W14.heap.size W14 U5 by rw[← hU5];exact Below.step HBJ.out (below_drewN _ _))
      clear hU5
      go_wp2
      go_roundw
      case rel=>exact⟨j+1,by go_num,hlj,HB5.out⟩
      case measure=>simp[intOf] <;> omega
     ·have hlj1:¬ (j:Int)<(nt:Int):=by omega
      have lk:=Row.okw (HROW.out.keep HBJ.out) (cT_length r1)
      have n1:=lk.1
      have n2:rdA wr ⟨nx,0,none⟩ 4=vT r1:=lk.2
      have DN:=(HX14.out.keep HBJ.out).done HW0.out (HT14.out.keep HBJ.out) (HR14.out.keep HBJ.out)
      have rok0:=DN.1
      have HDN:=Lib.hid DN.2
      clear lk DN
      go_wp2
      exact bodyPost_ret (v:=.tuple #[vT r1,.bool true]) (results_c2 (ad:=⟨r0,0,none⟩) rfl rfl (ld_setRowT _ rok0) rfl) rfl ⟨r1,_,rfl,HDN.out.tb,HDN.out.rf,HDN.out.kp⟩
 ·go_enter Tryz.func33,Tryz.ntmps33
  go_wp2_with (first
   | (go_at_call 55;refine (refHear55 (F9++(r0 :: X)) s r p.cmd w9 HR9.out (HX9.out.lt HT9.out HXX.out) HS.out.1 HS.out.2 HT.out.inv.a100 HT.out.inv.k100 HT.out.inv.ndk HT.out.inv.bz).mono ?_;rw[HE.out];rintro e w10 ⟨r1,⟨pa,pn,pc⟩,⟨ma,mn,mc⟩,rfl,hr10,hq10,hl10,hb10⟩;dsimp only at hr10 hq10 hl10 ⊢;have eq10:=hq10.1;have el10:=hl10.1;dsimp only at eq10 el10;rw[HNQ.out] at eq10;rw[HRR.out,HNP.out] at el10;subst eq10;subst el10;have sq10:=hq10.2.2.1;have sl10:=hl10.2.2.1;rw[HRR.out] at sl10;dsimp only at sq10 sl10;obtain⟨pq,rfl⟩:=Sl.ad sq10 (by simp);obtain⟨nx,W11,W14,hnx,hW11,rokn,hW14,hrn,hb14, -⟩:=row_made (ds:=cT r1) (t:=60) w10 (cT_length zT);rw[show w10.alloc (.cells (cT zT).toArray 60)=w10.alloc (.cells (aT zT) 60) from rfl] at hW11;rw[show W11.setRow nx (cT r1).toArray=W11.setRow nx (aT r1) from rfl] at hW14;have hb:=Below.step hb10 hb14;have HX14:=Lib.hid (HX9.out.keep hb);have HT14:=Lib.hid (HT9.out.keep hb);have HR14:=Lib.hid (hr10.keep hb14);have HROW:=Lib.hid hrn;have HQ14:=Lib.hid (And.intro (HQ9.out.1.keep hb) (And.intro (sq10.keep hb14) (And.intro (HQ9.out.2.keep hb) (sl10.keep hb14))));clear hb hb10 hb14 hr10 hrn hq10 hl10 sq10 sl10)
   | (go_at_call 15;refine (HT8.out.hear HL.out p.cmd HS.out.1 HS.out.2).mono ?_;rintro e w9 ⟨⟨qa,qn,qc⟩,⟨la,ln,lc⟩,rfl,F9,ht9,hk9,hq9,hl9⟩;rw[HE.out] at ht9 hq9 hl9 ⊢;dsimp only at ht9 hq9 hl9 ⊢;have eq9:=hq9.1;have el9:=hl9.1;dsimp only at eq9 el9;rw[HNQ.out] at eq9;rw[HNT.out] at el9;subst eq9;subst el9;have sq9:=hq9.2.2.1;have sl9:=hl9.2.2.1;dsimp only at sq9 sl9;obtain⟨aq,rfl⟩:=Sl.ad sq9 (by simp);have hX9:=HX8.out.turn hk9;have hr9:=HR8.out.kp (hk9.app (r0 :: X));obtain⟨⟨y1,y2⟩,⟨y3,y4,y5⟩,⟨y6,y7⟩,y8,⟨y9,y10⟩,⟨y11,y12⟩⟩:=hX9.ld;have HX9:=Lib.hid hX9;have HT9:=Lib.hid ht9;have HR9:=Lib.hid hr9;have HQ9:=Lib.hid (And.intro sq9 sl9);clear hk9 hX9 hr9 ht9 hq9 hl9 sq9 sl9)
   | (go_at_call 14;refine (own14 p.cmd W3).mono ?_;rintro e w4 ⟨rfl,hb4⟩;obtain⟨cb,W5,W6,ib,W7,W8,hcb,hW5,rok5,hW6,hib,hW7,rok7,hW8,k1,k2,hX8,hb8⟩:=HD.out.box (F:=F) HT.out.lt hb4;obtain⟨⟨x1,x2⟩,⟨x3,x4,x5⟩,⟨x6,x7⟩,x8,⟨x9,x10⟩,⟨x11,x12⟩⟩:=hX8.ld;rw[HK.out] at x5;have HT8:=Lib.hid (HT.out.keep hb8);have HR8:=Lib.hid (HR.out.keep hb8);have HX8:=Lib.hid hX8;clear hb4 hX8 hb8))
  go_loopw [17] (fun i wr=>∃ k:Nat,i=.int .i64 k∧k≤nq∧Below W14.heap.size W14 wr) (fun i _=>nq+1 - (intOf i).toNat)
  case atStart=>exact⟨0,rfl,Nat.zero_le _,Below.refl _ _⟩
  case round =>
   obtain⟨k,rfl,hk,hbk⟩:=hrel
   have HBK:=Lib.hid hbk
   clear hbk
   by_cases hlt:k<nq
   ·have hlt1:(k:Int)<(nq:Int):=by omega
    have hkq:k<(q0 :: qr).length:=by rw[HNQ.out];exact hlt
    obtain⟨a1,e1,hat1⟩:=Sl.at_ cQn_length (HQ14.out.1.keep HBK.out) hkq
    cases e1
    obtain⟨a2,e2,hat2⟩:=Sl.at_ cQn_length (HQ14.out.2.1.keep HBK.out) hkq
    cases e2
    obtain⟨xq,hxq⟩:∃ xq,(q0 :: qr)[k]=xq:=⟨_,rfl⟩
    rw[hxq] at hat1 hat2
    obtain⟨⟨i1,i2⟩,i3,i4⟩:=hat1.qn
    obtain⟨⟨j1,j2⟩,j3,j4⟩:=hat2.qn
    clear hat1 hat2 hxq
    go_wp2
    go_quiet (fail)
    generalize hU5:World.drewN _ _=U5
    have HB5:=Lib.hid (show Below W14.heap.size W14 U5 by rw[← hU5];exact Below.step HBK.out (below_drewN _ _))
    clear hU5
    go_wp2
    go_roundw
    case rel=>exact⟨k+1,by go_num,hlt,HB5.out⟩
    case measure=>simp[intOf] <;> omega
   ·have hlt1:¬ (k:Int)<(nq:Int):=by omega
    go_wp2
    go_loopw [18] (fun i wr2=>∃ k:Nat,i=.int .i64 k∧k≤nt∧Below W14.heap.size W14 wr2) (fun i _=>nt+1 - (intOf i).toNat)
    case atStart=>exact⟨0,rfl,Nat.zero_le _,HBK.out⟩
    case round =>
     obtain⟨j,rfl,hj,hbj⟩:=hrel
     have HBJ:=Lib.hid hbj
     clear hbj
     by_cases hlj:j<nt
     ·exfalso
      have:=HNT.out
      simp at this
      omega
     ·have hlj1:¬ (j:Int)<(nt:Int):=by omega
      have lk:=Row.okw (HROW.out.keep HBJ.out) (cT_length r1)
      have n1:=lk.1
      have n2:rdA wr ⟨nx,0,none⟩ 4=vT r1:=lk.2
      have DN:=(HX14.out.keep HBJ.out).done HW0.out (HT14.out.keep HBJ.out) (HR14.out.keep HBJ.out)
      have rok0:=DN.1
      have HDN:=Lib.hid DN.2
      clear lk DN
      go_wp2
      exact bodyPost_ret (v:=.tuple #[vT r1,.bool true]) (results_c2 (ad:=⟨r0,0,none⟩) rfl rfl (ld_setRowT _ rok0) rfl) rfl ⟨r1,_,rfl,HDN.out.tb,HDN.out.rf,HDN.out.kp⟩
 ·have hpne:pr≠[]:=by intro e;have:=HTX.out;rw[e] at this;cases this
  go_enter Tryz.func33,Tryz.ntmps33
  go_wp2_with (first
   | (go_at_call 55;refine (refHear55 (F9++(r0 :: X)) s r p.cmd w9 HR9.out (HX9.out.lt HT9.out HXX.out) HS.out.1 HS.out.2 HT.out.inv.a100 HT.out.inv.k100 HT.out.inv.ndk HT.out.inv.bz).mono ?_;rw[HE.out];rintro e w10 ⟨r1,⟨pa,pn,pc⟩,⟨ma,mn,mc⟩,rfl,hr10,hq10,hl10,hb10⟩;dsimp only at hr10 hq10 hl10 ⊢;have eq10:=hq10.1;have el10:=hl10.1;dsimp only at eq10 el10;rw[HNQ.out] at eq10;rw[HRR.out,HNP.out] at el10;subst eq10;subst el10;have sq10:=hq10.2.2.1;have sl10:=hl10.2.2.1;rw[HRR.out] at sl10;dsimp only at sq10 sl10;obtain⟨pq,rfl⟩:=Sl.ad sq10 (by simp);obtain⟨pl,rfl⟩:=Sl.ad sl10 hpne;obtain⟨nx,W11,W14,hnx,hW11,rokn,hW14,hrn,hb14, -⟩:=row_made (ds:=cT r1) (t:=60) w10 (cT_length zT);rw[show w10.alloc (.cells (cT zT).toArray 60)=w10.alloc (.cells (aT zT) 60) from rfl] at hW11;rw[show W11.setRow nx (cT r1).toArray=W11.setRow nx (aT r1) from rfl] at hW14;have hb:=Below.step hb10 hb14;have HX14:=Lib.hid (HX9.out.keep hb);have HT14:=Lib.hid (HT9.out.keep hb);have HR14:=Lib.hid (hr10.keep hb14);have HROW:=Lib.hid hrn;have HQ14:=Lib.hid (And.intro (HQ9.out.1.keep hb) (And.intro (sq10.keep hb14) (And.intro (HQ9.out.2.keep hb) (sl10.keep hb14))));clear hb hb10 hb14 hr10 hrn hq10 hl10 sq10 sl10)
   | (go_at_call 15;refine (HT8.out.hear HL.out p.cmd HS.out.1 HS.out.2).mono ?_;rintro e w9 ⟨⟨qa,qn,qc⟩,⟨la,ln,lc⟩,rfl,F9,ht9,hk9,hq9,hl9⟩;rw[HE.out] at ht9 hq9 hl9 ⊢;dsimp only at ht9 hq9 hl9 ⊢;have eq9:=hq9.1;have el9:=hl9.1;dsimp only at eq9 el9;rw[HNQ.out] at eq9;rw[HNT.out] at el9;subst eq9;subst el9;have sq9:=hq9.2.2.1;have sl9:=hl9.2.2.1;dsimp only at sq9 sl9;obtain⟨aq,rfl⟩:=Sl.ad sq9 (by simp);obtain⟨al,rfl⟩:=Sl.ad sl9 (by simp);have hX9:=HX8.out.turn hk9;have hr9:=HR8.out.kp (hk9.app (r0 :: X));obtain⟨⟨y1,y2⟩,⟨y3,y4,y5⟩,⟨y6,y7⟩,y8,⟨y9,y10⟩,⟨y11,y12⟩⟩:=hX9.ld;have HX9:=Lib.hid hX9;have HT9:=Lib.hid ht9;have HR9:=Lib.hid hr9;have HQ9:=Lib.hid (And.intro sq9 sl9);clear hk9 hX9 hr9 ht9 hq9 hl9 sq9 sl9)
   | (go_at_call 14;refine (own14 p.cmd W3).mono ?_;rintro e w4 ⟨rfl,hb4⟩;obtain⟨cb,W5,W6,ib,W7,W8,hcb,hW5,rok5,hW6,hib,hW7,rok7,hW8,k1,k2,hX8,hb8⟩:=HD.out.box (F:=F) HT.out.lt hb4;obtain⟨⟨x1,x2⟩,⟨x3,x4,x5⟩,⟨x6,x7⟩,x8,⟨x9,x10⟩,⟨x11,x12⟩⟩:=hX8.ld;rw[HK.out] at x5;have HT8:=Lib.hid (HT.out.keep hb8);have HR8:=Lib.hid (HR.out.keep hb8);have HX8:=Lib.hid hX8;clear hb4 hX8 hb8))
  go_loopw [17] (fun i wr=>∃ k:Nat,i=.int .i64 k∧k≤nq∧Below W14.heap.size W14 wr) (fun i _=>nq+1 - (intOf i).toNat)
  case atStart=>exact⟨0,rfl,Nat.zero_le _,Below.refl _ _⟩
  case round =>
   obtain⟨k,rfl,hk,hbk⟩:=hrel
   have HBK:=Lib.hid hbk
   clear hbk
   by_cases hlt:k<nq
   ·have hlt1:(k:Int)<(nq:Int):=by omega
    have hkq:k<(q0 :: qr).length:=by rw[HNQ.out];exact hlt
    obtain⟨a1,e1,hat1⟩:=Sl.at_ cQn_length (HQ14.out.1.keep HBK.out) hkq
    cases e1
    obtain⟨a2,e2,hat2⟩:=Sl.at_ cQn_length (HQ14.out.2.1.keep HBK.out) hkq
    cases e2
    obtain⟨xq,hxq⟩:∃ xq,(q0 :: qr)[k]=xq:=⟨_,rfl⟩
    rw[hxq] at hat1 hat2
    obtain⟨⟨i1,i2⟩,i3,i4⟩:=hat1.qn
    obtain⟨⟨j1,j2⟩,j3,j4⟩:=hat2.qn
    clear hat1 hat2 hxq
    go_wp2
    go_quiet (fail)
    generalize hU5:World.drewN _ _=U5
    have HB5:=Lib.hid (show Below W14.heap.size W14 U5 by rw[← hU5];exact Below.step HBK.out (below_drewN _ _))
    clear hU5
    go_wp2
    go_roundw
    case rel=>exact⟨k+1,by go_num,hlt,HB5.out⟩
    case measure=>simp[intOf] <;> omega
   ·have hlt1:¬ (k:Int)<(nq:Int):=by omega
    go_wp2
    go_loopw [18] (fun i wr2=>∃ k:Nat,i=.int .i64 k∧k≤nt∧Below W14.heap.size W14 wr2) (fun i _=>nt+1 - (intOf i).toNat)
    case atStart=>exact⟨0,rfl,Nat.zero_le _,HBK.out⟩
    case round =>
     obtain⟨j,rfl,hj,hbj⟩:=hrel
     have HBJ:=Lib.hid hbj
     clear hbj
     by_cases hlj:j<nt
     ·have hlj1:(j:Int)<(nt:Int):=by omega
      have hjp:j<pr.length:=by rw[HNP.out];exact hlj
      have hjt:j<(t0 :: tr).length:=by rw[HNT.out];exact hlj
      obtain⟨a1,e1,hat1⟩:=Sl.at_ cTx_length (HQ14.out.2.2.1.keep HBJ.out) hjt
      cases e1
      obtain⟨a2,e2,hat2⟩:=Sl.at_ cA_length (HQ14.out.2.2.2.keep HBJ.out) hjp
      cases e2
      have hel:(t0 :: tr)[j]=(pr[j].id,pr[j].bytes):=by simp only[← HTX.out,List.getElem_map]
      rw[hel] at hat1
      obtain⟨xp,hxp⟩:∃ xp,pr[j]=xp:=⟨_,rfl⟩
      rw[hxp] at hat1 hat2
      obtain⟨⟨i1,i2⟩,i3⟩:=hat1.tx
      obtain⟨j1,j2⟩:=hat2.id
      have j3:=hat2.f34
      clear hat1 hat2 hxp hel
      go_wp2
      go_quiet (fail)
      generalize hU5:World.drewN _ _=U5
      have HB5:=Lib.hid (show Below W14.heap.size W14 U5 by rw[← hU5];exact Below.step HBJ.out (below_drewN _ _))
      clear hU5
      go_wp2
      go_roundw
      case rel=>exact⟨j+1,by go_num,hlj,HB5.out⟩
      case measure=>simp[intOf] <;> omega
     ·have hlj1:¬ (j:Int)<(nt:Int):=by omega
      have lk:=Row.okw (HROW.out.keep HBJ.out) (cT_length r1)
      have n1:=lk.1
      have n2:rdA wr ⟨nx,0,none⟩ 4=vT r1:=lk.2
      have DN:=(HX14.out.keep HBJ.out).done HW0.out (HT14.out.keep HBJ.out) (HR14.out.keep HBJ.out)
      have rok0:=DN.1
      have HDN:=Lib.hid DN.2
      clear lk DN
      go_wp2
      exact bodyPost_ret (v:=.tuple #[vT r1,.bool true]) (results_c2 (ad:=⟨r0,0,none⟩) rfl rfl (ld_setRowT _ rok0) rfl) rfl ⟨r1,_,rfl,HDN.out.tb,HDN.out.rf,HDN.out.kp⟩
end Go.Proofs.YtgojaelkdpabkaaGreatDoor
