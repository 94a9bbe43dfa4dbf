/- bulletinlaw34.view: a taker looks as the reference says. -/
import Derived.Test.YtgojaelkdpabkaaGreatDoorMVw34
namespace Go.Proofs.YtgojaelkdpabkaaGreatDoor
open Go.RowKit
structure VW (V:World) (i x:Nat) (y:Id) (d1 d2:Bool) (u:World):Prop where
 bel:∀ B,B≤i→B≤x→B≤V.heap.size→Below B V u
 ri:Row u i (cI (if d1 then y else zI)) 30
 rx:Row u x (cI (if d2 then y else zI)) 29
 ne:i≠x
theorem VW.bw {V u W:World} {i x:Nat} {y:Id} {d1 d2:Bool} (h:VW V i x y d1 d2 u) (g:Below W.heap.size W V∧i<x∧W.heap.size≤i):Below W.heap.size W u :=
 Below.trans g.1 (h.bel _ g.2.2 (by have:=g.2.1;have:=g.2.2;omega) g.1.size)
theorem VW.st1 {V u:World} {i x:Nat} {y:Id} {d2:Bool} (h:VW V i x y false d2 u):rowOk u i 32=true∧VW V i x y true d2 (u.setRow i (aI y)):=by
 have ho:One i u (u.setRow i (aI y)):=One.setRow _ _
 exact⟨h.ri.rowOk (cI_length _),fun B h1 h2 h3=>Below.trans (h.bel B h1 h2 h3) (ho.below h1 (Nat.le_trans h3 (h.bel B h1 h2 h3).size)),h.ri.setRow (cI y),ho.row h.rx h.ne.symm,h.ne⟩
theorem VW.st2 {V u:World} {i x:Nat} {y:Id} {d1:Bool} (h:VW V i x y d1 false u):rowOk u x 32=true∧VW V i x y d1 true (u.setRow x (aI y)):=by
 have ho:One x u (u.setRow x (aI y)):=One.setRow _ _
 exact⟨h.rx.rowOk (cI_length _),fun B h1 h2 h3=>Below.trans (h.bel B h1 h2 h3) (ho.below h2 (Nat.le_trans h3 (h.bel B h1 h2 h3).size)),ho.row h.ri h.ne,h.rx.setRow (cI y),h.ne⟩
set_option maxRecDepth 100000 in
set_option maxHeartbeats 6400000 in
theorem view31 (w0:World) (b:Nat) (s:Tk) (F G:List Nat) (r:Rt) (w:World) (ht:TkB w0 b s F w) (hr:RfAt G s r w) (hk:AskE s) :
  Calls Tryz.prog 31 #[.pointer (some ⟨b,0,none⟩),vT r] w fun e w'=>e=.returned (.bool true)∧Below w.heap.size w w':=by
 obtain⟨g,W1,hg,hW1,hrg,hb⟩:∃ g W1,w.heap.size=g∧w.alloc (.cells (aT r) 60)=W1∧Row W1 g (cT r) 60∧Below w.heap.size w W1:=⟨_,_,rfl,rfl,Row.new w (cT r) _,below_alloc _ _⟩
 have HB:=Lib.hid (And.intro hrg (And.intro (hr.keep hb) (And.intro hb (ht.keep hb))))
 have HV:=Lib.hid (viewL_eq ht.inv hk)
 have HAK:=Lib.hid (And.intro ht.inv.a100 ht.inv.k100)
 obtain⟨op,hop⟩:∃ op,s.opn=op:=⟨_,rfl⟩
 have HOP:=Lib.hid hop
 clear hrg hb hr ht hk hop
 go_enter Tryz.func31,Tryz.ntmps31
 go_upto_region 2 with (first
  | (go_at_call 20;refine (H2.out.1.partial_).mono ?_;rintro e w3 ⟨B6,m6,d6,rfl,hm6,ho6,h6,hb6⟩;have HX:=Lib.hid (And.intro h6 (And.intro (H2.out.2.1.keep hb6) (And.intro ho6.slOf (And.intro (HB.out.1.keep (Below.step H2.out.2.2.1 hb6)) (And.intro (HB.out.2.1.keep (Below.step H2.out.2.2.1 hb6)) (Below.step (Below.step HB.out.2.2.1 H2.out.2.2.1) hb6))))));have H6:=Lib.hid hm6;clear hm6 ho6 h6 hb6)
  | (go_at_call 19;refine (HB.out.2.2.2.active).mono ?_;rintro e w2 ⟨B5,m5,d5,rfl,hm5,ho5,h5,hb5⟩;have H2:=Lib.hid (And.intro h5 (And.intro ho5.slOf (And.intro hb5 hm5)));clear hm5 ho5 h5 hb5))
 have ha5:s.act.length=m5:=by rw[← H2.out.2.2.2,List.length_map]
 have hk6:s.kept.length=m6:=by rw[← H6.out,List.length_map]
 have hm5:m5≤100:=by have:=HAK.out.1;omega
 have hm6:m6≤100:=by have:=HAK.out.2;omega
 have HN:=Lib.hid (And.intro ha5 hk6)
 clear ha5 hk6
 refine AnyO.wp_anyI (by kernel_rfl) (by kernel_rfl) (AnyO.InvG (σ:=Unit) (fun σ=>AnyO.pvL [some (.slice B5 m5 d5),some (.int .i64 (m5:Int)),some (.pointer (some ⟨g,2,none⟩)),some (.slice r.act.1 m5 r.act.2.2),some (.int .i64 (m5:Int)),some (.bool false),some (.bool false),some (.slice B6 m6 d6),some (.int .i64 (m6:Int)),some (.pointer (some ⟨g,3,none⟩)),some (.slice r.kept.1 m6 r.kept.2.2),some (.int .i64 (m6:Int)),some (.bool false),some (.bool false),some (.bool false),some (.pointer (some ⟨b,0,none⟩)),some (.bool op),some (.pointer (some ⟨g,1,none⟩)),some (.bool op),some (.bool false),some (.bool false)]) (fun _ _ u=>Below w3.heap.size w3 u)) (AnyO.InvG.start (g:=()) (below_drew _)) ?_ ?_
 ·intro i hi
  have hi2:i=7∨i=8∨i=9∨i=10∨i=11∨i=12∨i=15∨i=16∨i=17∨i=18∨i=19∨i=0∨i=1∨i=2∨i=3∨i=4∨i=5∨i=6∨i=13∨i=14∨i=20:=by simp only[List.size_toArray,List.length_cons,List.length_nil] at hi;omega
  clear hi
  rcases hi2 with rfl|rfl|rfl|rfl|rfl|rfl|rfl|rfl|rfl|rfl|rfl|rfl|rfl|rfl|rfl|rfl|rfl|rfl|rfl|rfl|rfl
  ·refine AnyO.StepI.mk rfl [6] (by kernel_rfl) ?_;rintro D vs u ⟨σ,hP,hW⟩ h0 hC hp ac hb K hK
   have s6:ac.tmps[6]?.getD undef=.slice B6 m6 d6:=by rw[hb];kernel_rfl
   have s23:=AnyO.slot 23 hb (by kernel_rfl) (hP 6 (hp 6 (by decide)))
   rw[if_pos (AnyO.wanted_some (g:=6) (t:=23) (want:=false) rfl rfl s23)]
   clear hb hp
   clear hC h0;have HPW:=Lib.hid (And.intro hP hW);clear hP hW;go_simp;exact hK _ _ (AnyO.InvG.step (g:=σ) HPW.out.1 rfl HPW.out.2)
  ·refine AnyO.StepI.mk rfl [7,6] (by kernel_rfl) ?_;rintro D vs u ⟨σ,hP,hW⟩ h0 hC hp ac hb K hK
   have s24:=AnyO.slot 24 hb (by kernel_rfl) (hP 7 (hp 7 (by decide)))
   have s23:=AnyO.slot 23 hb (by kernel_rfl) (hP 6 (hp 6 (by decide)))
   rw[if_pos (AnyO.wanted_some (g:=6) (t:=23) (want:=false) rfl rfl s23)]
   clear hb hp
   clear hC h0;have HPW:=Lib.hid (And.intro hP hW);clear hP hW;go_simp;exact hK _ _ (AnyO.InvG.step (g:=σ) HPW.out.1 rfl HPW.out.2)
  ·refine AnyO.StepI.mk rfl [6] (by kernel_rfl) ?_;rintro D vs u ⟨σ,hP,hW⟩ h0 hC hp ac hb K hK
   have s3:ac.tmps[3]?.getD undef=.pointer (some ⟨g,0,none⟩):=by rw[hb];kernel_rfl
   have s23:=AnyO.slot 23 hb (by kernel_rfl) (hP 6 (hp 6 (by decide)))
   rw[if_pos (AnyO.wanted_some (g:=6) (t:=23) (want:=false) rfl rfl s23)]
   clear hb hp
   clear hC h0;have HPW:=Lib.hid (And.intro hP hW);clear hP hW;go_simp;exact hK _ _ (AnyO.InvG.step (g:=σ) HPW.out.1 rfl HPW.out.2)
  ·refine AnyO.StepI.mk rfl [9,6] (by kernel_rfl) ?_;rintro D vs u ⟨σ,hP,hW⟩ h0 hC hp ac hb K hK
   have s26:=AnyO.slot 26 hb (by kernel_rfl) (hP 9 (hp 9 (by decide)))
   have s23:=AnyO.slot 23 hb (by kernel_rfl) (hP 6 (hp 6 (by decide)))
   rw[if_pos (AnyO.wanted_some (g:=6) (t:=23) (want:=false) rfl rfl s23)]
   clear hb hp
   have rr:u.cell? ⟨g,3,none⟩=some (.slice r.kept.1 m6 r.kept.2.2):=by rw[← HN.out.2,HX.out.2.2.2.2.1.kept.1];exact (HX.out.2.2.2.1.keep hW).cell 3
   clear hC h0;have HPW:=Lib.hid (And.intro hP hW);clear hP hW;go_simp;exact hK _ _ (AnyO.InvG.step (g:=σ) HPW.out.1 rfl HPW.out.2)
  ·refine AnyO.StepI.mk rfl [10,6] (by kernel_rfl) ?_;rintro D vs u ⟨σ,hP,hW⟩ h0 hC hp ac hb K hK
   have s27:=AnyO.slot 27 hb (by kernel_rfl) (hP 10 (hp 10 (by decide)))
   have s23:=AnyO.slot 23 hb (by kernel_rfl) (hP 6 (hp 6 (by decide)))
   rw[if_pos (AnyO.wanted_some (g:=6) (t:=23) (want:=false) rfl rfl s23)]
   clear hb hp
   clear hC h0;have HPW:=Lib.hid (And.intro hP hW);clear hP hW;go_simp;exact hK _ _ (AnyO.InvG.step (g:=σ) HPW.out.1 rfl HPW.out.2)
  ·refine AnyO.StepI.mk rfl [8,11,6] (by kernel_rfl) ?_;rintro D vs u ⟨σ,hP,hW⟩ h0 hC hp ac hb K hK
   have s25:=AnyO.slot 25 hb (by kernel_rfl) (hP 8 (hp 8 (by decide)))
   have s28:=AnyO.slot 28 hb (by kernel_rfl) (hP 11 (hp 11 (by decide)))
   have s23:=AnyO.slot 23 hb (by kernel_rfl) (hP 6 (hp 6 (by decide)))
   rw[if_pos (AnyO.wanted_some (g:=6) (t:=23) (want:=false) rfl rfl s23)]
   clear hb hp
   clear hC h0;have HPW:=Lib.hid (And.intro hP hW);clear hP hW;go_simp;exact hK _ _ (AnyO.InvG.step (g:=σ) HPW.out.1 rfl HPW.out.2)
  ·refine AnyO.StepI.mk rfl [14] (by kernel_rfl) ?_;rintro D vs u ⟨σ,hP,hW⟩ h0 hC hp ac hb K hK
   have s0:ac.tmps[0]?.getD undef=.pointer (some ⟨b,0,none⟩):=by rw[hb];kernel_rfl
   have s31:=AnyO.slot 31 hb (by kernel_rfl) (hP 14 (hp 14 (by decide)))
   rw[if_pos (AnyO.wanted_some (g:=14) (t:=31) (want:=false) rfl rfl s31)]
   clear hb hp
   clear hC h0;have HPW:=Lib.hid (And.intro hP hW);clear hP hW;go_simp;exact hK _ _ (AnyO.InvG.step (g:=σ) HPW.out.1 rfl HPW.out.2)
  ·refine AnyO.StepI.mk rfl [15,14,14] (by kernel_rfl) ?_;rintro D vs u ⟨σ,hP,hW⟩ h0 hC hp ac hb K hK
   have s32:=AnyO.slot 32 hb (by kernel_rfl) (hP 15 (hp 15 (by decide)))
   have s31:=AnyO.slot 31 hb (by kernel_rfl) (hP 14 (hp 14 (by decide)))
   rw[if_pos (AnyO.wanted_some (g:=14) (t:=31) (want:=false) rfl rfl s31)]
   clear hb hp
   clear hC h0;have HPW:=Lib.hid (And.intro hP hW);clear hP hW;go_simp;obtain⟨hP,hW⟩:=HPW.out
   go_at_call 21
   refine ((HX.out.1.keep hW).isOpen).mono ?_
   rw[HOP.out]
   rintro e w9 ⟨rfl,hb9⟩
   exact hK _ _ (AnyO.InvG.step (g:=σ) hP rfl (Below.step hW hb9))
  ·refine AnyO.StepI.mk rfl [14] (by kernel_rfl) ?_;rintro D vs u ⟨σ,hP,hW⟩ h0 hC hp ac hb K hK
   have s3:ac.tmps[3]?.getD undef=.pointer (some ⟨g,0,none⟩):=by rw[hb];kernel_rfl
   have s31:=AnyO.slot 31 hb (by kernel_rfl) (hP 14 (hp 14 (by decide)))
   rw[if_pos (AnyO.wanted_some (g:=14) (t:=31) (want:=false) rfl rfl s31)]
   clear hb hp
   clear hC h0;have HPW:=Lib.hid (And.intro hP hW);clear hP hW;go_simp;exact hK _ _ (AnyO.InvG.step (g:=σ) HPW.out.1 rfl HPW.out.2)
  ·refine AnyO.StepI.mk rfl [17,14] (by kernel_rfl) ?_;rintro D vs u ⟨σ,hP,hW⟩ h0 hC hp ac hb K hK
   have s34:=AnyO.slot 34 hb (by kernel_rfl) (hP 17 (hp 17 (by decide)))
   have s31:=AnyO.slot 31 hb (by kernel_rfl) (hP 14 (hp 14 (by decide)))
   rw[if_pos (AnyO.wanted_some (g:=14) (t:=31) (want:=false) rfl rfl s31)]
   clear hb hp
   have rr:u.cell? ⟨g,1,none⟩=some (.bool op):=by rw[← HOP.out,← HX.out.2.2.2.2.1.opn];exact (HX.out.2.2.2.1.keep hW).cell 1
   clear hC h0;have HPW:=Lib.hid (And.intro hP hW);clear hP hW;go_simp;exact hK _ _ (AnyO.InvG.step (g:=σ) HPW.out.1 rfl HPW.out.2)
  ·refine AnyO.StepI.mk rfl [16,18,14] (by kernel_rfl) ?_;rintro D vs u ⟨σ,hP,hW⟩ h0 hC hp ac hb K hK
   have s33:=AnyO.slot 33 hb (by kernel_rfl) (hP 16 (hp 16 (by decide)))
   have s35:=AnyO.slot 35 hb (by kernel_rfl) (hP 18 (hp 18 (by decide)))
   have s31:=AnyO.slot 31 hb (by kernel_rfl) (hP 14 (hp 14 (by decide)))
   rw[if_pos (AnyO.wanted_some (g:=14) (t:=31) (want:=false) rfl rfl s31)]
   clear hb hp
   clear hC h0;have HPW:=Lib.hid (And.intro hP hW);clear hP hW;go_simp;exact hK _ _ (AnyO.InvG.step (g:=σ) HPW.out.1 rfl HPW.out.2)
  all_goals
   refine AnyO.J rfl ?_;rintro D vs u σ Q h0 hC hp ac hb K hK
   try have s5:ac.tmps[5]?.getD undef=.slice B5 m5 d5:=by rw[hb.out];kernel_rfl
   try have s17:_=_:=AnyO.sv 17 0 hb hp Q
   try have s3:ac.tmps[3]?.getD undef=.pointer (some ⟨g,0,none⟩):=by rw[hb.out];kernel_rfl
   try have s19:_=_:=AnyO.sv 19 2 hb hp Q
   try have s20:_=_:=AnyO.sv 20 3 hb hp Q
   try have s18:_=_:=AnyO.sv 18 1 hb hp Q
   try have s21:_=_:=AnyO.sv 21 4 hb hp Q
   try have s22:_=_:=AnyO.sv 22 5 hb hp Q
   try have s23:_=_:=AnyO.sv 23 6 hb hp Q
   try have s29:_=_:=AnyO.sv 29 12 hb hp Q
   try have s30:_=_:=AnyO.sv 30 13 hb hp Q
   try have s31:_=_:=AnyO.sv 31 14 hb hp Q
   try have s36:_=_:=AnyO.sv 36 19 hb hp Q
   have rr:u.cell? ⟨g,2,none⟩=some (.slice r.act.1 m5 r.act.2.2):=by rw[← HN.out.1,HX.out.2.2.2.2.1.act.1];exact (HX.out.2.2.2.1.keep Q.out.2).cell 2
   go_simp
   exact hK _ _ (AnyO.InvG.step (g:=σ) Q.out.1 rfl Q.out.2)
 ·intro D vs u hI hD
  obtain⟨σ,hP,hW⟩:=hI
  have e0:_=_:=hP 0 (hD 0 (by decide))
  have e1:_=_:=hP 1 (hD 1 (by decide))
  have e2:_=_:=hP 2 (hD 2 (by decide))
  have e3:_=_:=hP 3 (hD 3 (by decide))
  have e4:_=_:=hP 4 (hD 4 (by decide))
  have e5:_=_:=hP 5 (hD 5 (by decide))
  have e6:_=_:=hP 6 (hD 6 (by decide))
  have e7:_=_:=hP 7 (hD 7 (by decide))
  have e8:_=_:=hP 8 (hD 8 (by decide))
  have e9:_=_:=hP 9 (hD 9 (by decide))
  have e10:_=_:=hP 10 (hD 10 (by decide))
  have e11:_=_:=hP 11 (hD 11 (by decide))
  have e12:_=_:=hP 12 (hD 12 (by decide))
  have e13:_=_:=hP 13 (hD 13 (by decide))
  have e14:_=_:=hP 14 (hD 14 (by decide))
  have e15:_=_:=hP 15 (hD 15 (by decide))
  have e16:_=_:=hP 16 (hD 16 (by decide))
  have e17:_=_:=hP 17 (hD 17 (by decide))
  have e18:_=_:=hP 18 (hD 18 (by decide))
  have e19:_=_:=hP 19 (hD 19 (by decide))
  have e20:_=_:=hP 20 (hD 20 (by decide))
  have HST:=Lib.hid hW
  have HW:=Lib.hid hW
  clear hW hP hD
  rw[puts_range [some 17,some 18,some 19,some 20,some 21,some 22,some 23,some 24,some 25,some 26,some 27,some 28,some 29,some 30,some 31,some 32,some 33,some 34,some 35,some 36,some 37] (by kernel_rfl)]
  simp only[putL,Nat.reduceAdd,e0,e1,e2,e3,e4,e5,e6,e7,e8,e9,e10,e11,e12,e13,e14,e15,e16,e17,e18,e19,e20]
  clear e0 e1 e2 e3 e4 e5 e6 e7 e8 e9 e10 e11 e12 e13 e14 e15 e16 e17 e18 e19 e20
  go_simp
  go_wp2
  have hwr:IntKind.i64.wrap ((m5:Int)+(m6:Int))=(m5:Int)+(m6:Int):=by rw[IntKind.wrap_i64];omega
  go_loopw [7] (fun i wr=>∃ k:Nat,i=.int .i64 k∧k≤m5+m6∧Below w3.heap.size w3 wr) (fun i _=>m5+m6+1 - (intOf i).toNat)
  case atStart=>exact⟨0,rfl,Nat.zero_le _,HST.out⟩
  case round =>
   obtain⟨k,rfl,hk,hbk⟩:=hrel
   by_cases hlt:k<m5+m6
   ·have hlt1:(k:Int)<(m5:Int)+(m6:Int):=by omega
    obtain⟨ib,V1,xb,V2,hib,hV1,hxb,hV2,hri,hrx,hbV,hne⟩:∃ ib V1 xb V2,wr.heap.size=ib∧wr.alloc (.cells (aI zI) 30)=V1∧V1.heap.size=xb∧V1.alloc (.cells (aI zI) 29)=V2∧Row V2 ib (cI zI) 30∧Row V2 xb (cI zI) 29∧Below wr.heap.size wr V2∧ib<xb :=
     ⟨_,_,_,_,rfl,rfl,rfl,rfl,(Row.new wr (cI zI) _).keep (below_alloc _ _),Row.new _ (cI zI) _,Below.step (below_alloc _ _) (below_alloc _ _),by simp⟩
    have HVB:=Lib.hid (And.intro hri (And.intro hrx (And.intro (Below.step hbk hbV) (And.intro hne (show w3.heap.size≤ib by have:=hbk.size;omega)))))
    clear hri hrx hbV hne hbk
    by_cases hlk:k<m5
    case' pos =>
     have hlk1:(k:Int)<(m5:Int):=by omega
     have hka:k<s.act.length:=by rw[HN.out.1];exact hlk
     have hkm:k<(s.act.map Pt.id).length:=by rw[List.length_map];exact hka
     obtain⟨y,hy⟩:∃ y,s.act[k].id=y:=⟨_,rfl⟩
     obtain⟨a5,rfl, -⟩:=Sl.at_ cI_length H2.out.2.1 hkm
     obtain⟨ar,har, -⟩:=Sl.pt HX.out.2.2.2.2.1.act.2.2.1 hka
     have HY:=Lib.hid (And.intro hy har)
     clear hy har
     go_wp2
     refine AnyO.wp_anyI (by kernel_rfl) (by kernel_rfl) (AnyO.InvG (σ:=Unit) (fun σ=>AnyO.pvL [some (.slice (some a5) m5 d5),some (.int .i64 (k:Int)),some (.pointer (some (a5.add (k * 32)))),some (vI y),some (.pointer (some ⟨g,2,none⟩)),some (.slice (some ar) m5 r.act.2.2),some (.int .i64 (k:Int)),some (.pointer (some (ar.add (k * 35)))),some (.pointer (some (ar.add (k * 35)))),some (vI y),none,none]) (fun _ D u=>VW V2 ib xb y (D 10) (D 11) u)) (AnyO.InvG.start (g:=()) (⟨fun B _ _ hB=>(below_drew _).mono hB,HVB.out.1.keep (below_drew _),HVB.out.2.1.keep (below_drew _),by have:=HVB.out.2.2.2.1;omega⟩)) ?_ ?_
     ·intro i hi
      have hi2:i=3∨i=9∨i=10∨i=11∨i=0∨i=1∨i=2∨i=4∨i=5∨i=6∨i=7∨i=8:=by simp only[List.size_toArray,List.length_cons,List.length_nil] at hi;omega
      clear hi
      rcases hi2 with rfl|rfl|rfl|rfl|rfl|rfl|rfl|rfl|rfl|rfl|rfl|rfl
      ·refine AnyO.I rfl [2] ?_;rintro D vs u σ Q h0 hC hp ac hb K hK
       have s53:_=_:=AnyO.sv 53 2 hb hp Q
       obtain⟨a9,e9,hat⟩:=Sl.at_ cI_length (HX.out.2.1.keep (Q.out.2.bw HVB.out.2.2)) hkm
       cases e9
       rw[List.getElem_map,HY.out.1] at hat
       have qq:=hat.idv
       have rr1:=qq.1
       have rr2:=qq.2
       clear hat qq
       go_simp;exact hK _ _ (AnyO.InvG.step (g:=σ) Q.out.1 rfl Q.out.2)
      ·refine AnyO.I rfl [8] ?_;rintro D vs u σ Q h0 hC hp ac hb K hK
       have s59:_=_:=AnyO.sv 59 8 hb hp Q
       obtain⟨a9,e9, -, -,hat⟩:=Sl.pt (HX.out.2.2.2.2.1.keep (Q.out.2.bw HVB.out.2.2)).act.2.2.1 hka
       obtain rfl:ar=a9:=Option.some.inj (HY.out.2.symm.trans e9)
       have qq:=hat.id
       rw[HY.out.1] at qq
       have rr1:=qq.1
       have rr2:=qq.2
       clear hat qq e9
       go_simp;exact hK _ _ (AnyO.InvG.step (g:=σ) Q.out.1 rfl Q.out.2)
      ·refine AnyO.I rfl [3,0,1,2,3] ?_;rintro D vs u σ Q h0 hC hp ac hb K hK
       have s8:=AnyO.sz (v:=.pointer (some ⟨ib,0,none⟩)) 8 hb
       have s54:_=_:=AnyO.sv 54 3 hb hp Q
       have hst:=Q.out.2
       rw[show D 10=false from h0] at hst
       have SS:=hst.st1
       have ro:=SS.1
       have RP:=Lib.hid SS.2
       clear hst SS
       go_simp
       exact hK undef _ (AnyO.InvG.step (g:=σ) Q.out.1 trivial RP.out)
      ·refine AnyO.I rfl [9,10,0,1,2,3,4,5,6,7,8,9,10] ?_;rintro D vs u σ Q h0 hC hp ac hb K hK
       have s9:=AnyO.sz (v:=.pointer (some ⟨xb,0,none⟩)) 9 hb
       have s60:_=_:=AnyO.sv 60 9 hb hp Q
       have hst:=Q.out.2
       rw[show D 11=false from h0] at hst
       have SS:=hst.st2
       have ro:=SS.1
       have RP:=Lib.hid SS.2
       clear hst SS
       go_simp
       exact hK undef _ (AnyO.InvG.step (g:=σ) Q.out.1 trivial RP.out)
      all_goals
       refine AnyO.J rfl ?_;rintro D vs u σ Q h0 hC hp ac hb K hK
       try have s5:ac.tmps[5]?.getD undef=.slice (some a5) m5 d5:=by rw[hb.out];kernel_rfl
       try have s7:ac.tmps[7]?.getD undef=.int .i64 (k:Int):=by rw[hb.out];kernel_rfl
       try have s51:_=_:=AnyO.sv 51 0 hb hp Q
       try have s52:_=_:=AnyO.sv 52 1 hb hp Q
       try have s3:ac.tmps[3]?.getD undef=.pointer (some ⟨g,0,none⟩):=by rw[hb.out];kernel_rfl
       try have s55:_=_:=AnyO.sv 55 4 hb hp Q
       try have s56:_=_:=AnyO.sv 56 5 hb hp Q
       try have s57:_=_:=AnyO.sv 57 6 hb hp Q
       try have s58:_=_:=AnyO.sv 58 7 hb hp Q
       have rr:u.cell? ⟨g,2,none⟩=some (.slice (some ar) m5 r.act.2.2):=by rw[← HN.out.1,← HY.out.2,HX.out.2.2.2.2.1.act.1];exact (HX.out.2.2.2.1.keep (Q.out.2.bw HVB.out.2.2)).cell 2
       go_simp
       exact hK _ _ (AnyO.InvG.step (g:=σ) Q.out.1 rfl Q.out.2)
     intro D vs u hI hD
     obtain⟨σ,hP,hW⟩:=hI
     have e0:_=_:=hP 0 (hD 0 (by decide))
     have e1:_=_:=hP 1 (hD 1 (by decide))
     have e2:_=_:=hP 2 (hD 2 (by decide))
     have e3:_=_:=hP 3 (hD 3 (by decide))
     have e4:_=_:=hP 4 (hD 4 (by decide))
     have e5:_=_:=hP 5 (hD 5 (by decide))
     have e6:_=_:=hP 6 (hD 6 (by decide))
     have e7:_=_:=hP 7 (hD 7 (by decide))
     have e8:_=_:=hP 8 (hD 8 (by decide))
     have e9:_=_:=hP 9 (hD 9 (by decide))
     have hst:=hW
     rw[show D 10=true from hD 10 (by decide),show D 11=true from hD 11 (by decide)] at hst
     have HST2:=Lib.hid hst
     clear hst
     have HW:=Lib.hid hW
     clear hW hP hD
     rw[puts_range [some 51,some 52,some 53,some 54,some 55,some 56,some 57,some 58,some 59,some 60,none,none] (by kernel_rfl)]
     simp only[putL,Nat.reduceAdd,e0,e1,e2,e3,e4,e5,e6,e7,e8,e9]
     clear e0 e1 e2 e3 e4 e5 e6 e7 e8 e9
     go_simp
    case' neg =>
     have hlk1:¬ (k:Int)<(m5:Int):=by omega
     obtain⟨j,hj⟩:∃ j,k=m5+j:=⟨k - m5,by omega⟩
     have hsub:IntKind.i64.wrap ((k:Int) - (m5:Int))=(j:Int):=by rw[IntKind.wrap_i64];omega
     have hj6:j<m6:=by omega
     have hj61:(j:Int)<(m6:Int):=by omega
     have hka:j<s.kept.length:=by rw[HN.out.2];exact hj6
     have hkm:j<(s.kept.map Pt.id).length:=by rw[List.length_map];exact hka
     obtain⟨y,hy⟩:∃ y,s.kept[j].id=y:=⟨_,rfl⟩
     obtain⟨a6,rfl, -⟩:=Sl.at_ cI_length HX.out.2.2.1 hkm
     obtain⟨ar,har, -⟩:=Sl.pt HX.out.2.2.2.2.1.kept.2.2.1 hka
     have HY:=Lib.hid (And.intro hy har)
     have HJ:=Lib.hid hj
     clear hy har hj
     go_wp2
     refine AnyO.wp_anyI (by kernel_rfl) (by kernel_rfl) (AnyO.InvG (σ:=Unit) (fun σ=>AnyO.pvL [some (.slice (some a6) m6 d6),some (.int .i64 (k:Int)),some (.slice B5 m5 d5),some (.int .i64 (m5:Int)),some (.int .i64 (j:Int)),some (.pointer (some (a6.add (j * 32)))),some (vI y),some (.pointer (some ⟨g,3,none⟩)),some (.slice (some ar) m6 r.kept.2.2),some (.int .i64 (k:Int)),some (.slice B5 m5 d5),some (.int .i64 (m5:Int)),some (.int .i64 (j:Int)),some (.pointer (some (ar.add (j * 35)))),some (.pointer (some (ar.add (j * 35)))),some (vI y),none,none]) (fun _ D u=>VW V2 ib xb y (D 16) (D 17) u)) (AnyO.InvG.start (g:=()) (⟨fun B _ _ hB=>(below_drew _).mono hB,HVB.out.1.keep (below_drew _),HVB.out.2.1.keep (below_drew _),by have:=HVB.out.2.2.2.1;omega⟩)) ?_ ?_
     ·intro i hi
      have hi2:i=6∨i=15∨i=16∨i=17∨i=0∨i=1∨i=2∨i=3∨i=4∨i=5∨i=7∨i=8∨i=9∨i=10∨i=11∨i=12∨i=13∨i=14:=by simp only[List.size_toArray,List.length_cons,List.length_nil] at hi;omega
      clear hi
      rcases hi2 with rfl|rfl|rfl|rfl|rfl|rfl|rfl|rfl|rfl|rfl|rfl|rfl|rfl|rfl|rfl|rfl|rfl|rfl
      ·refine AnyO.I rfl [5] ?_;rintro D vs u σ Q h0 hC hp ac hb K hK
       have s66:_=_:=AnyO.sv 66 5 hb hp Q
       obtain⟨a9,e9,hat⟩:=Sl.at_ cI_length (HX.out.2.2.1.keep (Q.out.2.bw HVB.out.2.2)) hkm
       cases e9
       rw[List.getElem_map,HY.out.1] at hat
       have qq:=hat.idv
       have rr1:=qq.1
       have rr2:=qq.2
       clear hat qq
       go_simp;exact hK _ _ (AnyO.InvG.step (g:=σ) Q.out.1 rfl Q.out.2)
      ·refine AnyO.I rfl [14] ?_;rintro D vs u σ Q h0 hC hp ac hb K hK
       have s75:_=_:=AnyO.sv 75 14 hb hp Q
       obtain⟨a9,e9, -, -,hat⟩:=Sl.pt (HX.out.2.2.2.2.1.keep (Q.out.2.bw HVB.out.2.2)).kept.2.2.1 hka
       obtain rfl:ar=a9:=Option.some.inj (HY.out.2.symm.trans e9)
       have qq:=hat.id
       rw[HY.out.1] at qq
       have rr1:=qq.1
       have rr2:=qq.2
       clear hat qq e9
       go_simp;exact hK _ _ (AnyO.InvG.step (g:=σ) Q.out.1 rfl Q.out.2)
      ·refine AnyO.I rfl [6,0,1,2,3,4,5,6] ?_;rintro D vs u σ Q h0 hC hp ac hb K hK
       have s8:=AnyO.sz (v:=.pointer (some ⟨ib,0,none⟩)) 8 hb
       have s67:_=_:=AnyO.sv 67 6 hb hp Q
       have hst:=Q.out.2
       rw[show D 16=false from h0] at hst
       have SS:=hst.st1
       have ro:=SS.1
       have RP:=Lib.hid SS.2
       clear hst SS
       go_simp
       exact hK undef _ (AnyO.InvG.step (g:=σ) Q.out.1 trivial RP.out)
      ·refine AnyO.I rfl [15,16,0,1,2,3,4,5,6,7,8,9,10,11,12,13,14,15,16] ?_;rintro D vs u σ Q h0 hC hp ac hb K hK
       have s9:=AnyO.sz (v:=.pointer (some ⟨xb,0,none⟩)) 9 hb
       have s76:_=_:=AnyO.sv 76 15 hb hp Q
       have hst:=Q.out.2
       rw[show D 17=false from h0] at hst
       have SS:=hst.st2
       have ro:=SS.1
       have RP:=Lib.hid SS.2
       clear hst SS
       go_simp
       exact hK undef _ (AnyO.InvG.step (g:=σ) Q.out.1 trivial RP.out)
      all_goals
       refine AnyO.J rfl ?_;rintro D vs u σ Q h0 hC hp ac hb K hK
       try have s6:ac.tmps[6]?.getD undef=.slice (some a6) m6 d6:=by rw[hb.out];kernel_rfl
       try have s7:ac.tmps[7]?.getD undef=.int .i64 (k:Int):=by rw[hb.out];kernel_rfl
       try have s5:ac.tmps[5]?.getD undef=.slice B5 m5 d5:=by rw[hb.out];kernel_rfl
       try have s63:_=_:=AnyO.sv 63 2 hb hp Q
       try have s62:_=_:=AnyO.sv 62 1 hb hp Q
       try have s64:_=_:=AnyO.sv 64 3 hb hp Q
       try have s61:_=_:=AnyO.sv 61 0 hb hp Q
       try have s65:_=_:=AnyO.sv 65 4 hb hp Q
       try have s3:ac.tmps[3]?.getD undef=.pointer (some ⟨g,0,none⟩):=by rw[hb.out];kernel_rfl
       try have s68:_=_:=AnyO.sv 68 7 hb hp Q
       try have s71:_=_:=AnyO.sv 71 10 hb hp Q
       try have s70:_=_:=AnyO.sv 70 9 hb hp Q
       try have s72:_=_:=AnyO.sv 72 11 hb hp Q
       try have s69:_=_:=AnyO.sv 69 8 hb hp Q
       try have s73:_=_:=AnyO.sv 73 12 hb hp Q
       try have s74:_=_:=AnyO.sv 74 13 hb hp Q
       have rr:u.cell? ⟨g,3,none⟩=some (.slice (some ar) m6 r.kept.2.2):=by rw[← HN.out.2,← HY.out.2,HX.out.2.2.2.2.1.kept.1];exact (HX.out.2.2.2.1.keep (Q.out.2.bw HVB.out.2.2)).cell 3
       go_simp
       exact hK _ _ (AnyO.InvG.step (g:=σ) Q.out.1 rfl Q.out.2)
     intro D vs u hI hD
     obtain⟨σ,hP,hW⟩:=hI
     have e0:_=_:=hP 0 (hD 0 (by decide))
     have e1:_=_:=hP 1 (hD 1 (by decide))
     have e2:_=_:=hP 2 (hD 2 (by decide))
     have e3:_=_:=hP 3 (hD 3 (by decide))
     have e4:_=_:=hP 4 (hD 4 (by decide))
     have e5:_=_:=hP 5 (hD 5 (by decide))
     have e6:_=_:=hP 6 (hD 6 (by decide))
     have e7:_=_:=hP 7 (hD 7 (by decide))
     have e8:_=_:=hP 8 (hD 8 (by decide))
     have e9:_=_:=hP 9 (hD 9 (by decide))
     have e10:_=_:=hP 10 (hD 10 (by decide))
     have e11:_=_:=hP 11 (hD 11 (by decide))
     have e12:_=_:=hP 12 (hD 12 (by decide))
     have e13:_=_:=hP 13 (hD 13 (by decide))
     have e14:_=_:=hP 14 (hD 14 (by decide))
     have e15:_=_:=hP 15 (hD 15 (by decide))
     have hst:=hW
     rw[show D 16=true from hD 16 (by decide),show D 17=true from hD 17 (by decide)] at hst
     have HST2:=Lib.hid hst
     clear hst
     have HW:=Lib.hid hW
     clear hW hP hD
     rw[puts_range [some 61,some 62,some 63,some 64,some 65,some 66,some 67,some 68,some 69,some 70,some 71,some 72,some 73,some 74,some 75,some 76,none,none] (by kernel_rfl)]
     simp only[putL,Nat.reduceAdd,e0,e1,e2,e3,e4,e5,e6,e7,e8,e9,e10,e11,e12,e13,e14,e15]
     clear e0 e1 e2 e3 e4 e5 e6 e7 e8 e9 e10 e11 e12 e13 e14 e15
     go_simp
    all_goals
     have hrow:=HST2.out
     obtain⟨st,hst⟩:∃ st,(lookL s y).state=st:=⟨_,rfl⟩
     obtain⟨rv,hrv⟩:∃ rv,rcvdL s y=rv:=⟨_,rfl⟩
     obtain⟨sz,hsz⟩:∃ sz,(lookL s y).size=sz:=⟨_,rfl⟩
     have HVV:=Lib.hid (show viewL s y=(st,rv,sz) by rw[HV.out,hst,hrv,hsz])
     have HLL:=Lib.hid (And.intro hst (And.intro hrv hsz))
     have hbu:=hrow.bw HVB.out.2.2
     have qx:=Row.okw hrow.rx (cI_length _)
     have qx1:=qx.1
     have qx2:rdA u ⟨xb,0,none⟩ 32=vI y:=qx.2
     have qg:=Row.okw (HX.out.2.2.2.1.keep hbu) (cT_length r)
     have qg1:=qg.1
     have qg2:rdA u ⟨g,0,none⟩ 4=vT r:=qg.2
     have HU:=Lib.hid (And.intro hbu (And.intro hrow.ri hrow.rx))
     clear hst hrv hsz hrow hbu qx qg
     go_wp2_with (first
      | (go_at_call 24;refine ((HX.out.1.keep H11.out.1).size y).mono ?_;rw[HLL.out.2.2];rintro e w12 ⟨rfl,hb12⟩;have H12:=Lib.hid (Below.step H11.out.1 hb12);clear hb12)
      | (go_at_call 23;refine ((HX.out.1.keep H10.out.1).received y).mono ?_;rw[HLL.out.2.1];rintro e w11 ⟨rfl,hb11⟩;have ri:=H10.out.2.keep hb11;have q:=Row.okw ri (cI_length _);have q1:=q.1;have q2:rdA w11 ⟨ib,0,none⟩ 32=vI y:=q.2;have H11:=Lib.hid (And.intro (Below.step H10.out.1 hb11) ri);clear hb11 ri q)
      | (go_at_call 22;refine ((HX.out.1.keep H9.out.1).state y).mono ?_;rw[HLL.out.1];rintro e w10 ⟨rfl,hb10⟩;have ri:=H9.out.2.keep hb10;have q:=Row.okw ri (cI_length _);have q1:=q.1;have q2:rdA w10 ⟨ib,0,none⟩ 32=vI y:=q.2;have H10:=Lib.hid (And.intro (Below.step H9.out.1 hb10) ri);clear hb10 ri q)
      | (go_at_call 30;refine (refView30 G s r y u (HX.out.2.2.2.2.1.keep HU.out.1) HAK.out.1 HAK.out.2).mono ?_;rw[HVV.out];dsimp only;rintro e w9 ⟨rfl,hb9⟩;have ri:=HU.out.2.1.keep hb9;have rx:=HU.out.2.2.keep hb9;have q:=Row.okw ri (cI_length _);have q1:=q.1;have q2:rdA w9 ⟨ib,0,none⟩ 32=vI y:=q.2;have qq:=Row.okw rx (cI_length _);have q3:=qq.1;have q4:rdA w9 ⟨xb,0,none⟩ 32=vI y:=qq.2;have H9:=Lib.hid (And.intro (Below.step HU.out.1 hb9) ri);clear hb9 ri rx q qq))
     go_roundw
     case rel=>exact⟨k+1,by go_num,hlt,H12.out⟩
     case measure=>simp[intOf] <;> omega
   ·have hlt1:¬ (k:Int)<(m5:Int)+(m6:Int):=by omega
    have HBK:=Lib.hid hbk
    clear hbk
    go_wp2
    go_ret
    exact⟨rfl,by first|exact Below.step HX.out.2.2.2.2.2 HBK.out|(rw[← hg];exact Below.step HX.out.2.2.2.2.2 HBK.out)⟩
end Go.Proofs.YtgojaelkdpabkaaGreatDoor
