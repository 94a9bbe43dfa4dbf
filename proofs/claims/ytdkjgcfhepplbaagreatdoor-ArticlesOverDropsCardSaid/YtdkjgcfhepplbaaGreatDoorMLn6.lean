/- line: goDown, Drop. -/
import Derived.Test.YtdkjgcfhepplbaaGreatDoorMLn3
namespace Go.Proofs.YtdkjgcfhepplbaaGreatDoor
open Go.RowKit
abbrev nilV:SlV:=(none,0,0)
theorem upd_comm {α:Type} (f:Nat→α) {k j:Nat} (a b:α) (h:k≠j):upd (upd f k a) j b=upd (upd f j b) k a:=by
 funext i
 unfold upd
 by_cases h1:i=j
 ·rw[if_pos h1,if_neg (by omega),if_pos h1]
 ·rw[if_neg h1]
  by_cases h2:i=k
  ·rw[if_pos h2,if_pos h2]
  ·rw[if_neg h2,if_neg h2,if_neg h1]
theorem upd_upd {α:Type} (f:Nat→α) (k:Nat) (a b:α):upd (upd f k a) k b=upd f k b:=by
 funext i
 unfold upd
 split <;> rfl
def GD (b:Nat) (c:Lc) (sl:Nat→SlV) (bs:Nat→List UInt8) (pk:Nat→List Pkt) (F:List Nat) (k:Nat) (w u:World) (d1 d2:Bool):Prop :=
 ∃ F',LnR b c (upd (upd sl k (bif d1 then nilV else sl k)) (k+1) (bif d2 then nilV else sl (k+1))) (upd bs k (bif d1 then [] else bs k)) (upd pk (k+1) (bif d2 then [] else pk (k+1))) F' u∧Kp F F' w u
section
variable {b : Nat} {c : Lc} {sl : Nat → SlV} {bs : Nat → List UInt8} {pk : Nat → List Pkt} {F : List Nat} {k : Nat} {w u u' : World} {d1 d2 : Bool}
theorem GD.start (h:LnR b c sl bs pk F u) (hk:Kp F F w u):GD b c sl bs pk F k w u false false :=
 ⟨F,by rw[cond_false,cond_false,cond_false,cond_false,upd_self,upd_self,upd_self,upd_self];exact h,hk⟩
theorem GD.keep (h:GD b c sl bs pk F k w u d1 d2) (hb:Below u.heap.size u u'):GD b c sl bs pk F k w u' d1 d2:=by
 obtain⟨F',h1,h2⟩:=h
 exact⟨F',h1.keep hb,h2.trans (Kp.of_below hb)⟩
theorem GD.fz (h:GD b c sl bs pk F k w u d1 d2) (i:Nat):u.frozen? ⟨b,i,none⟩=false:=by
 obtain⟨F',h1,h2⟩:=h
 exact h1.row.fz i
theorem GD.cell (h:GD b c sl bs pk F k w u d1 d2) {j:Nat} (hj:j<6):∃ v,u.cell? ⟨b,7+j,none⟩=some v:=by
 obtain⟨F',h1,h2⟩:=h
 exact⟨_,h1.cell hj⟩
theorem GD.st1 (h:GD b c sl bs pk F k w u false d2) (hk:k+1<6) (hm:k % 3=0):GD b c sl bs pk F k w (u.setCell ⟨b,7+k,none⟩ (.slice none 0 0)) true d2:=by
 obtain⟨F',h1,h2⟩:=h
 have h3:=h1.setB (k:=k) (v:=nilV) (by omega) (by omega) (Os.nil u _ _ _) (World.grownBy.refl u _) (fun g hg=>by cases hg)
 rw[upd_comm _ _ _ (show k+1≠k by omega),upd_upd,upd_upd] at h3
 exact⟨_,h3.1,h2.trans h3.2⟩
theorem GD.st2 (h:GD b c sl bs pk F k w u d1 false) (hk:k+1<6) (hm:k % 3=0):GD b c sl bs pk F k w (u.setCell ⟨b,7+(k+1),none⟩ (.slice none 0 0)) d1 true:=by
 obtain⟨F',h1,h2⟩:=h
 have h3:=h1.setP (k:=k+1) (v:=nilV) (l:=[]) (G:=[]) hk (by omega) (Os.nil u _ _ _) (World.grownBy.refl u _) (fun g hg=>by cases hg) (fun p hp=>by cases hp) (fun g hg=>by cases hg)
 rw[upd_upd,upd_upd] at h3
 exact⟨_,h3.1,h2.trans ⟨rfl,rfl,rfl,by simp[World.setCell],fun g hg hF=>⟨by simpa[blkL] using hF,h3.2 g hg hF⟩⟩⟩
end
def dnB (n:Nat) (bs:Nat→List UInt8):Nat→List UInt8:=fun j=>if j<3 * n∧j % 3=0 then [] else bs j
def dnW {α:Type} (n:Nat) (wy:Nat→List α):Nat→List α:=fun j=>if j<3 * n∧j % 3=1 then [] else wy j
theorem dnB_0 (bs:Nat→List UInt8):dnB 0 bs=bs:=by
 funext j
 unfold dnB
 rw[if_neg (by omega)]
theorem dnW_0 {α:Type} (wy:Nat→List α):dnW 0 wy=wy:=by
 funext j
 unfold dnW
 rw[if_neg (by omega)]
theorem dnB_s (n:Nat) (bs:Nat→List UInt8):upd (dnB n bs) (3 * n) []=dnB (n+1) bs:=by
 funext j
 unfold upd dnB
 by_cases h1:j=3 * n
 ·rw[if_pos h1,if_pos (by omega)]
 ·rw[if_neg h1]
  by_cases h2:j<3 * n∧j % 3=0
  ·rw[if_pos h2,if_pos (by omega)]
  ·rw[if_neg h2,if_neg (by omega)]
theorem dnW_s {α:Type} (n:Nat) (wy:Nat→List α):upd (dnW n wy) (3 * n+1) []=dnW (n+1) wy:=by
 funext j
 unfold upd dnW
 by_cases h1:j=3 * n+1
 ·rw[if_pos h1,if_pos (by omega)]
 ·rw[if_neg h1]
  by_cases h2:j<3 * n∧j % 3=1
  ·rw[if_pos h2,if_pos (by omega)]
  ·rw[if_neg h2,if_neg (by omega)]
def LnAt (b:Nat) (c:Lc) (bs:Nat→List UInt8) (wy:Nat→List (List UInt8×Nat)) (F:List Nat) (w:World):Prop :=
 ∃ sl pk,LnR b c sl bs pk F w∧∀ j,(pk j).map (·.2)=wy j
def DnP (b:Nat) (c:Lc) (bs:Nat→List UInt8) (wy:Nat→List (List UInt8×Nat)) (F:List Nat) (w w':World):Prop :=
 ∃ F',LnAt b { c with up:=false } (dnB 2 bs) (dnW 2 wy) F' w'∧Kp F F' w w'
set_option maxRecDepth 100000 in
set_option maxHeartbeats 3200000 in
theorem goDown51 (b:Nat) (c:Lc) (bs:Nat→List UInt8) (wy:Nat→List (List UInt8×Nat)) (F:List Nat) (w:World) (h:LnAt b c bs wy F w) :
  Calls Tryz.prog 51 #[.pointer (some ⟨b,0,none⟩)] w fun e w'=>e=.returned (.tuple #[])∧DnP b c bs wy F w w':=by
 obtain⟨sl,pk,h,hw⟩:=h
 have k5:w.cell? ⟨b,5,none⟩=some (.bool c.up):=h.row.cell 5
 have f5:=h.row.fz 5
 obtain⟨c2,hc2⟩:∃ c2,({ c with up:=false }:Lc)=c2:=⟨_,rfl⟩
 have HC:=Lib.hid hc2
 have hl:=h.flag c2 (by rw[← hc2]) (i:=5) (v:=.bool false) (by rw[← hc2];rfl)
 have HB:=Lib.hid (And.intro hl (And.intro (Kp.setCell F w h.bF 5 (.bool false)) hw))
 clear h hw hl hc2
 go_enter Tryz.func51,Tryz.ntmps51
 go_wp2
 go_loopw [6] (fun i wr=>∃ (n:Nat) (F':List Nat),n≤2∧i=.int .i64 (n:Int)∧LnAt b c2 (dnB n bs) (dnW n wy) F' wr∧Kp F F' w wr) (fun i _=>2 - (intOf i).toNat)
 case atStart=>exact⟨0,F,by decide,rfl,by rw[dnB_0,dnW_0];exact⟨_,_,HB.out.1,HB.out.2.2⟩,HB.out.2.1⟩
 case round =>
  obtain⟨n,F2,hn,rfl,⟨sl2,pk2,hl2,hw2⟩,hk2⟩:=hrel
  obtain⟨bs2,hbs2⟩:∃ bs2,dnB n bs=bs2:=⟨_,rfl⟩
  rw[hbs2] at hl2
  have HL:=Lib.hid (And.intro hl2 (And.intro hw2 (And.intro hk2 hbs2)))
  clear hl2 hw2 hk2 hbs2
  obtain rfl|rfl|rfl:n=0∨n=1∨n=2:=by omega
  ·go_wp2
   refine AnyO.wp_anyI (by kernel_rfl) (by kernel_rfl) (AnyO.InvG (σ:=Unit) (fun σ=>AnyO.pvL [some (.pointer (some ⟨b,0,none⟩)),some (.int .i64 0),some (.pointer (some ⟨b,0,none⟩)),some (.int .i64 0),some (.pointer (some ⟨b,0,none⟩)),some (.pointer (some ⟨b,7,none⟩)),some (.pointer (some ⟨b,7,none⟩)),some (.pointer (some ⟨b,7,none⟩)),none,some (.pointer (some ⟨b,0,none⟩)),some (.pointer (some ⟨b,7,none⟩)),some (.pointer (some ⟨b,7,none⟩)),some (.pointer (some ⟨b,8,none⟩)),none]) (fun _ D u=>GD b c2 sl2 bs2 pk2 F2 0 wr u (D 8) (D 13))) (AnyO.InvG.start (g:=()) (GD.keep (GD.start HL.out.1 (Kp.refl F2 wr)) (below_drew _))) ?_ ?_
   ·intro i hi
    have hi2:i=8∨i=13∨i=0∨i=1∨i=2∨i=3∨i=4∨i=5∨i=6∨i=7∨i=9∨i=10∨i=11∨i=12:=by simp only[List.size_toArray,List.length_cons,List.length_nil] at hi;omega
    clear hi
    rcases hi2 with rfl|rfl|rfl|rfl|rfl|rfl|rfl|rfl|rfl|rfl|rfl|rfl|rfl|rfl
    ·refine AnyO.I rfl [7,0,1] ?_;rintro D vs u σ Q h0 hC hp ac hb K hK
     have s16:_=_:=AnyO.sv 16 7 hb hp Q
     have hst:=Q.out.2
     rw[h0] at hst
     have rr1:=hst.fz 7
     obtain⟨vv,rr2⟩:=hst.cell (j:=0) (by decide)
     have HST:=Lib.hid hst
     clear hst
     go_simp
     exact hK undef _ (AnyO.InvG.step (g:=σ) Q.out.1 trivial (by rw[show AnyO.addD D 8 8=true from rfl,show AnyO.addD D 8 13=D 13 from rfl];exact HST.out.st1 (by decide) (by decide)))
    ·refine AnyO.I rfl [12,8,0,1,2,3,4,5,6,7,8] ?_;rintro D vs u σ Q h0 hC hp ac hb K hK
     have s20:_=_:=AnyO.sv 20 12 hb hp Q
     have hst:=Q.out.2
     rw[h0] at hst
     have rr1:=hst.fz 8
     obtain⟨vv,rr2⟩:=hst.cell (j:=1) (by decide)
     have HST:=Lib.hid hst
     clear hst
     go_simp
     exact hK undef _ (AnyO.InvG.step (g:=σ) Q.out.1 trivial (by rw[show AnyO.addD D 13 13=true from rfl,show AnyO.addD D 13 8=D 8 from rfl];exact HST.out.st2 (by decide) (by decide)))
    all_goals
     refine AnyO.J rfl ?_;rintro D vs u σ Q h0 hC hp ac hb K hK
     try have s0:ac.tmps[0]?.getD undef=.pointer (some ⟨b,0,none⟩):=by rw[hb.out];kernel_rfl
     try have s2:ac.tmps[2]?.getD undef=.int .i64 0:=by rw[hb.out];kernel_rfl
     try have s9:_=_:=AnyO.sv 9 0 hb hp Q
     try have s13:_=_:=AnyO.sv 13 4 hb hp Q
     try have s14:_=_:=AnyO.sv 14 5 hb hp Q
     try have s10:_=_:=AnyO.sv 10 1 hb hp Q
     try have s15:_=_:=AnyO.sv 15 6 hb hp Q
     try have s11:_=_:=AnyO.sv 11 2 hb hp Q
     try have s17:_=_:=AnyO.sv 17 9 hb hp Q
     try have s18:_=_:=AnyO.sv 18 10 hb hp Q
     try have s12:_=_:=AnyO.sv 12 3 hb hp Q
     try have s19:_=_:=AnyO.sv 19 11 hb hp Q
     go_simp
     exact hK _ _ (AnyO.InvG.step (g:=σ) Q.out.1 rfl Q.out.2)
   ·intro D vs u hI hD
    obtain⟨σ,hP,hW⟩:=hI
    have e0:_=_:=hP 0 (hD 0 (by decide))
    have e1:_=_:=hP 1 (hD 1 (by decide))
    have e2:_=_:=hP 2 (hD 2 (by decide))
    have e3:_=_:=hP 3 (hD 3 (by decide))
    have e4:_=_:=hP 4 (hD 4 (by decide))
    have e5:_=_:=hP 5 (hD 5 (by decide))
    have e6:_=_:=hP 6 (hD 6 (by decide))
    have e7:_=_:=hP 7 (hD 7 (by decide))
    have e9:_=_:=hP 9 (hD 9 (by decide))
    have e10:_=_:=hP 10 (hD 10 (by decide))
    have e11:_=_:=hP 11 (hD 11 (by decide))
    have e12:_=_:=hP 12 (hD 12 (by decide))
    rw[show D 8=true from hD 8 (by decide),show D 13=true from hD 13 (by decide)] at hW
    have HW:=Lib.hid hW
    clear hW hP hD
    rw[puts_range [some 9,some 10,some 11,some 12,some 13,some 14,some 15,some 16,none,some 17,some 18,some 19,some 20,none] (by kernel_rfl)]
    simp only[putL,Nat.reduceAdd,e0,e1,e2,e3,e4,e5,e6,e7,e9,e10,e11,e12]
    clear e0 e1 e2 e3 e4 e5 e6 e7 e9 e10 e11 e12
    go_simp
    obtain⟨F3,hl3,hk3⟩:=HW.out
    have H3:=Lib.hid (And.intro hl3 hk3)
    clear hl3 hk3
    go_wp2
    go_roundw
    case rel=>exact⟨1,F3,by decide,by go_num,⟨_,_,by rw[← dnB_s,HL.out.2.2.2];exact H3.out.1,fun j=>by
      rw[← dnW_s]
      unfold upd
      by_cases e:j=1
      ·rw[if_pos e,if_pos e]
       rfl
      ·rw[if_neg e,if_neg e]
       exact HL.out.2.1 j⟩,HL.out.2.2.1.trans H3.out.2⟩
    case measure=>simp[intOf]
  ·go_wp2
   refine AnyO.wp_anyI (by kernel_rfl) (by kernel_rfl) (AnyO.InvG (σ:=Unit) (fun σ=>AnyO.pvL [some (.pointer (some ⟨b,0,none⟩)),some (.int .i64 1),some (.pointer (some ⟨b,0,none⟩)),some (.int .i64 1),some (.pointer (some ⟨b,0,none⟩)),some (.pointer (some ⟨b,7,none⟩)),some (.pointer (some ⟨b,10,none⟩)),some (.pointer (some ⟨b,10,none⟩)),none,some (.pointer (some ⟨b,0,none⟩)),some (.pointer (some ⟨b,7,none⟩)),some (.pointer (some ⟨b,10,none⟩)),some (.pointer (some ⟨b,11,none⟩)),none]) (fun _ D u=>GD b c2 sl2 bs2 pk2 F2 3 wr u (D 8) (D 13))) (AnyO.InvG.start (g:=()) (GD.keep (GD.start HL.out.1 (Kp.refl F2 wr)) (below_drew _))) ?_ ?_
   ·intro i hi
    have hi2:i=8∨i=13∨i=0∨i=1∨i=2∨i=3∨i=4∨i=5∨i=6∨i=7∨i=9∨i=10∨i=11∨i=12:=by simp only[List.size_toArray,List.length_cons,List.length_nil] at hi;omega
    clear hi
    rcases hi2 with rfl|rfl|rfl|rfl|rfl|rfl|rfl|rfl|rfl|rfl|rfl|rfl|rfl|rfl
    ·refine AnyO.I rfl [7,0,1] ?_;rintro D vs u σ Q h0 hC hp ac hb K hK
     have s16:_=_:=AnyO.sv 16 7 hb hp Q
     have hst:=Q.out.2
     rw[h0] at hst
     have rr1:=hst.fz 10
     obtain⟨vv,rr2⟩:=hst.cell (j:=3) (by decide)
     have HST:=Lib.hid hst
     clear hst
     go_simp
     exact hK undef _ (AnyO.InvG.step (g:=σ) Q.out.1 trivial (by rw[show AnyO.addD D 8 8=true from rfl,show AnyO.addD D 8 13=D 13 from rfl];exact HST.out.st1 (by decide) (by decide)))
    ·refine AnyO.I rfl [12,8,0,1,2,3,4,5,6,7,8] ?_;rintro D vs u σ Q h0 hC hp ac hb K hK
     have s20:_=_:=AnyO.sv 20 12 hb hp Q
     have hst:=Q.out.2
     rw[h0] at hst
     have rr1:=hst.fz 11
     obtain⟨vv,rr2⟩:=hst.cell (j:=4) (by decide)
     have HST:=Lib.hid hst
     clear hst
     go_simp
     exact hK undef _ (AnyO.InvG.step (g:=σ) Q.out.1 trivial (by rw[show AnyO.addD D 13 13=true from rfl,show AnyO.addD D 13 8=D 8 from rfl];exact HST.out.st2 (by decide) (by decide)))
    all_goals
     refine AnyO.J rfl ?_;rintro D vs u σ Q h0 hC hp ac hb K hK
     try have s0:ac.tmps[0]?.getD undef=.pointer (some ⟨b,0,none⟩):=by rw[hb.out];kernel_rfl
     try have s2:ac.tmps[2]?.getD undef=.int .i64 1:=by rw[hb.out];kernel_rfl
     try have s9:_=_:=AnyO.sv 9 0 hb hp Q
     try have s13:_=_:=AnyO.sv 13 4 hb hp Q
     try have s14:_=_:=AnyO.sv 14 5 hb hp Q
     try have s10:_=_:=AnyO.sv 10 1 hb hp Q
     try have s15:_=_:=AnyO.sv 15 6 hb hp Q
     try have s11:_=_:=AnyO.sv 11 2 hb hp Q
     try have s17:_=_:=AnyO.sv 17 9 hb hp Q
     try have s18:_=_:=AnyO.sv 18 10 hb hp Q
     try have s12:_=_:=AnyO.sv 12 3 hb hp Q
     try have s19:_=_:=AnyO.sv 19 11 hb hp Q
     go_simp
     exact hK _ _ (AnyO.InvG.step (g:=σ) Q.out.1 rfl Q.out.2)
   ·intro D vs u hI hD
    obtain⟨σ,hP,hW⟩:=hI
    have e0:_=_:=hP 0 (hD 0 (by decide))
    have e1:_=_:=hP 1 (hD 1 (by decide))
    have e2:_=_:=hP 2 (hD 2 (by decide))
    have e3:_=_:=hP 3 (hD 3 (by decide))
    have e4:_=_:=hP 4 (hD 4 (by decide))
    have e5:_=_:=hP 5 (hD 5 (by decide))
    have e6:_=_:=hP 6 (hD 6 (by decide))
    have e7:_=_:=hP 7 (hD 7 (by decide))
    have e9:_=_:=hP 9 (hD 9 (by decide))
    have e10:_=_:=hP 10 (hD 10 (by decide))
    have e11:_=_:=hP 11 (hD 11 (by decide))
    have e12:_=_:=hP 12 (hD 12 (by decide))
    rw[show D 8=true from hD 8 (by decide),show D 13=true from hD 13 (by decide)] at hW
    have HW:=Lib.hid hW
    clear hW hP hD
    rw[puts_range [some 9,some 10,some 11,some 12,some 13,some 14,some 15,some 16,none,some 17,some 18,some 19,some 20,none] (by kernel_rfl)]
    simp only[putL,Nat.reduceAdd,e0,e1,e2,e3,e4,e5,e6,e7,e9,e10,e11,e12]
    clear e0 e1 e2 e3 e4 e5 e6 e7 e9 e10 e11 e12
    go_simp
    obtain⟨F3,hl3,hk3⟩:=HW.out
    have H3:=Lib.hid (And.intro hl3 hk3)
    clear hl3 hk3
    go_wp2
    go_roundw
    case rel=>exact⟨2,F3,by decide,by go_num,⟨_,_,by rw[← dnB_s,HL.out.2.2.2];exact H3.out.1,fun j=>by
      rw[← dnW_s]
      unfold upd
      by_cases e:j=4
      ·rw[if_pos e,if_pos e]
       rfl
      ·rw[if_neg e,if_neg e]
       exact HL.out.2.1 j⟩,HL.out.2.2.1.trans H3.out.2⟩
    case measure=>simp[intOf]
  ·go_wp2
   go_end0
   refine⟨rfl,F2,⟨sl2,pk2,?_,HL.out.2.1⟩,HL.out.2.2.1⟩
   rw[HC.out,HL.out.2.2.2]
   exact HL.out.1
theorem drop25 (b:Nat) (c:Lc) (bs:Nat→List UInt8) (wy:Nat→List (List UInt8×Nat)) (F:List Nat) (w:World) (h:LnAt b c bs wy F w) (hup:c.up=true) :
  Calls Tryz.prog 25 #[.pointer (some ⟨b,0,none⟩)] w fun e w'=>e=.returned (.int .i64 0)∧DnP b c bs wy F w w':=by
 have k5:w.cell? ⟨b,5,none⟩=some (.bool true):=by
  obtain⟨sl,pk,h,_⟩:=h
  rw[← hup]
  exact h.row.cell 5
 have HB:=Lib.hid h
 clear h
 go_enter Tryz.func25,Tryz.ntmps25
 go_wp2_with (go_at_call 51;refine (goDown51 b c bs wy F w HB.out).mono ?_;rintro e w2 ⟨rfl,hd2⟩;have H2:=Lib.hid hd2;clear hd2)
 go_ret
 exact⟨rfl,H2.out⟩
open Go.RowKit
theorem phase71 (x:Cf) (hp:x.period=10) (t:Nat) (w:World):Calls Tryz.prog 71 #[vCf x,.int .i64 (t:Int)] w fun e w'=>e=.returned (.int .i64 ((t % 10:Nat):Int))∧Below w.heap.size w w':=by
 have k2:(w.alloc (.cells (aCf x) 57)).cell? ⟨w.heap.size,2,none⟩=some (.int .i64 10):=by rw[← hp];exact (Row.new w (cCf x) _).cell 2
 have hm:(t:Int).tmod 10=((t % 10:Nat):Int):=by
  rw[Int.tmod_eq_emod_of_nonneg (by omega)]
  omega
 go_enter Tryz.func71,Tryz.ntmps71
 go_wp2
 go_ret
 exact⟨by rfl,below_alloc _ _⟩
theorem Sl.wi {w:World} {A:Option Addr} {xs:List Wi} (h:Sl w cWi A xs) {k:Nat} (hk:k<xs.length):∃ ad,A=some ad∧okA w (ad.add (k * 2)) 2=true∧rdA w (ad.add (k * 2)) 2=vWi xs[k]:=by
 obtain⟨ad,rfl,hat⟩:=Sl.at_ cWi_length h hk
 have h1:=hat.ok
 have h2:=hat.rd
 rw[cWi_length] at h1 h2
 exact⟨ad,rfl,h1,h2⟩
set_option maxRecDepth 100000 in
set_option maxHeartbeats 800000 in
theorem connected35 (x:Cf) (A:Addr) (cw:Nat) (hc:x.win=(some A,1,cw)) (hp:x.period=10) (t:Nat) (w:World) (hw:Sl w cWi (some A) [(0,10)]):Calls Tryz.prog 35 #[vCf x,.int .i64 (t:Int)] w fun e w'=>e=.returned (.bool true)∧Below w.heap.size w w':=by
 obtain⟨g,W1,hg,hW1,hb1,k3⟩:∃ g W1,w.heap.size=g∧w.alloc (.cells (aCf x) 57)=W1∧Below w.heap.size w W1∧Row W1 g (cCf x) 57:=⟨_,_,rfl,rfl,below_alloc _ _,Row.new _ _ _⟩
 have c3:W1.cell? ⟨g,3,none⟩=some (.slice (some A) 1 cw):=by
  have h:=k3.cell 3
  rw[show (cCf x)[3]? = some (sv x.win) from rfl,hc] at h
  exact h
 have l1:=(Row.okw k3 (cCf_length x)).1
 have l2:rdA W1 ⟨g,0,none⟩ 4=vCf x:=(Row.okw k3 (cCf_length x)).2
 have HS:=Lib.hid (hw.keep hb1)
 have HB:=Lib.hid (And.intro hb1 k3)
 have hm:((t % 10:Nat):Int)<10:=by omega
 have hm0:(0:Int)≤((t % 10:Nat):Int):=by omega
 obtain⟨m,hmm⟩:∃ m,t % 10=m:=⟨_,rfl⟩
 have HP:=Lib.hid (fun u=>phase71 x hp t u)
 rw[hmm] at hm hm0 HP
 clear hw hb1 k3 hmm
 go_enter Tryz.func35,Tryz.ntmps35
 go_wp2_with (go_at_call 71;refine (HP.out W1).mono ?_;rintro e w2 ⟨rfl,hb2⟩;have c4:=cell_below c3 hb2;have hs2:=HS.out.keep hb2;have H2:=Lib.hid (And.intro hs2 hb2);clear hb2 hs2)
 go_loopw [14] (fun i wr=>i=.int .i64 0∧wr=w2) (fun _ _=>1)
 case atStart=>exact⟨rfl,rfl⟩
 case round =>
  obtain⟨rfl,rfl⟩:=hrel
  obtain⟨ad,e,r1,r2⟩:=Sl.wi H2.out.1 (k:=0) (by decide)
  obtain rfl:A=ad:=by injection e
  have e0:A.add (0 * 2)=A:=by unfold Addr.add;rfl
  rw[e0] at r1 r2
  have r3:rdA wr A 2=vWi (0,10):=r2
  clear r2 e e0
  go_wp2
  go_ret
  exact⟨rfl,Below.step (Below.step HB.out.1 H2.out.2) (below_alloc _ _)⟩
open Go.RowKit
structure PM (b:Nat) (c:Lc) (sl:Nat→SlV) (bs:Nat→List UInt8) (pk:Nat→List Pkt) (F:List Nat) (k m mm:Nat) (t:Int) (W:World) (σ:(Option Addr×Nat)×SlV×List Nat×Nat) (d1 d2 d3:Bool) (u:World):Prop where
 s0:d1=false→Below W.heap.size W u
 s1:d1=true→LnR b c (upd sl k σ.2.1) (upd bs k ((bs k).drop m)) pk σ.2.2.1 u∧Kp F σ.2.2.1 W u∧Own u W.heap.size 5 1 c1 (.slice σ.1.1 (mm) σ.1.2) ((bs k).take m)∧∀ g∈σ.2.2.1,g∈F
 s2:d2=true→Row u σ.2.2.2 (cPk (bif d3 then ((σ.1.1,mm,σ.1.2),t) else zPk)) 162∧W.heap.size≤σ.2.2.2
 s3:d1=true→d2=true→σ.2.2.2∉σ.2.2.1∧∀ g,blkA σ.1.1=some g→g≠σ.2.2.2
 sz:W.heap.size≤u.heap.size
section
variable {b : Nat} {c : Lc} {sl : Nat → SlV} {bs : Nat → List UInt8} {pk : Nat → List Pkt} {F : List Nat} {k m mm : Nat} {t : Int} {W u u' : World} {σ : (Option Addr × Nat) × SlV × List Nat × Nat} {d1 d2 d3 : Bool}
theorem own_blk {w:World} {base:Nat} {e:TypeId} {s n c:Nat} {A:Option Addr} {α:Type} {enc:α→List Value} {xs:List α} (h:Own w base e s enc (.slice A n c) xs) {g:Nat} (hg:blkA A=some g):base≤g∧g<w.heap.size:=by
 refine Own.lt h g ?_
 cases A with
 | none=>cases hg
 | some a=>simpa[blkA,Value.ownBlock] using hg
theorem own_eq {A:Option Addr} {n c g:Nat}:(Value.slice A n c).ownBlock=some g↔blkA A=some g:=by
 cases A with
 | none=>simp[blkA,Value.ownBlock]
 | some a=>simp[blkA,Value.ownBlock]
theorem PM.start (h:Below W.heap.size W u):PM b c sl bs pk F k m mm t W σ false false false u :=
 ⟨fun _=>h,fun e=>(by cases e),fun e=>(by cases e),fun e=>(by cases e),h.size⟩
theorem PM.took (h:PM b c sl bs pk F k m mm t W σ false d2 false u) (hF:∀ g∈F,g<W.heap.size) (A:Option Addr) (c':Nat) (v:SlV) (F':List Nat)
  (ho:Own u' u.heap.size 5 1 c1 (.slice A (mm) c') ((bs k).take m)) (hl:LnR b c (upd sl k v) (upd bs k ((bs k).drop m)) pk F' u') (hk:Kp F F' u u') (hf:∀ g∈F',g∈F) :
  PM b c sl bs pk F k m mm t W ((A,c'),v,F',σ.2.2.2) true d2 false u':=by
 have hb:=h.s0 rfl
 refine⟨fun e=>(by cases e),fun _=>⟨hl,Kp.grew hb hk,ho.mono hb.size,hf⟩,fun e=>?_,fun _ e=>?_,Nat.le_trans h.sz hk.size⟩
 ·obtain⟨h1,h2⟩:=h.s2 e
  exact⟨h1.same (hk.out _ h1.lt (fun hm=>by have:=hF _ hm;omega)).2,h2⟩
 ·obtain⟨h1,h2⟩:=h.s2 e
  exact⟨(hk.out _ h1.lt (fun hm=>by have:=hF _ hm;omega)).1,fun g hg e2=>by have e3:g=σ.2.2.2:=e2;have:=(own_blk ho hg).1;have:=h1.lt;omega⟩
theorem PM.made (h:PM b c sl bs pk F k m mm t W σ d1 false false u):PM b c sl bs pk F k m mm t W (σ.1,σ.2.1,σ.2.2.1,u.heap.size) d1 true false (u.alloc (.cells (aPk zPk) 162)):=by
 have hb:=below_alloc u (.cells (aPk zPk) 162)
 refine⟨fun e=>Below.step (h.s0 e) hb,fun e=>?_,fun _=>⟨Row.new u (cPk zPk) _,h.sz⟩,fun e _=>?_,Nat.le_trans h.sz hb.size⟩
 ·obtain⟨h1,h2,h3,h8⟩:=h.s1 e
  exact⟨h1.keep hb,h2.trans (Kp.of_below hb),h3.keep hb,h8⟩
 ·obtain⟨h1,h2,h3,h8⟩:=h.s1 e
  exact⟨fun hm=>(by have h9:u.heap.size<u.heap.size:=h1.lt _ hm;omega),fun g hg e2=>by have e3:g=u.heap.size:=e2;have:=(own_blk h3 hg).2;omega⟩
theorem PM.put (h:PM b c sl bs pk F k m mm t W σ true true false u) (hF:∀ g∈F,g<W.heap.size):PM b c sl bs pk F k m mm t W σ true true true (u.setRow σ.2.2.2 (aPk ((σ.1.1,mm,σ.1.2),t))):=by
 obtain⟨h1,h2,h3,h8⟩:=h.s1 rfl
 obtain⟨h4,h5⟩:=h.s2 rfl
 obtain⟨h6,h7⟩:=h.s3 rfl rfl
 have ho:One σ.2.2.2 u (u.setRow σ.2.2.2 (aPk ((σ.1.1,mm,σ.1.2),t))):=One.setRow _ _
 refine⟨fun e=>(by cases e),fun _=>⟨h1.same ho.size (fun g hg=>ho.out g (h1.lt g hg) (fun e=>h6 (e▸hg))),?_,h3.same (fun g hg=>ho.out g (Own.lt h3 g hg).2 (h7 g (own_eq.1 hg))),h8⟩,fun _=>⟨Row.setRow h4 _,h5⟩,fun _ _=>⟨h6,h7⟩,Nat.le_trans h.sz ho.size⟩
 exact⟨ho.os.trans h2.os,ho.tape.trans h2.tape,ho.output.trans h2.output,Nat.le_trans h2.size ho.size,fun g hg hn=>⟨(h2.out g hg hn).1,(ho.out g (Nat.lt_of_lt_of_le hg h2.size) (by omega)).trans (h2.out g hg hn).2⟩⟩
theorem PM.cell (h:PM b c sl bs pk F k m mm t W σ d1 d2 d3 u) (hW:LnR b c sl bs pk F W) {i:Nat} {v:Value} (hi:∀ s:Nat→SlV,(cLi (c,s))[i]? = some v):u.cell? ⟨b,i,none⟩=some v:=by
 cases d1 with
 | false=>exact ((hW.keep (h.s0 rfl)).row.cell i).trans (hi _)
 | true=>exact ((h.s1 rfl).1.row.cell i).trans (hi _)
end
structure PA (b:Nat) (c:Lc) (sl:Nat→SlV) (bs:Nat→List UInt8) (pk:Nat→List Pkt) (F:List Nat) (k:Nat) (p:Pkt) (G:List Nat) (W:World) (σ:Nat×SlV) (d1 d2 d3:Bool) (u:World):Prop where
 s0:d2=false→Below W.heap.size W u
 s1:d1=true→d2=false→Sl u cPk (some ⟨σ.1,0,none⟩) [pkC p]
 s2:d2=true→d3=false→W.grownBy u (blkA (sl k).1)∧Os u 162 2 cPk σ.2.1 σ.2.2.1 σ.2.2.2 ((pk k++[p]).map pkC)∧∀ g,blkA σ.2.1=some g→blkA (sl k).1=some g∨W.heap.size≤g
 s3:d2=true→d3=true→∃ F',LnR b c (upd sl k σ.2) bs (upd pk k (pk k++[p])) F' u∧∀ g,g<W.heap.size→g∉F→(g∉G→g∉F')∧u.heap[g]? = W.heap[g]?
 sz:W.heap.size≤u.heap.size
 fr:u.os=W.os∧u.tape=W.tape∧u.output=W.output
section
variable {b : Nat} {c : Lc} {sl : Nat → SlV} {bs : Nat → List UInt8} {pk : Nat → List Pkt} {F : List Nat} {k : Nat} {p : Pkt} {G : List Nat} {W u u' : World} {σ : Nat × SlV} {d1 d2 d3 : Bool}
theorem PA.start (h:Below W.heap.size W u):PA b c sl bs pk F k p G W σ false false false u :=
 ⟨fun _=>h,fun e=>(by cases e),fun e=>(by cases e),fun e=>(by cases e),h.size,h.os,h.tape,h.output⟩
theorem PA.one (h:PA b c sl bs pk F k p G W σ false false false u):PA b c sl bs pk F k p G W (u.heap.size,σ.2) true false false (u.alloc (.cells (aPks [pkC p]) 162)):=by
 have hb:=below_alloc u (.cells (aPks [pkC p]) 162)
 have hb2:=Below.step (h.s0 rfl) hb
 exact⟨fun _=>hb2,fun _ _=>fun _=>⟨_,rfl,at_new u _ _ _ rfl⟩,fun e=>(by cases e),fun e=>(by cases e),hb2.size,hb2.os,hb2.tape,hb2.output⟩
theorem PA.apped (h:PA b c sl bs pk F k p G W σ true false false u) {A':Option Addr} {n' c':Nat} (ho:Os u' 162 2 cPk A' n' c' ((pk k++[p]).map pkC)) (hg:OsGrew u (sl k).1 u' A'):PA b c sl bs pk F k p G W (σ.1,A',n',c') true true false u':=by
 have hb:=h.s0 rfl
 refine⟨fun e=>(by cases e),fun _ e=>(by cases e),fun _ _=>⟨below_grown hb hg.grown,ho,fun g e=>?_⟩,fun _ e=>(by cases e),Nat.le_trans h.sz hg.grown.size,hg.grown.os.trans hb.os,hg.grown.tape.trans hb.tape,hg.grown.output.trans hb.output⟩
 rcases hg.blk with h1|h1
 ·exact Or.inl (h1▸e)
 ·rw[h1] at e
  injection e with e
  subst e
  exact Or.inr hb.size
theorem PA.stored (h:PA b c sl bs pk F k p G W σ true true false u) (hW:LnR b c sl bs pk F W) (hk:k<6) (hm:k % 3=1) (hp:Sl W c1 p.1.1 p.2.1) (hp2:p.1.2.1=p.2.1.length) (hp3:∀ g,blkA p.1.1=some g→g∈G) (hG:∀ g∈G,g<W.heap.size∧g∉F) :
  PA b c sl bs pk F k p G W σ true true true (u.setCell ⟨b,7+k,none⟩ (sv σ.2)):=by
 obtain⟨h1,h2,h3⟩:=h.s2 rfl rfl
 obtain⟨h4,h5⟩:=hW.setP hk hm h2 h1 h3 (fun q hq=>by
  rcases List.mem_append.1 hq with hq|hq
  ·exact Or.inl hq
  ·rw[List.mem_singleton.1 hq]
   exact Or.inr ⟨hp,hp2,hp3⟩) hG
 refine⟨fun e=>(by cases e),fun _ e=>(by cases e),fun _ e=>(by cases e),fun _ _=>⟨_,h4,fun g hg hF=>⟨fun hgG hm2=>?_,h5 g hg hF⟩⟩,by simpa[World.setCell] using h.sz,h.fr⟩
 rcases List.mem_append.1 hm2 with h6|h6
 ·have h7:blkA σ.2.1=some g:=by
   unfold blkL at h6
   unfold blkA
   cases he:σ.2.1 with
   | none=>rw[he] at h6;cases h6
   | some a=>rw[he] at h6;simp at h6;simp[h6]
  rcases h3 g h7 with h8|h8
  ·exact hF (hW.sep k g hk h8).2.1
  ·omega
 ·rcases List.mem_append.1 h6 with h7|h7
  ·exact hgG h7
  ·exact hF h7
theorem PA.row (h:PA b c sl bs pk F k p G W σ d1 d2 false u) (hW:LnR b c sl bs pk F W) (hk:k<6):Row u b (cLi (c,sl)) 100:=by
 cases d2 with
 | false=>exact hW.row.keep (h.s0 rfl)
 | true=>exact hW.row.same ((h.s2 rfl rfl).1.block b hW.row.lt (fun e=>(hW.sep k b hk e.symm).1 rfl))
end
end Go.Proofs.YtdkjgcfhepplbaaGreatDoor
