/- Two different items with one digest: collide. -/
import Derived.Test.YtecalodcbkljoaaGreatDoorMRtx
import Derived.Test.YtecalodcbkljoaaGreatDoorMPkp
import Derived.Test.YtecalodcbkljoaaGreatDoorMAnyG
namespace Go.Proofs.YtecalodcbkljoaaGreatDoor
open Go.RowKit
/-- Where the region's new memory lies. -/
structure CoG where
  g5 : Nat
  g6 : Nat
  p : Option Addr
  cp : Nat
  q : Option Addr
  cq : Nat
/-- The region's memory: the two messages as bytes, the two variables of the digests. -/
structure CoW (x y : It) (W0 : World) (σ : CoG) (d7 d16 d18 d19 d20 d21 : Bool) (u : World) : Prop where
  bl : Below W0.heap.size W0 u
  s7 : d7 = true → d20 = false → Sl u c1 σ.p (msgL x) ∧ (msgL x).length ≤ σ.cp
  s16 : d16 = true → d21 = false → d20 = false → Sl u c1 σ.q (msgL y) ∧ (msgL y).length ≤ σ.cq
  a5 : d18 = true → W0.heap.size ≤ σ.g5 ∧ σ.g5 < u.heap.size ∧ Row u σ.g5 (cI (if d20 then shI x else zI)) 35
  a6 : d19 = true → W0.heap.size ≤ σ.g6 ∧ σ.g6 < u.heap.size ∧ Row u σ.g6 (cI (if d21 then shI y else zI)) 35
  ne : d18 = true → d19 = true → σ.g5 ≠ σ.g6
section
variable {x y : It} {W0 : World} {σ : CoG} {d7 d16 d18 d19 d20 d21 : Bool} {u u' : World}
theorem CoW.start (h : Below W0.heap.size W0 u) : CoW x y W0 σ false false false false false false u := ⟨h, (fun h => by cases h), (fun h => by cases h), (fun h => by cases h), (fun h => by cases h), (fun h => by cases h)⟩
theorem CoW.read (h : CoW x y W0 σ d7 d16 d18 d19 d20 d21 u) (hb : Below u.heap.size u u') : CoW x y W0 σ d7 d16 d18 d19 d20 d21 u' :=
  ⟨Below.step h.bl hb, fun h1 h2 => ⟨(h.s7 h1 h2).1.keep hb, (h.s7 h1 h2).2⟩, fun h1 h2 h3 => ⟨(h.s16 h1 h2 h3).1.keep hb, (h.s16 h1 h2 h3).2⟩, fun h1 => ⟨(h.a5 h1).1, Nat.lt_of_lt_of_le (h.a5 h1).2.1 hb.size, (h.a5 h1).2.2.keep hb⟩, fun h1 => ⟨(h.a6 h1).1, Nat.lt_of_lt_of_le (h.a6 h1).2.1 hb.size, (h.a6 h1).2.2.keep hb⟩, h.ne⟩
theorem CoW.conv7 (h : CoW x y W0 σ d7 d16 d18 d19 d20 d21 u) (_h0 : d7 = false) (hb : Below u.heap.size u u') {A : Option Addr} {c : Nat} (hs : Sl u' c1 A (msgL x)) (hc : (msgL x).length ≤ c) : CoW x y W0 { σ with p := A, cp := c } true d16 d18 d19 d20 d21 u' :=
  have k := h.read hb
  ⟨k.bl, fun _ _ => ⟨hs, hc⟩, k.s16, k.a5, k.a6, k.ne⟩
theorem CoW.conv16 (h : CoW x y W0 σ d7 d16 d18 d19 d20 d21 u) (_h0 : d16 = false) (hb : Below u.heap.size u u') {A : Option Addr} {c : Nat} (hs : Sl u' c1 A (msgL y)) (hc : (msgL y).length ≤ c) : CoW x y W0 { σ with q := A, cq := c } d7 true d18 d19 d20 d21 u' :=
  have k := h.read hb
  ⟨k.bl, k.s7, fun _ _ _ => ⟨hs, hc⟩, k.a5, k.a6, k.ne⟩
theorem CoW.al5 (h : CoW x y W0 σ d7 d16 d18 d19 d20 d21 u) (_h0 : d18 = false) (h20 : d20 = false) : CoW x y W0 { σ with g5 := u.heap.size } d7 d16 true d19 d20 d21 (u.alloc (.cells (aI zI) 35)) := by
  have k := h.read (below_alloc u (.cells (aI zI) 35))
  refine ⟨k.bl, k.s7, k.s16, fun _ => ⟨h.bl.size, by simp, ?_⟩, k.a6, fun _ h2 e => ?_⟩
  · rw [h20]
    exact Row.new u (cI zI) _
  · have := (h.a6 h2).2.1
    have e2 : u.heap.size = σ.g6 := e
    omega
theorem CoW.al6 (h : CoW x y W0 σ d7 d16 d18 d19 d20 d21 u) (_h0 : d19 = false) (h21 : d21 = false) : CoW x y W0 { σ with g6 := u.heap.size } d7 d16 d18 true d20 d21 (u.alloc (.cells (aI zI) 35)) := by
  have k := h.read (below_alloc u (.cells (aI zI) 35))
  refine ⟨k.bl, k.s7, k.s16, k.a5, fun _ => ⟨h.bl.size, by simp, ?_⟩, fun h2 _ e => ?_⟩
  · rw [h21]
    exact Row.new u (cI zI) _
  · have := (h.a5 h2).2.1
    have e2 : σ.g5 = u.heap.size := e
    omega
theorem CoW.st5 (h : CoW x y W0 σ d7 d16 d18 d19 d20 d21 u) (h18 : d18 = true) (h20 : d20 = false) (_h21 : d21 = false) : CoW x y W0 σ d7 d16 d18 d19 true d21 (u.setRow σ.g5 (aI (shI x))) := by
  obtain ⟨k1, k2, k3⟩ := h.a5 h18
  rw [h20] at k3
  refine ⟨Below.setRow h.bl k1 _, (fun _ e => by cases e), (fun _ _ e => by cases e), fun _ => ⟨k1, by simpa [World.setRow] using k2, k3.setRow⟩, fun e => ?_, h.ne⟩
  obtain ⟨j1, j2, j3⟩ := h.a6 e
  exact ⟨j1, by simpa [World.setRow] using j2, j3.setRow_ne (fun e2 => h.ne h18 e e2.symm)⟩
theorem CoW.st6 (h : CoW x y W0 σ d7 d16 d18 d19 d20 d21 u) (h19 : d19 = true) (h20 : d20 = true) (h21 : d21 = false) : CoW x y W0 σ d7 d16 d18 d19 d20 true (u.setRow σ.g6 (aI (shI y))) := by
  obtain ⟨k1, k2, k3⟩ := h.a6 h19
  rw [h21] at k3
  refine ⟨Below.setRow h.bl k1 _, fun _ e => (by rw [h20] at e; cases e), fun _ e => (by cases e), fun e => ?_, fun _ => ⟨k1, by simpa [World.setRow] using k2, k3.setRow⟩, h.ne⟩
  obtain ⟨j1, j2, j3⟩ := h.a5 e
  exact ⟨j1, by simpa [World.setRow] using j2, j3.setRow_ne (h.ne e h19)⟩
theorem CoW.fin (h : CoW x y W0 σ d7 d16 d18 d19 d20 d21 u) (h18 : d18 = true) (h19 : d19 = true) (h20 : d20 = true) (h21 : d21 = true) : Below W0.heap.size W0 u ∧ Row u σ.g5 (cI (shI x)) 35 ∧ Row u σ.g6 (cI (shI y)) 35 := by
  have h1 := (h.a5 h18).2.2
  have h2 := (h.a6 h19).2.2
  rw [h20] at h1
  rw [h21] at h2
  exact ⟨h.bl, h1, h2⟩
theorem half_sl {g : Nat} (h : Row u g (cI (shI x)) 35) : Sl u c1 (some ⟨g, 0, none⟩) ((sha (msgL x)).take 16) :=
  (Sl.ofAt (h.at_ (k := 0) (n := 32) (by rw [List.drop_zero, List.take_of_length_le (by rw [cI_length]; omega)]; rfl)) : Sl u c1 (some ⟨g, 0, none⟩) (sha (msgL x))).take 16
end
/-- What collide says. -/
def collB (x y : It) : Bool := !decide (x = y) && decide ((sha (msgL x)).take 16 = (sha (msgL y)).take 16)
theorem msg_parts (x : It) (_hx : x.text.size ≤ 1000000) : ∃ t p m : ByteArray, textS x.id = t ∧ t ++ ⟨#[10]⟩ = p ∧ p ++ x.text = m ∧ bl m = msgL x ∧ t.size = 71 ∧ p.size = 72 ∧ (msgL x).length = 72 + x.text.size ∧ m.size = 72 + x.text.size := by
  refine ⟨_, _, _, rfl, rfl, rfl, ?_, idS_size _, ?_, ?_, ?_⟩
  · rw [bl_app, bl_app, List.append_assoc]; rfl
  · rw [ByteArray.size_append]; show (idS x.id).size + 1 = 72; rw [idS_size]
  · unfold msgL; rw [List.length_append, textL_len, List.length_cons, bl_length]; omega
  · rw [ByteArray.size_append, ByteArray.size_append]; show (idS x.id).size + 1 + x.text.size = _; rw [idS_size]
set_option maxRecDepth 100000 in
set_option maxHeartbeats 12800000 in
theorem collide_b (x y : It) (w : World) (hx : x.text.size ≤ 1000000) (hy : y.text.size ≤ 1000000) : Calls Tryz.prog 20 #[vX x, vX y] w fun e w' => e = .returned (.bool (collB x y)) ∧ Below w.heap.size w w' := by
  obtain ⟨b, hb⟩ : ∃ b, w.heap.size = b := ⟨_, rfl⟩
  obtain ⟨W0, hW0⟩ : ∃ W0, (w.alloc (.cells (aX x) 39)).alloc (.cells (aX y) 39) = W0 := ⟨_, rfl⟩
  have HX := Lib.hid (show Row W0 b (cX x) 39 ∧ Row W0 (b + 1) (cX y) 39 ∧ Below w.heap.size w W0 from by
    subst hW0 hb
    refine ⟨(Row.new w (cX x) _).keep (below_alloc _ _), ?_, Below.step (below_alloc _ _) (below_alloc _ _)⟩
    have := Row.new (w.alloc (.cells (aX x) 39)) (cX y) 39
    rwa [show (w.alloc (.cells (aX x) 39)).heap.size = w.heap.size + 1 by simp] at this)
  obtain ⟨tx, px, mx, a1, a2, a3, a4, a5, a6, a7, a8⟩ := msg_parts x hx
  obtain ⟨ty, py, my, b1, b2, b3, b4, b5, b6, b7, b8⟩ := msg_parts y hy
  obtain ⟨nx, hnx⟩ : ∃ nx, (msgL x).length = nx := ⟨_, rfl⟩
  obtain ⟨ny, hny⟩ : ∃ ny, (msgL y).length = ny := ⟨_, rfl⟩
  have HT := Lib.hid (And.intro a1 b1)
  have HS := Lib.hid (And.intro hx hy)
  have HA := Lib.hid (show tx ++ ⟨#[10]⟩ = px ∧ px ++ x.text = mx ∧ bl mx = msgL x ∧ tx.size = 71 ∧ px.size = 72 ∧ (msgL x).length = nx ∧ mx.size = nx ∧ (msgL x).length ≤ 1073741824 from ⟨a2, a3, a4, a5, a6, hnx, by omega, by omega⟩)
  have HB := Lib.hid (show ty ++ ⟨#[10]⟩ = py ∧ py ++ y.text = my ∧ bl my = msgL y ∧ ty.size = 71 ∧ py.size = 72 ∧ (msgL y).length = ny ∧ my.size = ny ∧ (msgL y).length ≤ 1073741824 from ⟨b2, b3, b4, b5, b6, hny, by omega, by omega⟩)
  have HBB := Lib.hid hb
  clear a1 a2 a3 a4 a5 a6 a7 a8 b1 b2 b3 b4 b5 b6 b7 b8 hnx hny hx hy
  go_enter Tryz.func20, Tryz.ntmps20
  go_wp2_with fail
  clear hb hW0
  refine AnyO.wp_anyI (by kernel_rfl) (by kernel_rfl) (AnyO.InvG (σ := CoG) (fun σ => AnyO.pvL [some (.pointer (some ⟨b, 0, none⟩)), some (vI x.id), some (.string tx), some (.string px), some (.pointer (some ⟨b, 32, none⟩)), some (.string x.text), some (.string mx), some (.slice σ.p nx σ.cp), some (vI (shI x)), some (.pointer (some ⟨b + 1, 0, none⟩)), some (vI y.id), some (.string ty), some (.string py), some (.pointer (some ⟨b + 1, 32, none⟩)), some (.string y.text), some (.string my), some (.slice σ.q ny σ.cq), some (vI (shI y)), some (.pointer (some ⟨σ.g5, 0, none⟩)), some (.pointer (some ⟨σ.g6, 0, none⟩)), none, none]) (fun σ D u => CoW x y W0 σ (D 7) (D 16) (D 18) (D 19) (D 20) (D 21) u)) (AnyO.InvG.start (g := ⟨0, 0, none, 0, none, 0⟩) (CoW.start (below_drew _))) ?_ ?_
  · intro i hi
    have hi2 : i = 0 ∨ i = 1 ∨ i = 2 ∨ i = 3 ∨ i = 4 ∨ i = 5 ∨ i = 6 ∨ i = 7 ∨ i = 8 ∨ i = 9 ∨ i = 10 ∨ i = 11 ∨ i = 12 ∨ i = 13 ∨ i = 14 ∨ i = 15 ∨ i = 16 ∨ i = 17 ∨ i = 18 ∨ i = 19 ∨ i = 20 ∨ i = 21 := by simp only [List.size_toArray, List.length_cons, List.length_nil] at hi; omega
    clear hi
    rcases hi2 with rfl | rfl | rfl | rfl | rfl | rfl | rfl | rfl | rfl | rfl | rfl | rfl | rfl | rfl | rfl | rfl | rfl | rfl | rfl | rfl | rfl | rfl
    · -- 0: Op.fieldAddr 39 (Operand.tmp 2) 0
      refine AnyO.StepI.mk rfl [] (by kernel_rfl) ?_
      intro D vs u hI h0 hC hp ac hb K hK
      obtain ⟨σ, hP, hW⟩ := hI
      have s2 : ac.tmps[2]?.getD undef = .pointer (some ⟨b, 0, none⟩) := by rw [hb]; kernel_rfl
      rw [if_pos (AnyO.wanted_none rfl)]
      clear hb hp
      clear hC
      clear h0
      have HP := Lib.hid hP
      have HWq := Lib.hid hW
      clear hP hW
      go_simp
      have hP := HP.out
      have hW := HWq.out
      clear HP HWq
      exact hK _ _ (AnyO.InvG.step (g := σ) hP rfl (CoW.read hW (Below.refl _ _)))
    · -- 1: Op.load 36 (Operand.tmp 7)
      refine AnyO.StepI.mk rfl [0] (by kernel_rfl) ?_
      intro D vs u hI h0 hC hp ac hb K hK
      obtain ⟨σ, hP, hW⟩ := hI
      have s7 : ac.tmps[7]?.getD undef = .pointer (some ⟨b, 0, none⟩) := by rw [hb]; exact (show _ = vs 0 by kernel_rfl).trans (show vs 0 = .pointer (some ⟨b, 0, none⟩) from hP 0 (hp 0 (by decide)))
      rw [if_pos (AnyO.wanted_none rfl)]
      clear hb hp
      obtain ⟨-, ⟨x1, x2⟩, -⟩ := rowX (HX.out.1.keep hW.bl)
      clear hC
      clear h0
      have HP := Lib.hid hP
      have HWq := Lib.hid hW
      clear hP hW
      go_simp
      have hP := HP.out
      have hW := HWq.out
      clear HP HWq
      exact hK _ _ (AnyO.InvG.step (g := σ) hP rfl (CoW.read hW (Below.refl _ _)))
    · -- 2: Op.call { callee := Callee.value (Operand.func 46), args := 
      refine AnyO.StepI.mk rfl [1] (by kernel_rfl) ?_
      intro D vs u hI h0 hC hp ac hb K hK
      obtain ⟨σ, hP, hW⟩ := hI
      have s8 : ac.tmps[8]?.getD undef = vI x.id := by rw [hb]; exact (show _ = vs 1 by kernel_rfl).trans (show vs 1 = vI x.id from hP 1 (hp 1 (by decide)))
      rw [if_pos (AnyO.wanted_none rfl)]
      clear hb hp
      clear hC
      clear h0
      have HP := Lib.hid hP
      have HWq := Lib.hid hW
      clear hP hW
      go_simp
      have hP := HP.out
      have hW := HWq.out
      clear HP HWq
      go_at_call 46
      refine (rprint_b x.id u).mono ?_
      rintro e w2 ⟨rfl, hb2⟩
      rw [HT.out.1]
      exact hK _ _ (AnyO.InvG.step (g := σ) hP rfl (CoW.read hW hb2))
    · -- 3: Op.binOp BinOp.add 9 (Operand.tmp 9) (Operand.const (Value.s
      refine AnyO.StepI.mk rfl [2] (by kernel_rfl) ?_
      intro D vs u hI h0 hC hp ac hb K hK
      obtain ⟨σ, hP, hW⟩ := hI
      have s9 : ac.tmps[9]?.getD undef = .string tx := by rw [hb]; exact (show _ = vs 2 by kernel_rfl).trans (show vs 2 = .string tx from hP 2 (hp 2 (by decide)))
      rw [if_pos (AnyO.wanted_none rfl)]
      clear hb hp
      have x1 := HA.out.1
      have x2 : ¬ 9223372036854775807 < tx.size + 1 := by have := HA.out.2.2.2.1; omega
      clear hC
      clear h0
      have HP := Lib.hid hP
      have HWq := Lib.hid hW
      clear hP hW
      go_simp
      have hP := HP.out
      have hW := HWq.out
      clear HP HWq
      exact hK _ _ (AnyO.InvG.step (g := σ) hP rfl (CoW.read hW (Below.refl _ _)))
    · -- 4: Op.fieldAddr 39 (Operand.tmp 2) 1
      refine AnyO.StepI.mk rfl [] (by kernel_rfl) ?_
      intro D vs u hI h0 hC hp ac hb K hK
      obtain ⟨σ, hP, hW⟩ := hI
      have s2 : ac.tmps[2]?.getD undef = .pointer (some ⟨b, 0, none⟩) := by rw [hb]; kernel_rfl
      rw [if_pos (AnyO.wanted_none rfl)]
      clear hb hp
      clear hC
      clear h0
      have HP := Lib.hid hP
      have HWq := Lib.hid hW
      clear hP hW
      go_simp
      have hP := HP.out
      have hW := HWq.out
      clear HP HWq
      exact hK _ _ (AnyO.InvG.step (g := σ) hP rfl (CoW.read hW (Below.refl _ _)))
    · -- 5: Op.load 9 (Operand.tmp 11)
      refine AnyO.StepI.mk rfl [4] (by kernel_rfl) ?_
      intro D vs u hI h0 hC hp ac hb K hK
      obtain ⟨σ, hP, hW⟩ := hI
      have s11 : ac.tmps[11]?.getD undef = .pointer (some ⟨b, 32, none⟩) := by rw [hb]; exact (show _ = vs 4 by kernel_rfl).trans (show vs 4 = .pointer (some ⟨b, 32, none⟩) from hP 4 (hp 4 (by decide)))
      rw [if_pos (AnyO.wanted_none rfl)]
      clear hb hp
      obtain ⟨-, -, x1⟩ := rowX (HX.out.1.keep hW.bl)
      clear hC
      clear h0
      have HP := Lib.hid hP
      have HWq := Lib.hid hW
      clear hP hW
      go_simp
      have hP := HP.out
      have hW := HWq.out
      clear HP HWq
      exact hK _ _ (AnyO.InvG.step (g := σ) hP rfl (CoW.read hW (Below.refl _ _)))
    · -- 6: Op.binOp BinOp.add 9 (Operand.tmp 10) (Operand.tmp 12) 9
      refine AnyO.StepI.mk rfl [3, 5] (by kernel_rfl) ?_
      intro D vs u hI h0 hC hp ac hb K hK
      obtain ⟨σ, hP, hW⟩ := hI
      have s10 : ac.tmps[10]?.getD undef = .string px := by rw [hb]; exact (show _ = vs 3 by kernel_rfl).trans (show vs 3 = .string px from hP 3 (hp 3 (by decide)))
      have s12 : ac.tmps[12]?.getD undef = .string x.text := by rw [hb]; exact (show _ = vs 5 by kernel_rfl).trans (show vs 5 = .string x.text from hP 5 (hp 5 (by decide)))
      rw [if_pos (AnyO.wanted_none rfl)]
      clear hb hp
      have x1 := HA.out.2.1
      have x2 : ¬ 9223372036854775807 < px.size + x.text.size := by have := HA.out.2.2.2.2.1; have := HS.out.1; omega
      clear hC
      clear h0
      have HP := Lib.hid hP
      have HWq := Lib.hid hW
      clear hP hW
      go_simp
      have hP := HP.out
      have hW := HWq.out
      clear HP HWq
      exact hK _ _ (AnyO.InvG.step (g := σ) hP rfl (CoW.read hW (Below.refl _ _)))
    · -- 7: Op.convert 9 47 (Operand.tmp 13)
      refine AnyO.StepI.mk rfl [6] (by kernel_rfl) ?_
      intro D vs u hI h0 hC hp ac hb K hK
      obtain ⟨σ, hP, hW⟩ := hI
      have s13 : ac.tmps[13]?.getD undef = .string mx := by rw [hb]; exact (show _ = vs 6 by kernel_rfl).trans (show vs 6 = .string mx from hP 6 (hp 6 (by decide)))
      rw [if_pos (AnyO.wanted_none rfl)]
      clear hb hp
      obtain ⟨A7, c7, w7, hcv, hb7, hs7, hc7⟩ := conv_sl u mx
      rw [HA.out.2.2.2.2.2.2.1] at hcv
      rw [HA.out.2.2.1] at hs7
      rw [HA.out.2.2.2.2.2.2.1] at hc7
      have HP := Lib.hid hP
      have HWq := Lib.hid hW
      clear hP hW
      go_simp
      have hP := HP.out
      have hW := HWq.out
      clear HP HWq
      refine hK _ _ (AnyO.InvG.ghost (g := σ) { σ with p := A7, cp := c7 } hP ?_ rfl ?_)
      · intro j hj hq
        rcases j with _ | _ | _ | _ | _ | _ | _ | _ | _ | _ | _ | _ | _ | _ | _ | _ | _ | _ | _ | _ | _ | _ | j
        · exact hq
        · exact hq
        · exact hq
        · exact hq
        · exact hq
        · exact hq
        · exact hq
        · exact absurd (show D 7 = true from hj) (by rw [h0]; decide)
        · exact hq
        · exact hq
        · exact hq
        · exact hq
        · exact hq
        · exact hq
        · exact hq
        · exact hq
        · exact hq
        · exact hq
        · exact hq
        · exact hq
        · exact hq
        · exact hq
        · exact hq
      exact hW.conv7 h0 hb7 hs7 (by rw [show (msgL x).length = nx from HA.out.2.2.2.2.2.1]; exact hc7)
    · -- 8: Op.call { callee := Callee.value (Operand.func 45), args := 
      refine AnyO.StepI.mk rfl [7, 2] (by kernel_rfl) ?_
      intro D vs u hI h0 hC hp ac hb K hK
      obtain ⟨σ, hP, hW⟩ := hI
      have s14 : ac.tmps[14]?.getD undef = .slice σ.p nx σ.cp := by rw [hb]; exact (show _ = vs 7 by kernel_rfl).trans (show vs 7 = .slice σ.p nx σ.cp from hP 7 (hp 7 (by decide)))
      rw [if_pos (AnyO.wanted_none rfl)]
      have hp7 : D 7 = true := hp 7 (by decide)
      clear hb hp
      have HP := Lib.hid hP
      have HWq := Lib.hid hW
      clear hP hW
      go_simp
      have hP := HP.out
      have hW := HWq.out
      clear HP HWq
      have hf20 : D 20 = false := by
        rcases hd : D 20 with _ | _
        · rfl
        · have hz := hC 20 hd 8 (by rw [show AnyO.pre _ 20 = [18, 8, 17, 0, 1, 2, 3, 4, 5, 6, 7, 8, 11, 17, 18, 19] from by kernel_rfl]; decide)
          rw [h0] at hz
          cases hz
      obtain ⟨hs, hc⟩ := hW.s7 hp7 hf20
      go_at_call 45
      have hq := rsum_b σ.p σ.cp (msgL x) u hs (by have := HA.out.2.2.2.2.2.2.2; omega)
      rw [show (msgL x).length = nx from HA.out.2.2.2.2.2.1] at hq
      refine hq.mono ?_
      rintro e w2 ⟨rfl, hb2⟩
      exact hK _ _ (AnyO.InvG.step (g := σ) hP rfl (CoW.read hW hb2))
    · -- 9: Op.fieldAddr 39 (Operand.tmp 3) 0
      refine AnyO.StepI.mk rfl [] (by kernel_rfl) ?_
      intro D vs u hI h0 hC hp ac hb K hK
      obtain ⟨σ, hP, hW⟩ := hI
      have s3 : ac.tmps[3]?.getD undef = .pointer (some ⟨b + 1, 0, none⟩) := by rw [hb]; kernel_rfl
      rw [if_pos (AnyO.wanted_none rfl)]
      clear hb hp
      clear hC
      clear h0
      have HP := Lib.hid hP
      have HWq := Lib.hid hW
      clear hP hW
      go_simp
      have hP := HP.out
      have hW := HWq.out
      clear HP HWq
      exact hK _ _ (AnyO.InvG.step (g := σ) hP rfl (CoW.read hW (Below.refl _ _)))
    · -- 10: Op.load 36 (Operand.tmp 16)
      refine AnyO.StepI.mk rfl [9] (by kernel_rfl) ?_
      intro D vs u hI h0 hC hp ac hb K hK
      obtain ⟨σ, hP, hW⟩ := hI
      have s16 : ac.tmps[16]?.getD undef = .pointer (some ⟨b + 1, 0, none⟩) := by rw [hb]; exact (show _ = vs 9 by kernel_rfl).trans (show vs 9 = .pointer (some ⟨b + 1, 0, none⟩) from hP 9 (hp 9 (by decide)))
      rw [if_pos (AnyO.wanted_none rfl)]
      clear hb hp
      obtain ⟨-, ⟨x1, x2⟩, -⟩ := rowX (HX.out.2.1.keep hW.bl)
      clear hC
      clear h0
      have HP := Lib.hid hP
      have HWq := Lib.hid hW
      clear hP hW
      go_simp
      have hP := HP.out
      have hW := HWq.out
      clear HP HWq
      exact hK _ _ (AnyO.InvG.step (g := σ) hP rfl (CoW.read hW (Below.refl _ _)))
    · -- 11: Op.call { callee := Callee.value (Operand.func 46), args := 
      refine AnyO.StepI.mk rfl [10, 8] (by kernel_rfl) ?_
      intro D vs u hI h0 hC hp ac hb K hK
      obtain ⟨σ, hP, hW⟩ := hI
      have s17 : ac.tmps[17]?.getD undef = vI y.id := by rw [hb]; exact (show _ = vs 10 by kernel_rfl).trans (show vs 10 = vI y.id from hP 10 (hp 10 (by decide)))
      rw [if_pos (AnyO.wanted_none rfl)]
      clear hb hp
      clear hC
      clear h0
      have HP := Lib.hid hP
      have HWq := Lib.hid hW
      clear hP hW
      go_simp
      have hP := HP.out
      have hW := HWq.out
      clear HP HWq
      go_at_call 46
      refine (rprint_b y.id u).mono ?_
      rintro e w2 ⟨rfl, hb2⟩
      rw [HT.out.2]
      exact hK _ _ (AnyO.InvG.step (g := σ) hP rfl (CoW.read hW hb2))
    · -- 12: Op.binOp BinOp.add 9 (Operand.tmp 18) (Operand.const (Value.
      refine AnyO.StepI.mk rfl [11] (by kernel_rfl) ?_
      intro D vs u hI h0 hC hp ac hb K hK
      obtain ⟨σ, hP, hW⟩ := hI
      have s18 : ac.tmps[18]?.getD undef = .string ty := by rw [hb]; exact (show _ = vs 11 by kernel_rfl).trans (show vs 11 = .string ty from hP 11 (hp 11 (by decide)))
      rw [if_pos (AnyO.wanted_none rfl)]
      clear hb hp
      have x1 := HB.out.1
      have x2 : ¬ 9223372036854775807 < ty.size + 1 := by have := HB.out.2.2.2.1; omega
      clear hC
      clear h0
      have HP := Lib.hid hP
      have HWq := Lib.hid hW
      clear hP hW
      go_simp
      have hP := HP.out
      have hW := HWq.out
      clear HP HWq
      exact hK _ _ (AnyO.InvG.step (g := σ) hP rfl (CoW.read hW (Below.refl _ _)))
    · -- 13: Op.fieldAddr 39 (Operand.tmp 3) 1
      refine AnyO.StepI.mk rfl [] (by kernel_rfl) ?_
      intro D vs u hI h0 hC hp ac hb K hK
      obtain ⟨σ, hP, hW⟩ := hI
      have s3 : ac.tmps[3]?.getD undef = .pointer (some ⟨b + 1, 0, none⟩) := by rw [hb]; kernel_rfl
      rw [if_pos (AnyO.wanted_none rfl)]
      clear hb hp
      clear hC
      clear h0
      have HP := Lib.hid hP
      have HWq := Lib.hid hW
      clear hP hW
      go_simp
      have hP := HP.out
      have hW := HWq.out
      clear HP HWq
      exact hK _ _ (AnyO.InvG.step (g := σ) hP rfl (CoW.read hW (Below.refl _ _)))
    · -- 14: Op.load 9 (Operand.tmp 20)
      refine AnyO.StepI.mk rfl [13] (by kernel_rfl) ?_
      intro D vs u hI h0 hC hp ac hb K hK
      obtain ⟨σ, hP, hW⟩ := hI
      have s20 : ac.tmps[20]?.getD undef = .pointer (some ⟨b + 1, 32, none⟩) := by rw [hb]; exact (show _ = vs 13 by kernel_rfl).trans (show vs 13 = .pointer (some ⟨b + 1, 32, none⟩) from hP 13 (hp 13 (by decide)))
      rw [if_pos (AnyO.wanted_none rfl)]
      clear hb hp
      obtain ⟨-, -, x1⟩ := rowX (HX.out.2.1.keep hW.bl)
      clear hC
      clear h0
      have HP := Lib.hid hP
      have HWq := Lib.hid hW
      clear hP hW
      go_simp
      have hP := HP.out
      have hW := HWq.out
      clear HP HWq
      exact hK _ _ (AnyO.InvG.step (g := σ) hP rfl (CoW.read hW (Below.refl _ _)))
    · -- 15: Op.binOp BinOp.add 9 (Operand.tmp 19) (Operand.tmp 21) 9
      refine AnyO.StepI.mk rfl [12, 14] (by kernel_rfl) ?_
      intro D vs u hI h0 hC hp ac hb K hK
      obtain ⟨σ, hP, hW⟩ := hI
      have s19 : ac.tmps[19]?.getD undef = .string py := by rw [hb]; exact (show _ = vs 12 by kernel_rfl).trans (show vs 12 = .string py from hP 12 (hp 12 (by decide)))
      have s21 : ac.tmps[21]?.getD undef = .string y.text := by rw [hb]; exact (show _ = vs 14 by kernel_rfl).trans (show vs 14 = .string y.text from hP 14 (hp 14 (by decide)))
      rw [if_pos (AnyO.wanted_none rfl)]
      clear hb hp
      have x1 := HB.out.2.1
      have x2 : ¬ 9223372036854775807 < py.size + y.text.size := by have := HB.out.2.2.2.2.1; have := HS.out.2; omega
      clear hC
      clear h0
      have HP := Lib.hid hP
      have HWq := Lib.hid hW
      clear hP hW
      go_simp
      have hP := HP.out
      have hW := HWq.out
      clear HP HWq
      exact hK _ _ (AnyO.InvG.step (g := σ) hP rfl (CoW.read hW (Below.refl _ _)))
    · -- 16: Op.convert 9 47 (Operand.tmp 22)
      refine AnyO.StepI.mk rfl [15] (by kernel_rfl) ?_
      intro D vs u hI h0 hC hp ac hb K hK
      obtain ⟨σ, hP, hW⟩ := hI
      have s22 : ac.tmps[22]?.getD undef = .string my := by rw [hb]; exact (show _ = vs 15 by kernel_rfl).trans (show vs 15 = .string my from hP 15 (hp 15 (by decide)))
      rw [if_pos (AnyO.wanted_none rfl)]
      clear hb hp
      obtain ⟨A7, c7, w7, hcv, hb7, hs7, hc7⟩ := conv_sl u my
      rw [HB.out.2.2.2.2.2.2.1] at hcv
      rw [HB.out.2.2.1] at hs7
      rw [HB.out.2.2.2.2.2.2.1] at hc7
      have HP := Lib.hid hP
      have HWq := Lib.hid hW
      clear hP hW
      go_simp
      have hP := HP.out
      have hW := HWq.out
      clear HP HWq
      refine hK _ _ (AnyO.InvG.ghost (g := σ) { σ with q := A7, cq := c7 } hP ?_ rfl ?_)
      · intro j hj hq
        rcases j with _ | _ | _ | _ | _ | _ | _ | _ | _ | _ | _ | _ | _ | _ | _ | _ | _ | _ | _ | _ | _ | _ | j
        · exact hq
        · exact hq
        · exact hq
        · exact hq
        · exact hq
        · exact hq
        · exact hq
        · exact hq
        · exact hq
        · exact hq
        · exact hq
        · exact hq
        · exact hq
        · exact hq
        · exact hq
        · exact hq
        · exact absurd (show D 16 = true from hj) (by rw [h0]; decide)
        · exact hq
        · exact hq
        · exact hq
        · exact hq
        · exact hq
        · exact hq
      exact hW.conv16 h0 hb7 hs7 (by rw [show (msgL y).length = ny from HB.out.2.2.2.2.2.1]; exact hc7)
    · -- 17: Op.call { callee := Callee.value (Operand.func 45), args := 
      refine AnyO.StepI.mk rfl [16, 11] (by kernel_rfl) ?_
      intro D vs u hI h0 hC hp ac hb K hK
      obtain ⟨σ, hP, hW⟩ := hI
      have s23 : ac.tmps[23]?.getD undef = .slice σ.q ny σ.cq := by rw [hb]; exact (show _ = vs 16 by kernel_rfl).trans (show vs 16 = .slice σ.q ny σ.cq from hP 16 (hp 16 (by decide)))
      rw [if_pos (AnyO.wanted_none rfl)]
      have hp16 : D 16 = true := hp 16 (by decide)
      clear hb hp
      have HP := Lib.hid hP
      have HWq := Lib.hid hW
      clear hP hW
      go_simp
      have hP := HP.out
      have hW := HWq.out
      clear HP HWq
      have hf21 : D 21 = false := by
        rcases hd : D 21 with _ | _
        · rfl
        · have hz := hC 21 hd 17 (by rw [show AnyO.pre _ 21 = [19, 17, 20, 0, 1, 2, 3, 4, 5, 6, 7, 8, 9, 10, 11, 12, 13, 14, 15, 16, 17, 18, 19, 20] from by kernel_rfl]; decide)
          rw [h0] at hz
          cases hz
      have hf20 : D 20 = false := by
        rcases hd : D 20 with _ | _
        · rfl
        · have hz := hC 20 hd 17 (by rw [show AnyO.pre _ 20 = [18, 8, 17, 0, 1, 2, 3, 4, 5, 6, 7, 8, 11, 17, 18, 19] from by kernel_rfl]; decide)
          rw [h0] at hz
          cases hz
      obtain ⟨hs, hc⟩ := hW.s16 hp16 hf21 hf20
      go_at_call 45
      have hq := rsum_b σ.q σ.cq (msgL y) u hs (by have := HB.out.2.2.2.2.2.2.2; omega)
      rw [show (msgL y).length = ny from HB.out.2.2.2.2.2.1] at hq
      refine hq.mono ?_
      rintro e w2 ⟨rfl, hb2⟩
      exact hK _ _ (AnyO.InvG.step (g := σ) hP rfl (CoW.read hW hb2))
    · -- 18: Op.alloc 35
      refine AnyO.StepI.mk rfl [] (by kernel_rfl) ?_
      intro D vs u hI h0 hC hp ac hb K hK
      obtain ⟨σ, hP, hW⟩ := hI
      rw [if_pos (AnyO.wanted_none rfl)]
      clear hb hp
      have HP := Lib.hid hP
      have HWq := Lib.hid hW
      clear hP hW
      go_simp
      have hP := HP.out
      have hW := HWq.out
      clear HP HWq
      have hf20 : D 20 = false := by
        rcases hd : D 20 with _ | _
        · rfl
        · have hz := hC 20 hd 18 (by rw [show AnyO.pre _ 20 = [18, 8, 17, 0, 1, 2, 3, 4, 5, 6, 7, 8, 11, 17, 18, 19] from by kernel_rfl]; decide)
          rw [h0] at hz
          cases hz
      refine hK _ _ (AnyO.InvG.ghost (g := σ) { σ with g5 := u.heap.size } hP ?_ rfl ?_)
      · intro j hj hq
        rcases j with _ | _ | _ | _ | _ | _ | _ | _ | _ | _ | _ | _ | _ | _ | _ | _ | _ | _ | _ | _ | _ | _ | j
        · exact hq
        · exact hq
        · exact hq
        · exact hq
        · exact hq
        · exact hq
        · exact hq
        · exact hq
        · exact hq
        · exact hq
        · exact hq
        · exact hq
        · exact hq
        · exact hq
        · exact hq
        · exact hq
        · exact hq
        · exact hq
        · exact absurd (show D 18 = true from hj) (by rw [h0]; decide)
        · exact hq
        · exact hq
        · exact hq
        · exact hq
      exact hW.al5 h0 hf20
    · -- 19: Op.alloc 35
      refine AnyO.StepI.mk rfl [] (by kernel_rfl) ?_
      intro D vs u hI h0 hC hp ac hb K hK
      obtain ⟨σ, hP, hW⟩ := hI
      rw [if_pos (AnyO.wanted_none rfl)]
      clear hb hp
      have HP := Lib.hid hP
      have HWq := Lib.hid hW
      clear hP hW
      go_simp
      have hP := HP.out
      have hW := HWq.out
      clear HP HWq
      have hf21 : D 21 = false := by
        rcases hd : D 21 with _ | _
        · rfl
        · have hz := hC 21 hd 19 (by rw [show AnyO.pre _ 21 = [19, 17, 20, 0, 1, 2, 3, 4, 5, 6, 7, 8, 9, 10, 11, 12, 13, 14, 15, 16, 17, 18, 19, 20] from by kernel_rfl]; decide)
          rw [h0] at hz
          cases hz
      refine hK _ _ (AnyO.InvG.ghost (g := σ) { σ with g6 := u.heap.size } hP ?_ rfl ?_)
      · intro j hj hq
        rcases j with _ | _ | _ | _ | _ | _ | _ | _ | _ | _ | _ | _ | _ | _ | _ | _ | _ | _ | _ | _ | _ | _ | j
        · exact hq
        · exact hq
        · exact hq
        · exact hq
        · exact hq
        · exact hq
        · exact hq
        · exact hq
        · exact hq
        · exact hq
        · exact hq
        · exact hq
        · exact hq
        · exact hq
        · exact hq
        · exact hq
        · exact hq
        · exact hq
        · exact hq
        · exact absurd (show D 19 = true from hj) (by rw [h0]; decide)
        · exact hq
        · exact hq
        · exact hq
      exact hW.al6 h0 hf21
    · -- 20: Op.store 35 (Operand.tmp 5) (Operand.tmp 15)
      refine AnyO.StepI.mk rfl [18, 8, 17, 0, 1, 2, 3, 4, 5, 6, 7, 8, 11, 17, 18, 19] (by kernel_rfl) ?_
      intro D vs u hI h0 hC hp ac hb K hK
      obtain ⟨σ, hP, hW⟩ := hI
      have s5 : ac.tmps[5]?.getD undef = .pointer (some ⟨σ.g5, 0, none⟩) := by rw [hb]; exact (show _ = vs 18 by kernel_rfl).trans (show vs 18 = .pointer (some ⟨σ.g5, 0, none⟩) from hP 18 (hp 18 (by decide)))
      have s15 : ac.tmps[15]?.getD undef = vI (shI x) := by rw [hb]; exact (show _ = vs 8 by kernel_rfl).trans (show vs 8 = vI (shI x) from hP 8 (hp 8 (by decide)))
      rw [if_pos (AnyO.wanted_none rfl)]
      have hp18 : D 18 = true := hp 18 (by decide)
      clear hb hp
      obtain ⟨hg5, ho5, hr5⟩ := hW.a5 hp18
      rw [show (D 20) = false from h0] at hr5
      obtain ⟨-, -, ro⟩ := rowI hr5
      have HP := Lib.hid hP
      have HWq := Lib.hid hW
      clear hP hW
      go_simp
      have hP := HP.out
      have hW := HWq.out
      clear HP HWq
      have hf21 : D 21 = false := by
        rcases hd : D 21 with _ | _
        · rfl
        · have hz := hC 21 hd 20 (by rw [show AnyO.pre _ 21 = [19, 17, 20, 0, 1, 2, 3, 4, 5, 6, 7, 8, 9, 10, 11, 12, 13, 14, 15, 16, 17, 18, 19, 20] from by kernel_rfl]; decide)
          rw [h0] at hz
          cases hz
      exact hK undef _ (AnyO.InvG.step (g := σ) hP trivial (hW.st5 hp18 h0 hf21))
    · -- 21: Op.store 35 (Operand.tmp 6) (Operand.tmp 24)
      refine AnyO.StepI.mk rfl [19, 17, 20, 0, 1, 2, 3, 4, 5, 6, 7, 8, 9, 10, 11, 12, 13, 14, 15, 16, 17, 18, 19, 20] (by kernel_rfl) ?_
      intro D vs u hI h0 hC hp ac hb K hK
      obtain ⟨σ, hP, hW⟩ := hI
      have s6 : ac.tmps[6]?.getD undef = .pointer (some ⟨σ.g6, 0, none⟩) := by rw [hb]; exact (show _ = vs 19 by kernel_rfl).trans (show vs 19 = .pointer (some ⟨σ.g6, 0, none⟩) from hP 19 (hp 19 (by decide)))
      have s24 : ac.tmps[24]?.getD undef = vI (shI y) := by rw [hb]; exact (show _ = vs 17 by kernel_rfl).trans (show vs 17 = vI (shI y) from hP 17 (hp 17 (by decide)))
      rw [if_pos (AnyO.wanted_none rfl)]
      have hp19 : D 19 = true := hp 19 (by decide)
      have hp20 : D 20 = true := hp 20 (by decide)
      clear hb hp
      obtain ⟨hg6, ho6, hr6⟩ := hW.a6 hp19
      rw [show (D 21) = false from h0] at hr6
      obtain ⟨-, -, ro⟩ := rowI hr6
      have HP := Lib.hid hP
      have HWq := Lib.hid hW
      clear hP hW
      go_simp
      have hP := HP.out
      have hW := HWq.out
      clear HP HWq
      exact hK undef _ (AnyO.InvG.step (g := σ) hP trivial (hW.st6 hp19 hp20 h0))
  · intro D vs u hI hD
    obtain ⟨σ, hP, hW⟩ := hI
    have e0 : vs 0 = .pointer (some ⟨b, 0, none⟩) := hP 0 (hD 0 (by decide))
    have e1 : vs 1 = vI x.id := hP 1 (hD 1 (by decide))
    have e2 : vs 2 = .string tx := hP 2 (hD 2 (by decide))
    have e3 : vs 3 = .string px := hP 3 (hD 3 (by decide))
    have e4 : vs 4 = .pointer (some ⟨b, 32, none⟩) := hP 4 (hD 4 (by decide))
    have e5 : vs 5 = .string x.text := hP 5 (hD 5 (by decide))
    have e6 : vs 6 = .string mx := hP 6 (hD 6 (by decide))
    have e7 : vs 7 = .slice σ.p nx σ.cp := hP 7 (hD 7 (by decide))
    have e8 : vs 8 = vI (shI x) := hP 8 (hD 8 (by decide))
    have e9 : vs 9 = .pointer (some ⟨b + 1, 0, none⟩) := hP 9 (hD 9 (by decide))
    have e10 : vs 10 = vI y.id := hP 10 (hD 10 (by decide))
    have e11 : vs 11 = .string ty := hP 11 (hD 11 (by decide))
    have e12 : vs 12 = .string py := hP 12 (hD 12 (by decide))
    have e13 : vs 13 = .pointer (some ⟨b + 1, 32, none⟩) := hP 13 (hD 13 (by decide))
    have e14 : vs 14 = .string y.text := hP 14 (hD 14 (by decide))
    have e15 : vs 15 = .string my := hP 15 (hD 15 (by decide))
    have e16 : vs 16 = .slice σ.q ny σ.cq := hP 16 (hD 16 (by decide))
    have e17 : vs 17 = vI (shI y) := hP 17 (hD 17 (by decide))
    have e18 : vs 18 = .pointer (some ⟨σ.g5, 0, none⟩) := hP 18 (hD 18 (by decide))
    have e19 : vs 19 = .pointer (some ⟨σ.g6, 0, none⟩) := hP 19 (hD 19 (by decide))
    have hW := hW.fin (hD 18 (by decide)) (hD 19 (by decide)) (hD 20 (by decide)) (hD 21 (by decide))
    obtain ⟨g5, e5⟩ : ∃ g, σ.g5 = g := ⟨_, rfl⟩
    obtain ⟨g6, e6⟩ : ∃ g, σ.g6 = g := ⟨_, rfl⟩
    rw [e5, e6] at hW
    rw [e5] at e18
    rw [e6] at e19
    have HW := Lib.hid hW
    clear hW hP hD
    rw [puts_range [some 7, some 8, some 9, some 10, some 11, some 12, some 13, some 14, some 15, some 16, some 17, some 18, some 19, some 20, some 21, some 22, some 23, some 24, some 5, some 6, none, none] (by kernel_rfl)]
    simp only [putL, Nat.reduceAdd, e0, e1, e2, e3, e4, e7, e8, e9, e10, e11, e12, e13, e14, e15, e16, e17, e18, e19]
    clear e0 e1 e2 e3 e4 e5 e6 e7 e8 e9 e10 e11 e12 e13 e14 e15 e16 e17 e18 e19
    go_simp
    have q1 : ∀ m, okA (u.drewN m) ⟨b, 0, none⟩ 33 = true ∧ rdA (u.drewN m) ⟨b, 0, none⟩ 33 = vX x := fun m => by
      obtain ⟨⟨h1, h2, -⟩, -, -⟩ := rowX ((HX.out.1.keep HW.out.1).keep (below_drewN u m))
      exact ⟨h1, h2⟩
    have q2 : ∀ m, okA (u.drewN m) ⟨b + 1, 0, none⟩ 33 = true ∧ rdA (u.drewN m) ⟨b + 1, 0, none⟩ 33 = vX y := fun m => by
      obtain ⟨⟨h1, h2, -⟩, -, -⟩ := rowX ((HX.out.2.1.keep HW.out.1).keep (below_drewN u m))
      exact ⟨h1, h2⟩
    have q3 : ∀ m, okA (u.drewN m) ⟨b, 0, none⟩ 33 = true := fun m => (q1 m).1
    have q4 : ∀ m, rdA (u.drewN m) ⟨b, 0, none⟩ 33 = vX x := fun m => (q1 m).2
    have q5 : ∀ m, okA (u.drewN m) ⟨b + 1, 0, none⟩ 33 = true := fun m => (q2 m).1
    have q6 : ∀ m, rdA (u.drewN m) ⟨b + 1, 0, none⟩ 33 = vX y := fun m => (q2 m).2
    clear q1 q2
    have HBL := Lib.hid (Below.step HX.out.2.2 HW.out.1)
    by_cases hxy : x = y
    · have hd : decide (x = y) = true := decide_eq_true hxy
      have HR := Lib.hid (show collB x y = false by unfold collB; rw [hd]; rfl)
      clear hxy
      go_wp2_with fail
      go_quiet (fail)
      have H9 := Lib.hid (Below.step HBL.out (below_drewN u nq))
      go_wp2
      go_ret
      exact ⟨by rw [HR.out]; rfl, H9.out⟩
    · have hd : decide (x = y) = false := decide_eq_false hxy
      have s5 := slice_32 g5
      have s6 := slice_32 g6
      obtain ⟨S5, hS5⟩ : ∃ S, mkS ((sha (msgL x)).take 16) = S := ⟨_, rfl⟩
      obtain ⟨S6, hS6⟩ : ∃ S, mkS ((sha (msgL y)).take 16) = S := ⟨_, rfl⟩
      have v5 : ∀ m, (convert 47 9 (.slice (some ⟨g5, 0, none⟩) 16 32)).run Tryz.prog (u.drewN m) = .ok (.string S5) (u.drewN m) := fun m => by
        rw [← hS5]
        exact conv_any ((half_sl HW.out.2.1).keep (below_drewN u m)) (by rw [List.length_take, sha_length]; rfl)
      have v6 : ∀ m, (convert 47 9 (.slice (some ⟨g6, 0, none⟩) 16 32)).run Tryz.prog (u.drewN m) = .ok (.string S6) (u.drewN m) := fun m => by
        rw [← hS6]
        exact conv_any ((half_sl HW.out.2.2).keep (below_drewN u m)) (by rw [List.length_take, sha_length]; rfl)
      obtain ⟨z, hz⟩ : ∃ z : Bool, (S5.toList == S6.toList) = z := ⟨_, rfl⟩
      have HR := Lib.hid (show collB x y = z by
        unfold collB
        rw [hd, ← hz, beqL, ← hS5, ← hS6]
        have : decide (mkS ((sha (msgL x)).take 16) = mkS ((sha (msgL y)).take 16)) = decide ((sha (msgL x)).take 16 = (sha (msgL y)).take 16) := by
          rw [decide_eq_decide]
          exact ⟨fun h => by rw [← bl_mkS ((sha (msgL x)).take 16), h, bl_mkS], fun h => by rw [h]⟩
        rw [this]
        rfl)
      clear hxy hS5 hS6
      go_wp2_with fail
      go_quiet (fail)
      have H9 := Lib.hid (Below.step HBL.out (below_drewN u nq))
      go_wp2
      go_ret
      exact ⟨by rw [HR.out]; rfl, H9.out⟩

end Go.Proofs.YtecalodcbkljoaaGreatDoor
