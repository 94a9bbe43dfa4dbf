/- batch.Builder: what it holds; NewBuilder, Len, Room, Flush. batch.Builder: Add. -/
import Derived.Test.YtecalodcbkljoaaGreatDoorMSpl
import Derived.Test.YtecalodcbkljoaaGreatDoorMPkp
import Derived.Test.YtecalodcbkljoaaGreatDoorMPck
import Derived.Test.YtecalodcbkljoaaGreatDoorMRhx
import Derived.Test.YtecalodcbkljoaaGreatDoorMAnyG
import Derived.Maps.AppendAt
namespace Go.Proofs.YtecalodcbkljoaaGreatDoor
open Go.RowKit
/-- A builder at block g (nothing of it below B): its limit, its items in a slice of its own. -/
structure BdI (B g : Nat) (most : Int) (l : List It) (v : Value) (w : World) : Prop where
  row : Row w g [.int .i64 most, .int .i64 (sumN l : Int), v] 99
  own : Own w B 64 33 cX v l
  ne : v.ownBlock ≠ some g
  le : B ≤ g
  lim : 1 ≤ most ∧ most ≤ 4194304
  cnt : l.length ≤ 1000
  txt : ∀ x ∈ l, x.text.size ≤ 65536
  fit : l = [] ∨ (sizeN l.length (sumN l) : Int) ≤ most
  laid : ∃ wB, Laid wB ∧ wB.heap.size = B ∧ Below B wB w
/-- What a call of a builder turns. -/
structure TurnB (g : Nat) (v v' : Value) (w w' : World) : Prop where
  os : w'.os = w.os
  tape : w'.tape = w.tape
  output : w'.output = w.output
  size : w.heap.size ≤ w'.heap.size
  out : ∀ k, k < w.heap.size → k ≠ g → some k ≠ v.ownBlock → w'.heap[k]? = w.heap[k]?
  at_ : ∀ k, v'.ownBlock = some k → v.ownBlock = some k ∨ w.heap.size ≤ k
/-- The same, beside blocks F of the call's own. -/
def BdL (B g : Nat) (most : Int) (l : List It) (F : List Nat) (w : World) : Prop := ∃ v, BdI B g most l v w ∧ (∀ k, v.ownBlock = some k → k ∉ F) ∧ (∀ k ∈ F, k < w.heap.size ∧ k ≠ g) ∧ B ≤ w.heap.size
section
variable {B g : Nat} {most : Int} {l m : List It} {v v' : Value} {F : List Nat} {w w' : World}
theorem BdI.sum (h : BdI B g most l v w) : sumN l ≤ 65700000 := by
  have h1 := sumN_bound l h.txt
  have := h.cnt
  omega
theorem BdI.keep (h : BdI B g most l v w) (hb : Below w.heap.size w w') : BdI B g most l v w' := ⟨h.row.keep hb, h.own.keep hb, h.ne, h.le, h.lim, h.cnt, h.txt, h.fit, by obtain ⟨wB, a1, a2, a3⟩ := h.laid; subst a2; exact ⟨wB, a1, rfl, Below.step a3 hb⟩⟩
theorem BdI.turn (h : BdI B g most l v w) (hv : ∀ k, v.ownBlock = some k → k ∉ F) (hF : ∀ k ∈ F, k < w.heap.size ∧ k ≠ g) (hB : B ≤ w.heap.size) (h' : BdI B g most m v' w') (ht : TurnB g v v' w w') : BdL B g most m F w' ∧ KeepF B F w w' := by
  refine ⟨⟨v', h', fun k hk hm => ?_, fun k hk => ⟨Nat.lt_of_lt_of_le (hF k hk).1 ht.size, (hF k hk).2⟩, Nat.le_trans hB ht.size⟩, ⟨ht.os, ht.tape, ht.output, ht.size, fun k hk => ?_⟩, fun k hk => ?_⟩
  · rcases ht.at_ k hk with e | e
    · exact hv k e hm
    · have := (hF k hm).1
      omega
  · refine ht.out k (Nat.lt_of_lt_of_le hk hB) (by have := h.le; omega) fun e => ?_
    have := (h.own.lt k e.symm).1
    omega
  · exact ht.out k (hF k hk).1 (hF k hk).2 fun e => hv k e.symm hk
theorem BdL.new (w : World) (hL : Laid w) (hm : 1 ≤ most ∧ most ≤ 4194304) : BdL w.heap.size w.heap.size most [] [] (w.alloc (.cells #[.int .i64 most, .int .i64 0, .slice none 0 0] 99)) :=
  ⟨.slice none 0 0, ⟨Row.new w [.int .i64 most, .int .i64 0, .slice none 0 0] 99, Own.nil _ _ _ _ _, by simp [Value.ownBlock], Nat.le_refl _, hm, by decide, (fun x hx => by cases hx), Or.inl rfl, ⟨w, hL, rfl, below_alloc _ _⟩⟩, (fun k hk => by cases hk), (fun k hk => by cases hk), (below_alloc _ _).size⟩
/-- New blocks beside a builder. -/
theorem BdL.more (h : BdL B g most l F w) (hb : Below w.heap.size w w') (G : List Nat) (hG : ∀ k ∈ G, w.heap.size ≤ k ∧ k < w'.heap.size) : BdL B g most l (G ++ F) w' := by
  obtain ⟨v, h1, h2, h3, h4⟩ := h
  refine ⟨v, h1.keep hb, fun k hk hm => ?_, fun k hk => ?_, Nat.le_trans h4 hb.size⟩
  · rcases List.mem_append.1 hm with h5 | h5
    · have := (h1.own.lt k hk).2
      have := hG k h5
      omega
    · exact h2 k hk h5
  · rcases List.mem_append.1 hk with h5 | h5
    · have := hG k h5
      have := h1.row.lt
      omega
    · exact ⟨Nat.lt_of_lt_of_le (h3 k h5).1 hb.size, (h3 k h5).2⟩
theorem BdL.keep (h : BdL B g most l F w) (hb : Below w.heap.size w w') : BdL B g most l F w' := h.more hb [] (fun _ hk => by cases hk)
/-- A slice of the call's own that grows beside a builder. -/
theorem BdL.grew {o : Option Nat} (h : BdL B g most l F w) (hg : w.grownBy w' o) (ho : ∀ k, o = some k → k ∈ F ∧ B ≤ k) : BdL B g most l F w' := by
  obtain ⟨v, h1, h2, h3, h4⟩ := h
  refine ⟨v, ⟨h1.row.same (hg.block g h1.row.lt (fun e => (h3 g (ho g e.symm).1).2 rfl)), ?_, h1.ne, h1.le, h1.lim, h1.cnt, h1.txt, h1.fit, by obtain ⟨wB, a1, a2, a3⟩ := h1.laid; exact ⟨wB, a1, a2, a3.grown hg h4 fun k hk => (ho k hk).2⟩⟩, h2, fun k hk => ⟨Nat.lt_of_lt_of_le (h3 k hk).1 hg.size, (h3 k hk).2⟩, Nat.le_trans h4 hg.size⟩
  have h5 := h1.own
  refine ⟨h5.1, h5.2.imp id fun ⟨k, cap, cur, a1, a2, a3, r⟩ => ⟨k, cap, cur, a1, a2, ?_, r⟩⟩
  rw [hg.block k (Array.getElem?_eq_some_iff.1 a3).1 (fun e => h2 k (by rw [a1]; rfl) (ho k e.symm).1)]
  exact a3
theorem BdL.laid (h : BdL B g most l F w) : Laid w := by
  obtain ⟨v, h1, -⟩ := h
  obtain ⟨wB, a1, a2, a3⟩ := h1.laid
  subst a2
  exact a1.keep a3
theorem BdL.facts (h : BdL B g most l F w) : (1 ≤ most ∧ most ≤ 4194304) ∧ l.length ≤ 1000 ∧ (∀ x ∈ l, x.text.size ≤ 65536) ∧ (l = [] ∨ (sizeN l.length (sumN l) : Int) ≤ most) ∧ sumN l ≤ 65700000 := by
  obtain ⟨v, h1, -⟩ := h
  exact ⟨h1.lim, h1.cnt, h1.txt, h1.fit, h1.sum⟩
end
/-- What lies in a block F keeps. -/
theorem KeepF.sl {B : Nat} {F : List Nat} {w w' : World} {α : Type} {enc : α → List Value} {A : Option Addr} {xs : List α} (h : KeepF B F w w') (hs : Sl w enc A xs) (ha : ∀ ad, A = some ad → ad.block ∈ F) : Sl w' enc A xs := by
  intro hx
  obtain ⟨ad, rfl, h1, h2⟩ := hs hx
  refine ⟨ad, rfl, Nat.lt_of_lt_of_le h1 h.1.size, fun j u hu => ?_⟩
  rw [← h2 j u hu]
  refine World.cell?_of_block ?_
  rw [block_of_add]
  exact h.2 ad.block (ha ad rfl)
theorem KeepF.own {B base s : Nat} {F : List Nat} {w w' : World} {α : Type} {enc : α → List Value} {e : TypeId} {v : Value} {xs : List α} (h : KeepF B F w w') (ho : Own w base e s enc v xs) (ha : ∀ k, v.ownBlock = some k → k ∈ F) : Own w' base e s enc v xs := by
  refine ⟨ho.1, ho.2.imp id fun ⟨k, cap, cur, a1, a2, a3, r⟩ => ⟨k, cap, cur, a1, a2, ?_, r⟩⟩
  rw [h.2 k (ha k (by rw [a1]; rfl))]
  exact a3
theorem KeepF.of {B : Nat} {F : List Nat} {w w' : World} (hb : Below w.heap.size w w') (hB : B ≤ w.heap.size) (hF : ∀ k ∈ F, k < w.heap.size) : KeepF B F w w' := ⟨⟨hb.os, hb.tape, hb.output, hb.size, fun k hk => hb.block k (Nat.lt_of_lt_of_le hk hB)⟩, fun k hk => hb.block k (hF k hk)⟩
theorem BdL.kept {B g : Nat} {most : Int} {l : List It} {F : List Nat} {w w' : World} (h : BdL B g most l F w) (hb : Below w.heap.size w w') : KeepF B F w w' := by
  obtain ⟨v, h1, h2, h3, h4⟩ := h
  exact KeepF.of hb h4 fun k hk => (h3 k hk).1
theorem chk_goodB {l : List It} (h1 : ∀ x ∈ l, x.text.size ≤ 65536) (h2 : l.length ≤ 1000) (h3 : sizeN l.length (sumN l) ≤ 4194304) : (chkB l).2 = 0 := by
  unfold chkB
  rw [if_neg (by omega), if_neg (by
    rw [List.any_eq_true]
    rintro ⟨x, hx, h⟩
    have := h1 x hx
    have h3 : 65536 < x.text.size := by simpa using h
    omega), if_neg (by omega)]
set_option maxRecDepth 100000 in
set_option maxHeartbeats 3200000 in
theorem newb_bad (most : Int) (w : World) (hm : most < 1 ∨ 4194304 < most) : Calls Tryz.prog 25 #[.int .i64 most] w fun e w' => e = .returned (.tuple #[.pointer none, .int .i64 2]) ∧ Below w.heap.size w w' := by
  by_cases h1 : most < 1
  · clear hm
    go_enter Tryz.func25, Tryz.ntmps25
    go_wp2
    go_ret2
    exact ⟨rfl, Below.refl _ _⟩
  · have h2 : 4194304 < most := by omega
    clear hm
    go_enter Tryz.func25, Tryz.ntmps25
    go_wp2
    go_ret2
    exact ⟨rfl, Below.refl _ _⟩
set_option maxRecDepth 100000 in
set_option maxHeartbeats 3200000 in
theorem newb_good (most : Int) (w : World) (hL : Laid w) (h1 : ¬ most < 1) (h2 : ¬ 4194304 < most) : Calls Tryz.prog 25 #[.int .i64 most] w fun e w' => e = .returned (.tuple #[.pointer (some ⟨w.heap.size, 0, none⟩), .int .i64 0]) ∧ BdL w.heap.size w.heap.size most [] [] w' ∧ Below w.heap.size w w' := by
  have HN := Lib.hid (BdL.new w hL (most := most) ⟨by omega, by omega⟩)
  clear hL
  go_enter Tryz.func25, Tryz.ntmps25
  go_wp2
  go_ret2
  exact ⟨rfl, HN.out, below_alloc _ _⟩
set_option maxRecDepth 100000 in
set_option maxHeartbeats 3200000 in
theorem len_nil (w : World) : Calls Tryz.prog 29 #[.pointer none] w fun e w' => e = .returned (.int .i64 0) ∧ Below w.heap.size w w' := by
  go_enter Tryz.func29, Tryz.ntmps29
  go_wp2
  go_ret
  exact ⟨rfl, Below.refl _ _⟩
set_option maxRecDepth 100000 in
set_option maxHeartbeats 3200000 in
theorem room_nil (w : World) : Calls Tryz.prog 30 #[.pointer none] w fun e w' => e = .returned (.int .i64 0) ∧ Below w.heap.size w w' := by
  go_enter Tryz.func30, Tryz.ntmps30
  go_wp2
  go_ret
  exact ⟨rfl, Below.refl _ _⟩
set_option maxRecDepth 100000 in
set_option maxHeartbeats 3200000 in
theorem flush_nil (w : World) : Calls Tryz.prog 27 #[.pointer none] w fun e w' => e = .returned (.tuple #[.string ⟨#[]⟩, .int .i64 1]) ∧ Below w.heap.size w w' := by
  go_enter Tryz.func27, Tryz.ntmps27
  go_wp2
  go_ret2
  exact ⟨rfl, Below.refl _ _⟩
set_option maxRecDepth 100000 in
set_option maxHeartbeats 3200000 in
theorem BdL.len {B g : Nat} {most : Int} {l : List It} {F : List Nat} {w : World} (h : BdL B g most l F w) : Calls Tryz.prog 29 #[.pointer (some ⟨g, 0, none⟩)] w fun e w' => e = .returned (.int .i64 (l.length : Int)) ∧ Below w.heap.size w w' := by
  obtain ⟨v, h1, -⟩ := h
  have r0 := h1.row.cell 2
  obtain ⟨A, c, rfl, -, -⟩ := h1.own.sl
  clear h1
  go_enter Tryz.func29, Tryz.ntmps29
  go_wp2
  go_ret
  exact ⟨rfl, Below.refl _ _⟩
set_option maxRecDepth 100000 in
set_option maxHeartbeats 3200000 in
theorem BdL.room {B g : Nat} {most : Int} {l : List It} {F : List Nat} {w : World} (h : BdL B g most l F w) : Calls Tryz.prog 30 #[.pointer (some ⟨g, 0, none⟩)] w fun e w' => e = .returned (.int .i64 (max 0 (most - (sizeN l.length (sumN l) : Int)))) ∧ Below w.heap.size w w' := by
  have hL := h.laid
  obtain ⟨v, h1, -⟩ := h
  obtain ⟨A, c, rfl, -, -⟩ := h1.own.sl
  have hs := h1.sum
  have hc := h1.cnt
  have HX := Lib.hid (And.intro h1 hL)
  obtain ⟨n, hn⟩ : ∃ n, l.length = n := ⟨_, rfl⟩
  obtain ⟨k, hk⟩ : ∃ k, sumN l = k := ⟨_, rfl⟩
  have HSK := Lib.hid hk
  rw [hk]
  rw [hn] at HX hc ⊢
  rw [hk] at hs
  clear hn hk
  obtain ⟨z, hz⟩ : ∃ z, sizeN n k = z := ⟨_, rfl⟩
  have HZ := Lib.hid (fun W hW => size_l n k (by omega) (by omega) W hW)
  have HM2 := Lib.hid (show -9223372036854775808 ≤ most - (z : Int) ∧ most - (z : Int) ≤ 9223372036854775807 from by
    have hz2 : z ≤ 4611686018427387904 + 100 := by
      rw [← hz]
      unfold sizeN
      have := itoa_len 10 n (by omega) (by omega)
      omega
    have := h1.lim
    omega)
  rw [hz] at HZ ⊢
  obtain ⟨M, hM⟩ : ∃ M, max 0 (most - (z : Int)) = M := ⟨_, rfl⟩
  have HM := Lib.hid hM
  rw [hM]
  clear h1 hL hz hs hc hM
  go_enter Tryz.func30, Tryz.ntmps30
  go_wp2
  refine AnyO.wp_any_tail 16 (by kernel_rfl) (by kernel_rfl) (by kernel_rfl) (by kernel_rfl) (by kernel_rfl) (by kernel_rfl) (pstP [isV (.pointer (some ⟨g, 0, none⟩)), isV (.pointer (some ⟨g, 0, none⟩)), isV (.pointer (some ⟨g, 0, none⟩)), isV (.int .i64 most), isV (.pointer (some ⟨g, 0, none⟩)), isV (.pointer (some ⟨g, 0, none⟩)), isV (.pointer (some ⟨g, 2, none⟩)), isV (.slice A n c), isV (.int .i64 (n : Int)), isV (.pointer (some ⟨g, 0, none⟩)), isV (.pointer (some ⟨g, 0, none⟩)), isV (.pointer (some ⟨g, 1, none⟩)), isV (.int .i64 (k : Int)), isV (.int .i64 (z : Int)), isV (.int .i64 (most - (z : Int))), isV (.int .i64 M)]) (MonoL.cons (Mono.v _) (MonoL.cons (Mono.v _) (MonoL.cons (Mono.v _) (MonoL.cons (Mono.v _) (MonoL.cons (Mono.v _) (MonoL.cons (Mono.v _) (MonoL.cons (Mono.v _) (MonoL.cons (Mono.v _) (MonoL.cons (Mono.v _) (MonoL.cons (Mono.v _) (MonoL.cons (Mono.v _) (MonoL.cons (Mono.v _) (MonoL.cons (Mono.v _) (MonoL.cons (Mono.v _) (MonoL.cons (Mono.v _) (MonoL.cons (Mono.v _) MonoL.nil)))))))))))))))) ?_ ?_
  · intro i hi
    have hi2 : i = 0 ∨ i = 1 ∨ i = 2 ∨ i = 3 ∨ i = 4 ∨ i = 5 ∨ i = 6 ∨ i = 7 ∨ i = 8 ∨ i = 9 ∨ i = 10 ∨ i = 11 ∨ i = 12 ∨ i = 13 ∨ i = 14 ∨ i = 15 := by omega
    clear hi
    rcases hi2 with rfl | rfl | rfl | rfl | rfl | rfl | rfl | rfl | rfl | rfl | rfl | rfl | rfl | rfl | rfl | rfl
    · -- 0: Op.move (Operand.tmp 0)
      refine AnyO.Step.mk rfl [] (by kernel_rfl) ?_
      intro vs u hE hp ac hb K hK
      have s0 : ac.tmps[0]?.getD undef = .pointer (some ⟨g, 0, none⟩) := by rw [hb]; kernel_rfl
      rw [if_pos (AnyO.wanted_none rfl)]
      clear hb hp
      go_simp
      exact hK _ _ (Below.refl _ _) rfl
    · -- 1: Op.nilCheck (Operand.tmp 5)
      refine AnyO.Step.mk rfl [0] (by kernel_rfl) ?_
      intro vs u hE hp ac hb K hK
      have s5 : ac.tmps[5]?.getD undef = .pointer (some ⟨g, 0, none⟩) := by rw [hb]; exact (show _ = vs 0 by kernel_rfl).trans (hp 0 (by decide))
      rw [if_pos (AnyO.wanted_none rfl)]
      clear hb hp
      go_simp
      exact hK _ _ (Below.refl _ _) rfl
    · -- 2: Op.fieldAddr 99 (Operand.tmp 6) 0
      refine AnyO.Step.mk rfl [1] (by kernel_rfl) ?_
      intro vs u hE hp ac hb K hK
      have s6 : ac.tmps[6]?.getD undef = .pointer (some ⟨g, 0, none⟩) := by rw [hb]; exact (show _ = vs 1 by kernel_rfl).trans (hp 1 (by decide))
      rw [if_pos (AnyO.wanted_none rfl)]
      clear hb hp
      go_simp
      exact hK _ _ (Below.refl _ _) rfl
    · -- 3: Op.load 3 (Operand.tmp 7)
      refine AnyO.Step.mk rfl [2] (by kernel_rfl) ?_
      intro vs u hE hp ac hb K hK
      have s7 : ac.tmps[7]?.getD undef = .pointer (some ⟨g, 0, none⟩) := by rw [hb]; exact (show _ = vs 2 by kernel_rfl).trans (hp 2 (by decide))
      rw [if_pos (AnyO.wanted_none rfl)]
      clear hb hp
      have r0 := (HX.out.1.row.keep (Below.step (below_drew _) hE)).cell 0
      go_simp
      exact hK _ _ (Below.refl _ _) rfl
    · -- 4: Op.move (Operand.tmp 0)
      refine AnyO.Step.mk rfl [] (by kernel_rfl) ?_
      intro vs u hE hp ac hb K hK
      have s0 : ac.tmps[0]?.getD undef = .pointer (some ⟨g, 0, none⟩) := by rw [hb]; kernel_rfl
      rw [if_pos (AnyO.wanted_none rfl)]
      clear hb hp
      go_simp
      exact hK _ _ (Below.refl _ _) rfl
    · -- 5: Op.nilCheck (Operand.tmp 9)
      refine AnyO.Step.mk rfl [4] (by kernel_rfl) ?_
      intro vs u hE hp ac hb K hK
      have s9 : ac.tmps[9]?.getD undef = .pointer (some ⟨g, 0, none⟩) := by rw [hb]; exact (show _ = vs 4 by kernel_rfl).trans (hp 4 (by decide))
      rw [if_pos (AnyO.wanted_none rfl)]
      clear hb hp
      go_simp
      exact hK _ _ (Below.refl _ _) rfl
    · -- 6: Op.fieldAddr 99 (Operand.tmp 10) 2
      refine AnyO.Step.mk rfl [5] (by kernel_rfl) ?_
      intro vs u hE hp ac hb K hK
      have s10 : ac.tmps[10]?.getD undef = .pointer (some ⟨g, 0, none⟩) := by rw [hb]; exact (show _ = vs 5 by kernel_rfl).trans (hp 5 (by decide))
      rw [if_pos (AnyO.wanted_none rfl)]
      clear hb hp
      go_simp
      exact hK _ _ (Below.refl _ _) rfl
    · -- 7: Op.load 22 (Operand.tmp 11)
      refine AnyO.Step.mk rfl [6] (by kernel_rfl) ?_
      intro vs u hE hp ac hb K hK
      have s11 : ac.tmps[11]?.getD undef = .pointer (some ⟨g, 2, none⟩) := by rw [hb]; exact (show _ = vs 6 by kernel_rfl).trans (hp 6 (by decide))
      rw [if_pos (AnyO.wanted_none rfl)]
      clear hb hp
      have r0 := (HX.out.1.row.keep (Below.step (below_drew _) hE)).cell 2
      go_simp
      exact hK _ _ (Below.refl _ _) rfl
    · -- 8: Op.call { callee := Callee.builtin Builtin.len, args := #[Op
      refine AnyO.Step.mk rfl [7] (by kernel_rfl) ?_
      intro vs u hE hp ac hb K hK
      have s12 : ac.tmps[12]?.getD undef = .slice A n c := by rw [hb]; exact (show _ = vs 7 by kernel_rfl).trans (hp 7 (by decide))
      rw [if_pos (AnyO.wanted_none rfl)]
      clear hb hp
      go_simp
      exact hK _ _ (Below.refl _ _) rfl
    · -- 9: Op.move (Operand.tmp 0)
      refine AnyO.Step.mk rfl [] (by kernel_rfl) ?_
      intro vs u hE hp ac hb K hK
      have s0 : ac.tmps[0]?.getD undef = .pointer (some ⟨g, 0, none⟩) := by rw [hb]; kernel_rfl
      rw [if_pos (AnyO.wanted_none rfl)]
      clear hb hp
      go_simp
      exact hK _ _ (Below.refl _ _) rfl
    · -- 10: Op.nilCheck (Operand.tmp 14)
      refine AnyO.Step.mk rfl [9] (by kernel_rfl) ?_
      intro vs u hE hp ac hb K hK
      have s14 : ac.tmps[14]?.getD undef = .pointer (some ⟨g, 0, none⟩) := by rw [hb]; exact (show _ = vs 9 by kernel_rfl).trans (hp 9 (by decide))
      rw [if_pos (AnyO.wanted_none rfl)]
      clear hb hp
      go_simp
      exact hK _ _ (Below.refl _ _) rfl
    · -- 11: Op.fieldAddr 99 (Operand.tmp 15) 1
      refine AnyO.Step.mk rfl [10] (by kernel_rfl) ?_
      intro vs u hE hp ac hb K hK
      have s15 : ac.tmps[15]?.getD undef = .pointer (some ⟨g, 0, none⟩) := by rw [hb]; exact (show _ = vs 10 by kernel_rfl).trans (hp 10 (by decide))
      rw [if_pos (AnyO.wanted_none rfl)]
      clear hb hp
      go_simp
      exact hK _ _ (Below.refl _ _) rfl
    · -- 12: Op.load 3 (Operand.tmp 16)
      refine AnyO.Step.mk rfl [11] (by kernel_rfl) ?_
      intro vs u hE hp ac hb K hK
      have s16 : ac.tmps[16]?.getD undef = .pointer (some ⟨g, 1, none⟩) := by rw [hb]; exact (show _ = vs 11 by kernel_rfl).trans (hp 11 (by decide))
      rw [if_pos (AnyO.wanted_none rfl)]
      clear hb hp
      have r0 := (HX.out.1.row.keep (Below.step (below_drew _) hE)).cell 1
      rw [HSK.out] at r0
      go_simp
      exact hK _ _ (Below.refl _ _) rfl
    · -- 13: Op.call { callee := Callee.value (Operand.func 49), args := 
      refine AnyO.Step.mk rfl [8, 12] (by kernel_rfl) ?_
      intro vs u hE hp ac hb K hK
      have s13 : ac.tmps[13]?.getD undef = .int .i64 (n : Int) := by rw [hb]; exact (show _ = vs 8 by kernel_rfl).trans (hp 8 (by decide))
      have s17 : ac.tmps[17]?.getD undef = .int .i64 (k : Int) := by rw [hb]; exact (show _ = vs 12 by kernel_rfl).trans (hp 12 (by decide))
      rw [if_pos (AnyO.wanted_none rfl)]
      clear hb hp
      go_simp
      go_at_call 49
      refine (HZ.out u (HX.out.2.keep (Below.step (below_drew _) hE))).mono ?_
      rintro e w2 ⟨rfl, hb2⟩
      exact hK _ _ hb2 rfl
    · -- 14: Op.binOp BinOp.sub 3 (Operand.tmp 8) (Operand.tmp 18) 3
      refine AnyO.Step.mk rfl [3, 13] (by kernel_rfl) ?_
      intro vs u hE hp ac hb K hK
      have s8 : ac.tmps[8]?.getD undef = .int .i64 most := by rw [hb]; exact (show _ = vs 3 by kernel_rfl).trans (hp 3 (by decide))
      have s18 : ac.tmps[18]?.getD undef = .int .i64 (z : Int) := by rw [hb]; exact (show _ = vs 13 by kernel_rfl).trans (hp 13 (by decide))
      rw [if_pos (AnyO.wanted_none rfl)]
      clear hb hp
      have r1 : IntKind.i64.wrap (most - (z : Int)) = most - (z : Int) := IntWalk.i64_in _ HM2.out
      go_simp
      exact hK _ _ (Below.refl _ _) rfl
    · -- 15: Op.call { callee := Callee.builtin Builtin.max, args := #[Op
      refine AnyO.Step.mk rfl [14] (by kernel_rfl) ?_
      intro vs u hE hp ac hb K hK
      have s19 : ac.tmps[19]?.getD undef = .int .i64 (most - (z : Int)) := by rw [hb]; exact (show _ = vs 14 by kernel_rfl).trans (hp 14 (by decide))
      rw [if_pos (AnyO.wanted_none rfl)]
      clear hb hp
      go_simp
      exact hK _ _ (Below.refl _ _) (congrArg (Value.int IntKind.i64) HM.out)
  · intro vs u hE hp
    have e0 : vs 0 = .pointer (some ⟨g, 0, none⟩) := hp 0 (by decide)
    have e1 : vs 1 = .pointer (some ⟨g, 0, none⟩) := hp 1 (by decide)
    have e2 : vs 2 = .pointer (some ⟨g, 0, none⟩) := hp 2 (by decide)
    have e3 : vs 3 = .int .i64 most := hp 3 (by decide)
    have e4 : vs 4 = .pointer (some ⟨g, 0, none⟩) := hp 4 (by decide)
    have e5 : vs 5 = .pointer (some ⟨g, 0, none⟩) := hp 5 (by decide)
    have e6 : vs 6 = .pointer (some ⟨g, 2, none⟩) := hp 6 (by decide)
    have e7 : vs 7 = .slice A n c := hp 7 (by decide)
    have e8 : vs 8 = .int .i64 (n : Int) := hp 8 (by decide)
    have e9 : vs 9 = .pointer (some ⟨g, 0, none⟩) := hp 9 (by decide)
    have e10 : vs 10 = .pointer (some ⟨g, 0, none⟩) := hp 10 (by decide)
    have e11 : vs 11 = .pointer (some ⟨g, 1, none⟩) := hp 11 (by decide)
    have e12 : vs 12 = .int .i64 (k : Int) := hp 12 (by decide)
    have e13 : vs 13 = .int .i64 (z : Int) := hp 13 (by decide)
    have e14 : vs 14 = .int .i64 (most - (z : Int)) := hp 14 (by decide)
    have e15 : vs 15 = .int .i64 M := hp 15 (by decide)
    clear hp
    have HE := Lib.hid hE
    clear hE
    rw [puts_range [some 5, some 6, some 7, some 8, some 9, some 10, some 11, some 12, some 13, some 14, some 15, some 16, some 17, some 18, some 19, some 20] (by kernel_rfl)]
    simp only [putL, Nat.reduceAdd, List.drop_succ_cons, List.drop_zero, e0, e1, e2, e3, e4, e5, e6, e7, e8, e9, e10, e11, e12, e13, e14, e15]
    clear e0 e1 e2 e3 e4 e5 e6 e7 e8 e9 e10 e11 e12 e13 e14 e15
    go_simp
    go_wp2
    go_ret
    exact ⟨rfl, HE.out⟩
set_option maxRecDepth 100000 in
set_option maxHeartbeats 3200000 in
theorem BdL.flush0 {B g : Nat} {most : Int} {F : List Nat} {w : World} (h : BdL B g most [] F w) : Calls Tryz.prog 27 #[.pointer (some ⟨g, 0, none⟩)] w fun e w' => e = .returned (.tuple #[.string ⟨#[]⟩, .int .i64 10]) ∧ BdL B g most [] F w' ∧ KeepF B F w w' := by
  have HX := Lib.hid h
  obtain ⟨v, h1, -⟩ := h
  have r0 := h1.row.cell 2
  obtain ⟨A, c, rfl, -, -⟩ := h1.own.sl
  clear h1
  go_enter Tryz.func27, Tryz.ntmps27
  go_wp2
  go_ret2
  exact ⟨rfl, HX.out, KeepF.refl⟩
set_option maxRecDepth 100000 in
set_option maxHeartbeats 3200000 in
theorem BdL.flush {B g : Nat} {most : Int} {l : List It} {F : List Nat} {w : World} (h : BdL B g most l F w) (hl : l ≠ []) : Calls Tryz.prog 27 #[.pointer (some ⟨g, 0, none⟩)] w fun e w' => e = .returned (.tuple #[.string (pkS l), .int .i64 0]) ∧ BdL B g most [] F w' ∧ KeepF B F w w' := by
  have hL := h.laid
  obtain ⟨v, h1, h2, h3, h4⟩ := h
  obtain ⟨A, c, rfl, -, hs⟩ := h1.own.sl
  have r0 := h1.row.cell 2
  have HC := Lib.hid (show (chkB l).2 = 0 from chk_goodB h1.txt h1.cnt (by
    rcases h1.fit with e | e
    · exact absurd e hl
    · have := h1.lim
      omega))
  have hn : 0 < l.length := List.length_pos_iff.2 hl
  have HX := Lib.hid (And.intro h1 (And.intro h2 (And.intro h3 (And.intro h4 (And.intro hL hs)))))
  have HN := Lib.hid (And.intro h1.cnt h1.txt)
  obtain ⟨n, hnn⟩ : ∃ n, l.length = n := ⟨_, rfl⟩
  have HNN := Lib.hid hnn
  rw [hnn] at hn r0
  have hne : ¬ n = 0 := by omega
  have HP := Lib.hid (fun W hW hS => pack_p A c l W hW hS (by have := HN.out.1; omega) (fun x hx => by have := HN.out.2 x hx; omega))
  rw [hnn, HC.out] at HP
  clear h1 h2 h3 h4 hL hs hl hnn hn
  go_enter Tryz.func27, Tryz.ntmps27
  go_wp2_with (go_at_call 14; go_loud ( refine (HP.out _ HX.out.2.2.2.2.1 HX.out.2.2.2.2.2).mono ?_; rintro e w2 ⟨rfl, hb2⟩; have H2 := Lib.hid hb2; have q0 : w2.cell? ⟨g, 2, none⟩ = some (.slice A n c) := ((HX.out.1.row.keep hb2).cell 2).trans (congrArg (fun k => some (Value.slice A k c)) HNN.out); have q1 := (HX.out.1.row.keep hb2).fz 2; have q2 := (HX.out.1.row.keep hb2).cell 1; have q3 := (HX.out.1.row.keep hb2).fz 1; clear hb2 r0))
  go_ret2
  have hI := HX.out.1.keep H2.out
  have hr2 : Row ((w2.setCell ⟨g, 2, none⟩ (.slice none 0 0)).setCell ⟨g, 1, none⟩ (.int .i64 0)) g [.int .i64 most, .int .i64 (sumN [] : Int), .slice none 0 0] 99 := (hI.row.set 2 _).set 1 _
  have hLB : ∃ wB, Laid wB ∧ wB.heap.size = B ∧ Below B wB ((w2.setCell ⟨g, 2, none⟩ (.slice none 0 0)).setCell ⟨g, 1, none⟩ (.int .i64 0)) := by
    obtain ⟨wB, a1, a2, a3⟩ := hI.laid
    refine ⟨wB, a1, a2, a3.os, a3.tape, a3.output, by have := a3.size; simpa [World.setCell] using this, fun j hj => ?_⟩
    have hjg : j ≠ g := by have := hI.le; omega
    rw [heap_set_other _ g 1 _ j hjg, heap_set_other _ g 2 _ j hjg]
    exact a3.block j hj
  have hI2 : BdI B g most [] (.slice none 0 0) ((w2.setCell ⟨g, 2, none⟩ (.slice none 0 0)).setCell ⟨g, 1, none⟩ (.int .i64 0)) := ⟨hr2, Own.nil _ _ _ _ _, by simp [Value.ownBlock], hI.le, hI.lim, by decide, (fun x hx => by cases hx), Or.inl rfl, hLB⟩
  have hT : TurnB g (.slice A l.length c) (.slice none 0 0) w ((w2.setCell ⟨g, 2, none⟩ (.slice none 0 0)).setCell ⟨g, 1, none⟩ (.int .i64 0)) := by
    refine ⟨H2.out.os, H2.out.tape, H2.out.output, by have := H2.out.size; simpa [World.setCell] using this, fun j hj hg _ => ?_, fun k hk => by cases hk⟩
    rw [heap_set_other _ g 1 _ j hg, heap_set_other _ g 2 _ j hg]
    exact H2.out.block j hj
  exact ⟨rfl, HX.out.1.turn HX.out.2.1 HX.out.2.2.1 HX.out.2.2.2.1 hI2 hT⟩
end Go.Proofs.YtecalodcbkljoaaGreatDoor
namespace Go.Proofs.YtecalodcbkljoaaGreatDoor
open Go.RowKit
/-- append, at whatever operation: what is appended is there, at least one element. -/
theorem wp_append_at {P : Program} (w : World) {α : Type} {o : Oper} {a : Act} {K : Act → World → Prop} {Q : Exit → Act → World → Prop} (sx x : Operand) (t : TypeId)
    (ho : o.op = .call { callee := .builtin .append, args := #[sx, x], argTypes := #[t, t] })
    (base : Nat) (e : TypeId) (s bytes : Nat) (enc : α → List Value) (ht : P.underlying t = some (.slice e)) (hi : (P.info? e).map (fun i => (i.zero.map (·.cells.size), i.size, i.bytes)) = some (some s, s, bytes)) (hsz : 0 < s)
    (hs : ∀ x, (enc x).length = s) (h1 : ∀ x, ∀ u ∈ enc x, u.oneCell' = true)
    (v : Value) (xs : List α) (hv : a.eval sx = v) (hown : Own w base e s enc v xs)
    (ad : Addr) (m c : Nat) (ys : List α) (hm : ys.length = m) (hx : a.eval x = .slice (some ad) m c) (hat : At w ad (ys.flatMap enc))
    (hlen : (xs.length + m) * bytes ≤ 140737488355328) (hl2 : xs.length + m ≤ 9223372036854775807) (hbase : base ≤ w.heap.size)
    (h : ∀ v' w', Own w' base e s enc v' (xs ++ ys) → w.grownBy w' v.ownBlock → (v'.ownBlock = v.ownBlock ∨ v'.ownBlock = some w.heap.size) → K (a.put o.dst v') w') : o.wp P a w K Q := by
  subst hm
  cases hq : P.info? e with
  | none => rw [hq] at hi; cases hi
  | some i =>
    simp only [hq, Option.map_some, Option.some.injEq, Prod.mk.injEq] at hi
    obtain ⟨hz, hsi, hby⟩ := hi
    cases hz0 : i.zero with
    | none => rw [hz0] at hz; cases hz
    | some z =>
      simp only [hz0, Option.map_some, Option.some.injEq] at hz
      obtain ⟨v', w', hr, h2, h3, _, h5⟩ := run_append_own_at (P := P) w base t o.type e i z s bytes ht hq hz0 hsi hby hz hsz v xs.length (xs.flatMap enc) hown ad ys.length c (ys.flatMap enc) (flatMap_length enc s hs ys) hat.2 (by
        intro u hu
        obtain ⟨y, _, hy⟩ := List.mem_flatMap.1 hu
        exact h1 y u hy) (by unfold maxLen; omega) hlen hbase
      unfold Oper.wp execOp
      simp only [ho, resolve, invoke, builtin, Sem.run_bind, Sem.run_pure, Result.andThen_ok, List.map_toArray, List.map_cons, List.map_nil, hv, hx, hr]
      refine h v' w' ?_ h3 h5
      unfold Own
      rw [List.length_append, List.flatMap_append]
      exact h2
/-- A new row that holds these items, behind the world w1. -/
def newX (w1 : World) (ys : List It) (v : Value) (u : World) : Prop := ∃ g, v = .slice (some ⟨g, 0, none⟩) 1 1 ∧ w1.heap.size ≤ g ∧ Row u g (ys.flatMap cX) 64
theorem newX.mk {w1 : World} (u : World) {a : It} (h : w1.heap.size ≤ u.heap.size) : newX w1 [a] (.slice (some ⟨u.heap.size, 0, none⟩) 1 1) (u.alloc (.cells (aX a) 64)) := by
  refine ⟨_, rfl, h, ?_⟩
  rw [show [a].flatMap cX = cX a by simp]
  exact Row.new u (cX a) _
/-- What an append onto the row of vw leaves: the longer list, in that row or in a new one; every other block of w1 as it was. -/
def ApX (B : Nat) (vw : Value) (w1 : World) (l : List It) (v : Value) (u : World) : Prop :=
  Own u B 64 33 cX v l ∧ (v.ownBlock = vw.ownBlock ∨ ∃ g, v.ownBlock = some g ∧ w1.heap.size ≤ g) ∧ w1.heap.size ≤ u.heap.size ∧ (u.os = w1.os ∧ u.tape = w1.tape ∧ u.output = w1.output) ∧ ∀ k, k < w1.heap.size → vw.ownBlock ≠ some k → u.heap[k]? = w1.heap[k]?
theorem ApX.mk {B : Nat} {vw v2 : Value} {w1 u u2 : World} {l : List It} (hB : Below w1.heap.size w1 u) (ho : Own u2 B 64 33 cX v2 l) (hg : u.grownBy u2 vw.ownBlock) (hb : v2.ownBlock = vw.ownBlock ∨ v2.ownBlock = some u.heap.size) : ApX B vw w1 l v2 u2 :=
  ⟨ho, hb.imp id fun e => ⟨_, e, hB.size⟩, Nat.le_trans hB.size hg.size, ⟨hg.os.trans hB.os, hg.tape.trans hB.tape, hg.output.trans hB.output⟩, fun k hk hne => (hg.block k (Nat.lt_of_lt_of_le hk hB.size) (fun e => hne e.symm)).trans (hB.block k hk)⟩
theorem setCell_sz (w : World) (a : Addr) (v : Value) : (w.setCell a v).heap.size = w.heap.size := by simp [World.setCell]
theorem Own.setc {α : Type} {w : World} {base s : Nat} {e : TypeId} {enc : α → List Value} {v : Value} {xs : List α} (h : Own w base e s enc v xs) (g k : Nat) (u : Value) (hne : v.ownBlock ≠ some g) : Own (w.setCell ⟨g, k, none⟩ u) base e s enc v xs := by
  refine ⟨h.1, h.2.imp id fun ⟨j, cap, cur, a1, a2, a3, r⟩ => ⟨j, cap, cur, a1, a2, ?_, r⟩⟩
  rw [heap_set_other w g k u j (fun e => hne (by rw [a1, ← e]; rfl))]
  exact a3
/-- Behind the append and the store of the slice. -/
theorem BdI.app {B g : Nat} {most : Int} {l m : List It} {v vm : Value} {w u : World} (h : BdI B g most l v w) (hB : B ≤ w.heap.size) (ha : ApX B v w m vm u) :
    Row u g [.int .i64 most, .int .i64 (sumN l : Int), v] 99 ∧ Row (u.setCell ⟨g, 2, none⟩ vm) g [.int .i64 most, .int .i64 (sumN l : Int), vm] 99 ∧ Own (u.setCell ⟨g, 2, none⟩ vm) B 64 33 cX vm m ∧ vm.ownBlock ≠ some g ∧ TurnB g v vm w (u.setCell ⟨g, 2, none⟩ vm) ∧ Below B w (u.setCell ⟨g, 2, none⟩ vm) := by
  obtain ⟨ho, hor, hsz, hos, hk⟩ := ha
  have hr : Row u g [.int .i64 most, .int .i64 (sumN l : Int), v] 99 := h.row.same (hk g h.row.lt h.ne)
  have hne : vm.ownBlock ≠ some g := fun e => by
    rcases hor with e2 | ⟨g2, e2, h2⟩
    · exact h.ne (e2.symm.trans e)
    · rw [e2] at e
      have := Option.some.inj e
      have := h.row.lt
      omega
  have hset : ∀ j, j ≠ g → (u.setCell ⟨g, 2, none⟩ vm).heap[j]? = u.heap[j]? := fun j hj => heap_set_other u g 2 vm j hj
  refine ⟨hr, hr.set 2 vm, ho.setc g 2 vm hne, hne, ⟨hos.1, hos.2.1, hos.2.2, by rw [setCell_sz]; exact hsz, fun j hj hg hv => (hset j hg).trans (hk j hj fun e => hv e.symm), fun j hj => ?_⟩, ⟨hos.1, hos.2.1, hos.2.2, by rw [setCell_sz]; exact hsz, fun j hj => (hset j (by have := h.le; omega)).trans (hk j (Nat.lt_of_lt_of_le hj hB) fun e => ?_)⟩⟩
  · rcases hor with e2 | ⟨g2, e2, h2⟩
    · exact Or.inl (e2.symm.trans hj)
    · rw [e2] at hj
      have := Option.some.inj hj
      right
      omega
  · have := (h.own.lt j e).1
    omega
/-- Behind the second store. -/
theorem BdI.done {B g : Nat} {most : Int} {l m : List It} {v vm : Value} {w u3 u4 : World} (h : BdI B g most l v w) (hB : B ≤ w.heap.size) (hr : Row u3 g [.int .i64 most, .int .i64 (sumN l : Int), vm] 99) (ho : Own u3 B 64 33 cX vm m) (hne : vm.ownBlock ≠ some g) (ht : TurnB g v vm w u3) (hw : Below B w u3)
    (hb : Below u3.heap.size u3 u4) (hm : m.length ≤ 1000 ∧ (∀ y ∈ m, y.text.size ≤ 65536) ∧ (sizeN m.length (sumN m) : Int) ≤ most) :
    BdI B g most m vm (u4.setCell ⟨g, 1, none⟩ (.int .i64 (sumN m : Int))) ∧ TurnB g v vm w (u4.setCell ⟨g, 1, none⟩ (.int .i64 (sumN m : Int))) := by
  have hset : ∀ j, j ≠ g → (u4.setCell ⟨g, 1, none⟩ (.int .i64 (sumN m : Int))).heap[j]? = u4.heap[j]? := fun j hj => heap_set_other u4 g 1 _ j hj
  have hsz : u3.heap.size ≤ (u4.setCell ⟨g, 1, none⟩ (.int .i64 (sumN m : Int))).heap.size := by rw [setCell_sz]; exact hb.size
  have ho4 := ho.keep hb
  refine ⟨⟨(hr.keep hb).set 1 _, ho4.setc g 1 _ hne, hne, h.le, h.lim, hm.1, hm.2.1, Or.inr hm.2.2, ?_⟩, ⟨hb.os.trans ht.os, hb.tape.trans ht.tape, hb.output.trans ht.output, Nat.le_trans ht.size hsz, fun j hj hg hv => ?_, ht.at_⟩⟩
  · obtain ⟨wB, a1, a2, a3⟩ := h.laid
    refine ⟨wB, a1, a2, hb.os.trans (hw.os.trans a3.os), hb.tape.trans (hw.tape.trans a3.tape), hb.output.trans (hw.output.trans a3.output), Nat.le_trans a3.size (Nat.le_trans ht.size hsz), fun j hj => ?_⟩
    have hj3 : j < u3.heap.size := Nat.lt_of_lt_of_le hj (Nat.le_trans hB ht.size)
    rw [hset j (by have := h.le; omega), hb.block j hj3, hw.block j hj]
    exact a3.block j hj
  · rw [hset j hg, hb.block j (Nat.lt_of_lt_of_le hj ht.size)]
    exact ht.out j hj hg hv
/-- What Add answers and leaves. -/
def addE (most : Int) (l : List It) (x : It) : Int × List It :=
  if most < (sizeN 1 (itN x) : Int) then (5, l) else if most < (sizeN (l.length + 1) (sumN l + itN x) : Int) then (9, l) else (0, l ++ [x])
set_option maxRecDepth 100000 in
set_option maxHeartbeats 3200000 in
theorem add_nil (x : It) (w : World) : Calls Tryz.prog 26 #[.pointer none, vX x] w fun e w' => e = .returned (.int .i64 1) ∧ Below w.heap.size w w' := by
  go_enter Tryz.func26, Tryz.ntmps26
  go_wp2
  go_ret
  exact ⟨rfl, below_alloc _ _⟩
theorem BdL.addx {B g : Nat} {most : Int} {l : List It} {F : List Nat} {w : World} {x : It} (h : BdL B g most l F w) (hx : x.text.size ≤ 65536) (hn : l.length < 1000) (h9 : ¬ most < (sizeN (l.length + 1) (sumN l + itN x) : Int)) : (l ++ [x]).length ≤ 1000 ∧ (∀ y ∈ l ++ [x], y.text.size ≤ 65536) ∧ (sizeN (l ++ [x]).length (sumN (l ++ [x])) : Int) ≤ most := by
  obtain ⟨h1, h2, h3, h4, h5⟩ := h.facts
  refine ⟨by rw [List.length_append, List.length_singleton]; omega, fun y hy => ?_, ?_⟩
  · rcases List.mem_append.1 hy with hy | hy
    · exact h3 y hy
    · rw [List.mem_singleton.1 hy]
      exact hx
  · rw [List.length_append, List.length_singleton, show sumN (l ++ [x]) = sumN l + itN x by simp [sumN]]
    omega
set_option maxRecDepth 100000 in
set_option maxHeartbeats 12800000 in
theorem BdL.add {B g : Nat} {most : Int} {l : List It} {F : List Nat} {w : World} (x : It) (h : BdL B g most l F w) (hx : x.text.size ≤ 65536) (hnl : l.length < 1000) : Calls Tryz.prog 26 #[.pointer (some ⟨g, 0, none⟩), vX x] w fun e w' => e = .returned (.int .i64 (addE most l x).1) ∧ BdL B g most (addE most l x).2 F w' ∧ KeepF B F w w' := by
  have HD := Lib.hid h
  have hL := h.laid
  have HAX := Lib.hid (fun h9 => h.addx hx hnl h9)
  obtain ⟨v, h1, h2, h3, h4⟩ := h
  obtain ⟨A, c, rfl, -, -⟩ := h1.own.sl
  obtain ⟨b, hb⟩ : ∃ b, w.heap.size = b := ⟨_, rfl⟩
  obtain ⟨W0, hW0⟩ : ∃ W0, w.alloc (.cells (aX x) 64) = W0 := ⟨_, rfl⟩
  have HBB := Lib.hid hb
  have HW := Lib.hid (show Below w.heap.size w W0 from by rw [← hW0]; exact below_alloc _ _)
  have HX := Lib.hid (show Row W0 b (cX x) 64 ∧ BdI B g most l (.slice A l.length c) W0 ∧ Laid W0 from by
    subst hW0 hb
    exact ⟨Row.new w (cX x) _, h1.keep (below_alloc _ _), hL.keep (below_alloc _ _)⟩)
  have HF := Lib.hid (And.intro h1 (And.intro h2 (And.intro h3 h4)))
  have HT := Lib.hid (show x.text.size ≤ 1073741824 by omega)
  have HT2 := Lib.hid hx
  obtain ⟨n, hn⟩ : ∃ n, l.length = n := ⟨_, rfl⟩
  obtain ⟨k, hk⟩ : ∃ k, sumN l = k := ⟨_, rfl⟩
  obtain ⟨i, hi⟩ : ∃ i, itN x = i := ⟨_, rfl⟩
  have HNN := Lib.hid hn
  have HKK := Lib.hid hk
  have HII := Lib.hid hi
  have hk2 : k ≤ 65700000 := by rw [← hk]; exact h1.sum
  have hi2 : i ≤ 65700 := by rw [← hi]; exact itN_fine hx
  have HKI := Lib.hid (show -9223372036854775808 ≤ (k : Int) + (i : Int) ∧ (k : Int) + (i : Int) ≤ 9223372036854775807 by omega)
  obtain ⟨z, hz⟩ : ∃ z, sizeN 1 i = z := ⟨_, rfl⟩
  obtain ⟨y, hy⟩ : ∃ y, sizeN (n + 1) (k + i) = y := ⟨_, rfl⟩
  have HZ := Lib.hid (fun W hW => size_l 1 i (by omega) (by omega) W hW)
  have HY := Lib.hid (fun W hW => size_l (n + 1) (k + i) (by omega) (by omega) W hW)
  rw [hz] at HZ
  rw [hy, show ((n + 1 : Nat) : Int) = (n : Int) + 1 by omega, show ((k + i : Nat) : Int) = (k : Int) + (i : Int) by omega] at HY
  have hxi : ((65536 : Int) < (x.text.size : Int)) = False := eq_false (by omega)
  have hn2 : ((1000 : Int) ≤ (n : Int)) = False := eq_false (by omega)
  have hn3 : IntKind.i64.wrap ((n : Int) + 1) = (n : Int) + 1 := IntWalk.i64_in _ (by omega)
  have HN1 := Lib.hid (show n < 1000 by omega)
  have HA := Lib.hid (show addE most l x = if most < (z : Int) then (5, l) else if most < (y : Int) then (9, l) else (0, l ++ [x]) by unfold addE; rw [hn, hk, hi, hz, hy])
  rw [hn, hk, hi, hy] at HAX
  rw [hn] at HX
  have HBI := Lib.hid (show itN x = i from hi)
  obtain ⟨r, hr⟩ : ∃ r, decide (most < (z : Int)) = r := ⟨_, rfl⟩
  have HR := Lib.hid hr
  obtain ⟨q, hq⟩ : ∃ q, decide (most < (y : Int)) = q := ⟨_, rfl⟩
  have HQ := Lib.hid hq
  clear h1 h2 h3 h4 hL hx hnl hn hk hi hk2 hi2 hz hy hr hq
  go_enter Tryz.func26, Tryz.ntmps26
  go_wp2
  clear hb hW0
  have hr : decide (most < (z : Int)) = r := HR.out
  refine AnyO.wp_any_tail 14 (by kernel_rfl) (by kernel_rfl) (by kernel_rfl) (by kernel_rfl) (by kernel_rfl) (by kernel_rfl) (pstP [isV (.pointer (some ⟨b, 32, none⟩)), isV (.string x.text), isV (.int .i64 (x.text.size : Int)), isV (.bool false), isV (.bool false), isV (vX x), isV (.int .i64 (i : Int)), isV (.int .i64 (z : Int)), isV (.pointer (some ⟨g, 0, none⟩)), isV (.pointer (some ⟨g, 0, none⟩)), isV (.pointer (some ⟨g, 0, none⟩)), isV (.int .i64 most), isV (.bool r), isV (.bool r)]) (MonoL.cons (Mono.v _) (MonoL.cons (Mono.v _) (MonoL.cons (Mono.v _) (MonoL.cons (Mono.v _) (MonoL.cons (Mono.v _) (MonoL.cons (Mono.v _) (MonoL.cons (Mono.v _) (MonoL.cons (Mono.v _) (MonoL.cons (Mono.v _) (MonoL.cons (Mono.v _) (MonoL.cons (Mono.v _) (MonoL.cons (Mono.v _) (MonoL.cons (Mono.v _) (MonoL.cons (Mono.v _) MonoL.nil)))))))))))))) ?_ ?_
  · intro i hi
    have hi2 : i = 0 ∨ i = 1 ∨ i = 2 ∨ i = 3 ∨ i = 4 ∨ i = 5 ∨ i = 6 ∨ i = 7 ∨ i = 8 ∨ i = 9 ∨ i = 10 ∨ i = 11 ∨ i = 12 ∨ i = 13 := by omega
    clear hi
    rcases hi2 with rfl | rfl | rfl | rfl | rfl | rfl | rfl | rfl | rfl | rfl | rfl | rfl | rfl | rfl
    · -- 0: Op.fieldAddr 64 (Operand.tmp 3) 1
      refine AnyO.Step.mk rfl [] (by kernel_rfl) ?_
      intro vs u hE hp ac hb K hK
      have s3 : ac.tmps[3]?.getD undef = .pointer (some ⟨b, 0, none⟩) := by rw [hb]; kernel_rfl
      rw [if_pos (AnyO.wanted_none rfl)]
      clear hb hp
      go_simp
      exact hK _ _ (Below.refl _ _) rfl
    · -- 1: Op.load 9 (Operand.tmp 9)
      refine AnyO.Step.mk rfl [0] (by kernel_rfl) ?_
      intro vs u hE hp ac hb K hK
      have s9 : ac.tmps[9]?.getD undef = .pointer (some ⟨b, 32, none⟩) := by rw [hb]; exact (show _ = vs 0 by kernel_rfl).trans (hp 0 (by decide))
      rw [if_pos (AnyO.wanted_none rfl)]
      clear hb hp
      obtain ⟨⟨x0, x1, -⟩, -, x2⟩ := rowX (HX.out.1.keep (Below.step (below_drew _) hE))
      go_simp
      exact hK _ _ (Below.refl _ _) rfl
    · -- 2: Op.call { callee := Callee.builtin Builtin.len, args := #[Op
      refine AnyO.Step.mk rfl [1] (by kernel_rfl) ?_
      intro vs u hE hp ac hb K hK
      have s10 : ac.tmps[10]?.getD undef = .string x.text := by rw [hb]; exact (show _ = vs 1 by kernel_rfl).trans (hp 1 (by decide))
      rw [if_pos (AnyO.wanted_none rfl)]
      clear hb hp
      go_simp
      exact hK _ _ (Below.refl _ _) rfl
    · -- 3: Op.binOp BinOp.gtr 3 (Operand.tmp 11) (Operand.const (Value.
      refine AnyO.Step.mk rfl [2] (by kernel_rfl) ?_
      intro vs u hE hp ac hb K hK
      have s11 : ac.tmps[11]?.getD undef = .int .i64 (x.text.size : Int) := by rw [hb]; exact (show _ = vs 2 by kernel_rfl).trans (hp 2 (by decide))
      rw [if_pos (AnyO.wanted_none rfl)]
      clear hb hp
      have r0 := hxi
      go_simp
      exact hK _ _ (Below.refl _ _) rfl
    · -- 4: Op.move (Operand.tmp 12)
      refine AnyO.Step.mk rfl [3] (by kernel_rfl) ?_
      intro vs u hE hp ac hb K hK
      have s12 : ac.tmps[12]?.getD undef = .bool false := by rw [hb]; exact (show _ = vs 3 by kernel_rfl).trans (hp 3 (by decide))
      rw [if_pos (AnyO.wanted_none rfl)]
      clear hb hp
      go_simp
      exact hK _ _ (Below.refl _ _) rfl
    · -- 5: Op.load 64 (Operand.tmp 3)
      refine AnyO.Step.mk rfl [4] (by kernel_rfl) ?_
      intro vs u hE hp ac hb K hK
      have s3 : ac.tmps[3]?.getD undef = .pointer (some ⟨b, 0, none⟩) := by rw [hb]; kernel_rfl
      have s13 : ac.tmps[13]?.getD undef = .bool false := by rw [hb]; exact (show _ = vs 4 by kernel_rfl).trans (hp 4 (by decide))
      rw [if_pos (AnyO.wanted_some (g := 4) (t := 13) (want := false) rfl rfl s13)]
      clear hb hp
      obtain ⟨⟨x0, x1, -⟩, -, x2⟩ := rowX (HX.out.1.keep (Below.step (below_drew _) hE))
      go_simp
      exact hK _ _ (Below.refl _ _) rfl
    · -- 6: Op.call { callee := Callee.value (Operand.func 50), args := 
      refine AnyO.Step.mk rfl [5, 4, 4] (by kernel_rfl) ?_
      intro vs u hE hp ac hb K hK
      have s14 : ac.tmps[14]?.getD undef = vX x := by rw [hb]; exact (show _ = vs 5 by kernel_rfl).trans (hp 5 (by decide))
      have s13 : ac.tmps[13]?.getD undef = .bool false := by rw [hb]; exact (show _ = vs 4 by kernel_rfl).trans (hp 4 (by decide))
      rw [if_pos (AnyO.wanted_some (g := 4) (t := 13) (want := false) rfl rfl s13)]
      clear hb hp
      go_simp
      go_at_call 50
      refine (bytes_i x u (HX.out.2.2.keep (Below.step (below_drew _) hE)) HT.out).mono ?_
      rintro e w2 ⟨rfl, hb2⟩
      exact hK _ _ hb2 (congrArg (fun j : Nat => Value.int IntKind.i64 (j : Int)) HII.out)
    · -- 7: Op.call { callee := Callee.value (Operand.func 49), args := 
      refine AnyO.Step.mk rfl [6, 6, 4] (by kernel_rfl) ?_
      intro vs u hE hp ac hb K hK
      have s15 : ac.tmps[15]?.getD undef = .int .i64 (i : Int) := by rw [hb]; exact (show _ = vs 6 by kernel_rfl).trans (hp 6 (by decide))
      have s13 : ac.tmps[13]?.getD undef = .bool false := by rw [hb]; exact (show _ = vs 4 by kernel_rfl).trans (hp 4 (by decide))
      rw [if_pos (AnyO.wanted_some (g := 4) (t := 13) (want := false) rfl rfl s13)]
      clear hb hp
      go_simp
      go_at_call 49
      refine (HZ.out u (HX.out.2.2.keep (Below.step (below_drew _) hE))).mono ?_
      rintro e w2 ⟨rfl, hb2⟩
      exact hK _ _ hb2 rfl
    · -- 8: Op.move (Operand.tmp 0)
      refine AnyO.Step.mk rfl [4] (by kernel_rfl) ?_
      intro vs u hE hp ac hb K hK
      have s0 : ac.tmps[0]?.getD undef = .pointer (some ⟨g, 0, none⟩) := by rw [hb]; kernel_rfl
      have s13 : ac.tmps[13]?.getD undef = .bool false := by rw [hb]; exact (show _ = vs 4 by kernel_rfl).trans (hp 4 (by decide))
      rw [if_pos (AnyO.wanted_some (g := 4) (t := 13) (want := false) rfl rfl s13)]
      clear hb hp
      go_simp
      exact hK _ _ (Below.refl _ _) rfl
    · -- 9: Op.nilCheck (Operand.tmp 17)
      refine AnyO.Step.mk rfl [8, 4] (by kernel_rfl) ?_
      intro vs u hE hp ac hb K hK
      have s17 : ac.tmps[17]?.getD undef = .pointer (some ⟨g, 0, none⟩) := by rw [hb]; exact (show _ = vs 8 by kernel_rfl).trans (hp 8 (by decide))
      have s13 : ac.tmps[13]?.getD undef = .bool false := by rw [hb]; exact (show _ = vs 4 by kernel_rfl).trans (hp 4 (by decide))
      rw [if_pos (AnyO.wanted_some (g := 4) (t := 13) (want := false) rfl rfl s13)]
      clear hb hp
      go_simp
      exact hK _ _ (Below.refl _ _) rfl
    · -- 10: Op.fieldAddr 99 (Operand.tmp 18) 0
      refine AnyO.Step.mk rfl [9, 4] (by kernel_rfl) ?_
      intro vs u hE hp ac hb K hK
      have s18 : ac.tmps[18]?.getD undef = .pointer (some ⟨g, 0, none⟩) := by rw [hb]; exact (show _ = vs 9 by kernel_rfl).trans (hp 9 (by decide))
      have s13 : ac.tmps[13]?.getD undef = .bool false := by rw [hb]; exact (show _ = vs 4 by kernel_rfl).trans (hp 4 (by decide))
      rw [if_pos (AnyO.wanted_some (g := 4) (t := 13) (want := false) rfl rfl s13)]
      clear hb hp
      go_simp
      exact hK _ _ (Below.refl _ _) rfl
    · -- 11: Op.load 3 (Operand.tmp 19)
      refine AnyO.Step.mk rfl [10, 4] (by kernel_rfl) ?_
      intro vs u hE hp ac hb K hK
      have s19 : ac.tmps[19]?.getD undef = .pointer (some ⟨g, 0, none⟩) := by rw [hb]; exact (show _ = vs 10 by kernel_rfl).trans (hp 10 (by decide))
      have s13 : ac.tmps[13]?.getD undef = .bool false := by rw [hb]; exact (show _ = vs 4 by kernel_rfl).trans (hp 4 (by decide))
      rw [if_pos (AnyO.wanted_some (g := 4) (t := 13) (want := false) rfl rfl s13)]
      clear hb hp
      have r0 := (HX.out.2.1.row.keep (Below.step (below_drew _) hE)).cell 0
      go_simp
      exact hK _ _ (Below.refl _ _) rfl
    · -- 12: Op.binOp BinOp.gtr 3 (Operand.tmp 16) (Operand.tmp 20) 3
      refine AnyO.Step.mk rfl [7, 11, 4] (by kernel_rfl) ?_
      intro vs u hE hp ac hb K hK
      have s16 : ac.tmps[16]?.getD undef = .int .i64 (z : Int) := by rw [hb]; exact (show _ = vs 7 by kernel_rfl).trans (hp 7 (by decide))
      have s20 : ac.tmps[20]?.getD undef = .int .i64 most := by rw [hb]; exact (show _ = vs 11 by kernel_rfl).trans (hp 11 (by decide))
      have s13 : ac.tmps[13]?.getD undef = .bool false := by rw [hb]; exact (show _ = vs 4 by kernel_rfl).trans (hp 4 (by decide))
      rw [if_pos (AnyO.wanted_some (g := 4) (t := 13) (want := false) rfl rfl s13)]
      clear hb hp
      have r0 := hr
      go_simp
      exact hK _ _ (Below.refl _ _) rfl
    · -- 13: Op.pick (Operand.tmp 13) (Operand.const (Value.bool true)) (
      refine AnyO.Step.mk rfl [4, 12] (by kernel_rfl) ?_
      intro vs u hE hp ac hb K hK
      have s13 : ac.tmps[13]?.getD undef = .bool false := by rw [hb]; exact (show _ = vs 4 by kernel_rfl).trans (hp 4 (by decide))
      have s21 : ac.tmps[21]?.getD undef = .bool r := by rw [hb]; exact (show _ = vs 12 by kernel_rfl).trans (hp 12 (by decide))
      rw [if_pos (AnyO.wanted_none rfl)]
      clear hb hp
      go_simp
      exact hK _ _ (Below.refl _ _) rfl
  · intro vs u hE hp
    have e0 : vs 0 = .pointer (some ⟨b, 32, none⟩) := hp 0 (by decide)
    have e1 : vs 1 = .string x.text := hp 1 (by decide)
    have e2 : vs 2 = .int .i64 (x.text.size : Int) := hp 2 (by decide)
    have e3 : vs 3 = .bool false := hp 3 (by decide)
    have e4 : vs 4 = .bool false := hp 4 (by decide)
    have e5 : vs 5 = vX x := hp 5 (by decide)
    have e6 : vs 6 = .int .i64 (i : Int) := hp 6 (by decide)
    have e7 : vs 7 = .int .i64 (z : Int) := hp 7 (by decide)
    have e8 : vs 8 = .pointer (some ⟨g, 0, none⟩) := hp 8 (by decide)
    have e9 : vs 9 = .pointer (some ⟨g, 0, none⟩) := hp 9 (by decide)
    have e10 : vs 10 = .pointer (some ⟨g, 0, none⟩) := hp 10 (by decide)
    have e11 : vs 11 = .int .i64 most := hp 11 (by decide)
    have e12 : vs 12 = .bool r := hp 12 (by decide)
    have e13 : vs 13 = .bool r := hp 13 (by decide)
    clear hp
    have H1 := Lib.hid (show Row u b (cX x) 64 ∧ BdI B g most l (.slice A n c) u ∧ Laid u from ⟨HX.out.1.keep hE, HX.out.2.1.keep hE, HX.out.2.2.keep hE⟩)
    have HE := Lib.hid (show Below w.heap.size w u from Below.step HW.out hE)
    obtain ⟨w1, hw1⟩ : ∃ w1, w1 = u := ⟨_, rfl⟩
    subst hw1
    clear hE
    rw [puts_range [some 9, some 10, some 11, some 12, some 13, some 14, some 15, some 16, some 17, some 18, some 19, some 20, some 21, some 22] (by kernel_rfl)]
    simp only [putL, Nat.reduceAdd, List.drop_succ_cons, List.drop_zero, e0, e1, e2, e3, e4, e5, e6, e7, e8, e9, e10, e11, e12, e13]
    clear e0 e1 e2 e3 e4 e5 e6 e7 e8 e9 e10 e11 e12 e13
    go_simp
    clear hr hxi
    rcases r with _ | _
    case true =>
      have HA2 := Lib.hid (show addE most l x = (5, l) by rw [HA.out, if_pos (of_decide_eq_true HR.out)])
      go_wp2
      go_ret
      rw [HA2.out]
      exact ⟨rfl, HD.out.keep HE.out, HD.out.kept HE.out⟩
    case false =>
      go_wp2
      have hr2 : decide (most < (y : Int)) = q := HQ.out
      refine AnyO.wp_any_tail 27 (by kernel_rfl) (by kernel_rfl) (by kernel_rfl) (by kernel_rfl) (by kernel_rfl) (by kernel_rfl) (pstP [isV (.pointer (some ⟨g, 0, none⟩)), isV (.pointer (some ⟨g, 0, none⟩)), isV (.pointer (some ⟨g, 2, none⟩)), isV (.slice A n c), isV (.int .i64 (n : Int)), isV (.bool false), isV (.bool false), isV (.pointer (some ⟨g, 0, none⟩)), isV (.pointer (some ⟨g, 0, none⟩)), isV (.pointer (some ⟨g, 2, none⟩)), isV (.slice A n c), isV (.int .i64 (n : Int)), isV (.int .i64 ((n : Int) + 1)), isV (.pointer (some ⟨g, 0, none⟩)), isV (.pointer (some ⟨g, 0, none⟩)), isV (.pointer (some ⟨g, 1, none⟩)), isV (.int .i64 (k : Int)), isV (vX x), isV (.int .i64 (i : Int)), isV (.int .i64 ((k : Int) + (i : Int))), isV (.int .i64 (y : Int)), isV (.pointer (some ⟨g, 0, none⟩)), isV (.pointer (some ⟨g, 0, none⟩)), isV (.pointer (some ⟨g, 0, none⟩)), isV (.int .i64 most), isV (.bool q), isV (.bool q)]) (MonoL.cons (Mono.v _) (MonoL.cons (Mono.v _) (MonoL.cons (Mono.v _) (MonoL.cons (Mono.v _) (MonoL.cons (Mono.v _) (MonoL.cons (Mono.v _) (MonoL.cons (Mono.v _) (MonoL.cons (Mono.v _) (MonoL.cons (Mono.v _) (MonoL.cons (Mono.v _) (MonoL.cons (Mono.v _) (MonoL.cons (Mono.v _) (MonoL.cons (Mono.v _) (MonoL.cons (Mono.v _) (MonoL.cons (Mono.v _) (MonoL.cons (Mono.v _) (MonoL.cons (Mono.v _) (MonoL.cons (Mono.v _) (MonoL.cons (Mono.v _) (MonoL.cons (Mono.v _) (MonoL.cons (Mono.v _) (MonoL.cons (Mono.v _) (MonoL.cons (Mono.v _) (MonoL.cons (Mono.v _) (MonoL.cons (Mono.v _) (MonoL.cons (Mono.v _) (MonoL.cons (Mono.v _) MonoL.nil))))))))))))))))))))))))))) ?_ ?_
      · intro i hi
        have hi2 : i = 0 ∨ i = 1 ∨ i = 2 ∨ i = 3 ∨ i = 4 ∨ i = 5 ∨ i = 6 ∨ i = 7 ∨ i = 8 ∨ i = 9 ∨ i = 10 ∨ i = 11 ∨ i = 12 ∨ i = 13 ∨ i = 14 ∨ i = 15 ∨ i = 16 ∨ i = 17 ∨ i = 18 ∨ i = 19 ∨ i = 20 ∨ i = 21 ∨ i = 22 ∨ i = 23 ∨ i = 24 ∨ i = 25 ∨ i = 26 := by omega
        clear hi
        rcases hi2 with rfl | rfl | rfl | rfl | rfl | rfl | rfl | rfl | rfl | rfl | rfl | rfl | rfl | rfl | rfl | rfl | rfl | rfl | rfl | rfl | rfl | rfl | rfl | rfl | rfl | rfl | rfl
        · -- 0: Op.move (Operand.tmp 0)
          refine AnyO.Step.mk rfl [] (by kernel_rfl) ?_
          intro vs u hE hp ac hb K hK
          have s0 : ac.tmps[0]?.getD undef = .pointer (some ⟨g, 0, none⟩) := by rw [hb]; kernel_rfl
          rw [if_pos (AnyO.wanted_none rfl)]
          clear hb hp
          go_simp
          exact hK _ _ (Below.refl _ _) rfl
        · -- 1: Op.nilCheck (Operand.tmp 24)
          refine AnyO.Step.mk rfl [0] (by kernel_rfl) ?_
          intro vs u hE hp ac hb K hK
          have s24 : ac.tmps[24]?.getD undef = .pointer (some ⟨g, 0, none⟩) := by rw [hb]; exact (show _ = vs 0 by kernel_rfl).trans (hp 0 (by decide))
          rw [if_pos (AnyO.wanted_none rfl)]
          clear hb hp
          go_simp
          exact hK _ _ (Below.refl _ _) rfl
        · -- 2: Op.fieldAddr 99 (Operand.tmp 25) 2
          refine AnyO.Step.mk rfl [1] (by kernel_rfl) ?_
          intro vs u hE hp ac hb K hK
          have s25 : ac.tmps[25]?.getD undef = .pointer (some ⟨g, 0, none⟩) := by rw [hb]; exact (show _ = vs 1 by kernel_rfl).trans (hp 1 (by decide))
          rw [if_pos (AnyO.wanted_none rfl)]
          clear hb hp
          go_simp
          exact hK _ _ (Below.refl _ _) rfl
        · -- 3: Op.load 22 (Operand.tmp 26)
          refine AnyO.Step.mk rfl [2] (by kernel_rfl) ?_
          intro vs u hE hp ac hb K hK
          have s26 : ac.tmps[26]?.getD undef = .pointer (some ⟨g, 2, none⟩) := by rw [hb]; exact (show _ = vs 2 by kernel_rfl).trans (hp 2 (by decide))
          rw [if_pos (AnyO.wanted_none rfl)]
          clear hb hp
          have r0 := (H1.out.2.1.row.keep (Below.step (below_drew _) hE)).cell 2
          go_simp
          exact hK _ _ (Below.refl _ _) rfl
        · -- 4: Op.call { callee := Callee.builtin Builtin.len, args := #[Op
          refine AnyO.Step.mk rfl [3] (by kernel_rfl) ?_
          intro vs u hE hp ac hb K hK
          have s27 : ac.tmps[27]?.getD undef = .slice A n c := by rw [hb]; exact (show _ = vs 3 by kernel_rfl).trans (hp 3 (by decide))
          rw [if_pos (AnyO.wanted_none rfl)]
          clear hb hp
          go_simp
          exact hK _ _ (Below.refl _ _) rfl
        · -- 5: Op.binOp BinOp.geq 3 (Operand.tmp 28) (Operand.const (Value.
          refine AnyO.Step.mk rfl [4] (by kernel_rfl) ?_
          intro vs u hE hp ac hb K hK
          have s28 : ac.tmps[28]?.getD undef = .int .i64 (n : Int) := by rw [hb]; exact (show _ = vs 4 by kernel_rfl).trans (hp 4 (by decide))
          rw [if_pos (AnyO.wanted_none rfl)]
          clear hb hp
          have r0 := hn2
          go_simp
          exact hK _ _ (Below.refl _ _) rfl
        · -- 6: Op.move (Operand.tmp 29)
          refine AnyO.Step.mk rfl [5] (by kernel_rfl) ?_
          intro vs u hE hp ac hb K hK
          have s29 : ac.tmps[29]?.getD undef = .bool false := by rw [hb]; exact (show _ = vs 5 by kernel_rfl).trans (hp 5 (by decide))
          rw [if_pos (AnyO.wanted_none rfl)]
          clear hb hp
          go_simp
          exact hK _ _ (Below.refl _ _) rfl
        · -- 7: Op.move (Operand.tmp 0)
          refine AnyO.Step.mk rfl [6] (by kernel_rfl) ?_
          intro vs u hE hp ac hb K hK
          have s0 : ac.tmps[0]?.getD undef = .pointer (some ⟨g, 0, none⟩) := by rw [hb]; kernel_rfl
          have s30 : ac.tmps[30]?.getD undef = .bool false := by rw [hb]; exact (show _ = vs 6 by kernel_rfl).trans (hp 6 (by decide))
          rw [if_pos (AnyO.wanted_some (g := 6) (t := 30) (want := false) rfl rfl s30)]
          clear hb hp
          go_simp
          exact hK _ _ (Below.refl _ _) rfl
        · -- 8: Op.nilCheck (Operand.tmp 31)
          refine AnyO.Step.mk rfl [7, 6] (by kernel_rfl) ?_
          intro vs u hE hp ac hb K hK
          have s31 : ac.tmps[31]?.getD undef = .pointer (some ⟨g, 0, none⟩) := by rw [hb]; exact (show _ = vs 7 by kernel_rfl).trans (hp 7 (by decide))
          have s30 : ac.tmps[30]?.getD undef = .bool false := by rw [hb]; exact (show _ = vs 6 by kernel_rfl).trans (hp 6 (by decide))
          rw [if_pos (AnyO.wanted_some (g := 6) (t := 30) (want := false) rfl rfl s30)]
          clear hb hp
          go_simp
          exact hK _ _ (Below.refl _ _) rfl
        · -- 9: Op.fieldAddr 99 (Operand.tmp 32) 2
          refine AnyO.Step.mk rfl [8, 6] (by kernel_rfl) ?_
          intro vs u hE hp ac hb K hK
          have s32 : ac.tmps[32]?.getD undef = .pointer (some ⟨g, 0, none⟩) := by rw [hb]; exact (show _ = vs 8 by kernel_rfl).trans (hp 8 (by decide))
          have s30 : ac.tmps[30]?.getD undef = .bool false := by rw [hb]; exact (show _ = vs 6 by kernel_rfl).trans (hp 6 (by decide))
          rw [if_pos (AnyO.wanted_some (g := 6) (t := 30) (want := false) rfl rfl s30)]
          clear hb hp
          go_simp
          exact hK _ _ (Below.refl _ _) rfl
        · -- 10: Op.load 22 (Operand.tmp 33)
          refine AnyO.Step.mk rfl [9, 6] (by kernel_rfl) ?_
          intro vs u hE hp ac hb K hK
          have s33 : ac.tmps[33]?.getD undef = .pointer (some ⟨g, 2, none⟩) := by rw [hb]; exact (show _ = vs 9 by kernel_rfl).trans (hp 9 (by decide))
          have s30 : ac.tmps[30]?.getD undef = .bool false := by rw [hb]; exact (show _ = vs 6 by kernel_rfl).trans (hp 6 (by decide))
          rw [if_pos (AnyO.wanted_some (g := 6) (t := 30) (want := false) rfl rfl s30)]
          clear hb hp
          have r0 := (H1.out.2.1.row.keep (Below.step (below_drew _) hE)).cell 2
          go_simp
          exact hK _ _ (Below.refl _ _) rfl
        · -- 11: Op.call { callee := Callee.builtin Builtin.len, args := #[Op
          refine AnyO.Step.mk rfl [10, 6] (by kernel_rfl) ?_
          intro vs u hE hp ac hb K hK
          have s34 : ac.tmps[34]?.getD undef = .slice A n c := by rw [hb]; exact (show _ = vs 10 by kernel_rfl).trans (hp 10 (by decide))
          have s30 : ac.tmps[30]?.getD undef = .bool false := by rw [hb]; exact (show _ = vs 6 by kernel_rfl).trans (hp 6 (by decide))
          rw [if_pos (AnyO.wanted_some (g := 6) (t := 30) (want := false) rfl rfl s30)]
          clear hb hp
          go_simp
          exact hK _ _ (Below.refl _ _) rfl
        · -- 12: Op.binOp BinOp.add 3 (Operand.tmp 35) (Operand.const (Value.
          refine AnyO.Step.mk rfl [11, 6] (by kernel_rfl) ?_
          intro vs u hE hp ac hb K hK
          have s35 : ac.tmps[35]?.getD undef = .int .i64 (n : Int) := by rw [hb]; exact (show _ = vs 11 by kernel_rfl).trans (hp 11 (by decide))
          have s30 : ac.tmps[30]?.getD undef = .bool false := by rw [hb]; exact (show _ = vs 6 by kernel_rfl).trans (hp 6 (by decide))
          rw [if_pos (AnyO.wanted_some (g := 6) (t := 30) (want := false) rfl rfl s30)]
          clear hb hp
          have r0 := hn3
          go_simp
          exact hK _ _ (Below.refl _ _) rfl
        · -- 13: Op.move (Operand.tmp 0)
          refine AnyO.Step.mk rfl [6] (by kernel_rfl) ?_
          intro vs u hE hp ac hb K hK
          have s0 : ac.tmps[0]?.getD undef = .pointer (some ⟨g, 0, none⟩) := by rw [hb]; kernel_rfl
          have s30 : ac.tmps[30]?.getD undef = .bool false := by rw [hb]; exact (show _ = vs 6 by kernel_rfl).trans (hp 6 (by decide))
          rw [if_pos (AnyO.wanted_some (g := 6) (t := 30) (want := false) rfl rfl s30)]
          clear hb hp
          go_simp
          exact hK _ _ (Below.refl _ _) rfl
        · -- 14: Op.nilCheck (Operand.tmp 37)
          refine AnyO.Step.mk rfl [13, 6] (by kernel_rfl) ?_
          intro vs u hE hp ac hb K hK
          have s37 : ac.tmps[37]?.getD undef = .pointer (some ⟨g, 0, none⟩) := by rw [hb]; exact (show _ = vs 13 by kernel_rfl).trans (hp 13 (by decide))
          have s30 : ac.tmps[30]?.getD undef = .bool false := by rw [hb]; exact (show _ = vs 6 by kernel_rfl).trans (hp 6 (by decide))
          rw [if_pos (AnyO.wanted_some (g := 6) (t := 30) (want := false) rfl rfl s30)]
          clear hb hp
          go_simp
          exact hK _ _ (Below.refl _ _) rfl
        · -- 15: Op.fieldAddr 99 (Operand.tmp 38) 1
          refine AnyO.Step.mk rfl [14, 6] (by kernel_rfl) ?_
          intro vs u hE hp ac hb K hK
          have s38 : ac.tmps[38]?.getD undef = .pointer (some ⟨g, 0, none⟩) := by rw [hb]; exact (show _ = vs 14 by kernel_rfl).trans (hp 14 (by decide))
          have s30 : ac.tmps[30]?.getD undef = .bool false := by rw [hb]; exact (show _ = vs 6 by kernel_rfl).trans (hp 6 (by decide))
          rw [if_pos (AnyO.wanted_some (g := 6) (t := 30) (want := false) rfl rfl s30)]
          clear hb hp
          go_simp
          exact hK _ _ (Below.refl _ _) rfl
        · -- 16: Op.load 3 (Operand.tmp 39)
          refine AnyO.Step.mk rfl [15, 6] (by kernel_rfl) ?_
          intro vs u hE hp ac hb K hK
          have s39 : ac.tmps[39]?.getD undef = .pointer (some ⟨g, 1, none⟩) := by rw [hb]; exact (show _ = vs 15 by kernel_rfl).trans (hp 15 (by decide))
          have s30 : ac.tmps[30]?.getD undef = .bool false := by rw [hb]; exact (show _ = vs 6 by kernel_rfl).trans (hp 6 (by decide))
          rw [if_pos (AnyO.wanted_some (g := 6) (t := 30) (want := false) rfl rfl s30)]
          clear hb hp
          have r0 := (H1.out.2.1.row.keep (Below.step (below_drew _) hE)).cell 1
          rw [HKK.out] at r0
          go_simp
          exact hK _ _ (Below.refl _ _) rfl
        · -- 17: Op.load 64 (Operand.tmp 3)
          refine AnyO.Step.mk rfl [6] (by kernel_rfl) ?_
          intro vs u hE hp ac hb K hK
          have s3 : ac.tmps[3]?.getD undef = .pointer (some ⟨b, 0, none⟩) := by rw [hb]; kernel_rfl
          have s30 : ac.tmps[30]?.getD undef = .bool false := by rw [hb]; exact (show _ = vs 6 by kernel_rfl).trans (hp 6 (by decide))
          rw [if_pos (AnyO.wanted_some (g := 6) (t := 30) (want := false) rfl rfl s30)]
          clear hb hp
          obtain ⟨⟨x0, x1, -⟩, -, x2⟩ := rowX (H1.out.1.keep (Below.step (below_drew _) hE))
          go_simp
          exact hK _ _ (Below.refl _ _) rfl
        · -- 18: Op.call { callee := Callee.value (Operand.func 50), args := 
          refine AnyO.Step.mk rfl [17, 6, 6] (by kernel_rfl) ?_
          intro vs u hE hp ac hb K hK
          have s41 : ac.tmps[41]?.getD undef = vX x := by rw [hb]; exact (show _ = vs 17 by kernel_rfl).trans (hp 17 (by decide))
          have s30 : ac.tmps[30]?.getD undef = .bool false := by rw [hb]; exact (show _ = vs 6 by kernel_rfl).trans (hp 6 (by decide))
          rw [if_pos (AnyO.wanted_some (g := 6) (t := 30) (want := false) rfl rfl s30)]
          clear hb hp
          go_simp
          go_at_call 50
          refine (bytes_i x u (H1.out.2.2.keep (Below.step (below_drew _) hE)) HT.out).mono ?_
          rintro e w2 ⟨rfl, hb2⟩
          exact hK _ _ hb2 (congrArg (fun j : Nat => Value.int IntKind.i64 (j : Int)) HII.out)
        · -- 19: Op.binOp BinOp.add 3 (Operand.tmp 40) (Operand.tmp 42) 3
          refine AnyO.Step.mk rfl [16, 18, 6] (by kernel_rfl) ?_
          intro vs u hE hp ac hb K hK
          have s40 : ac.tmps[40]?.getD undef = .int .i64 (k : Int) := by rw [hb]; exact (show _ = vs 16 by kernel_rfl).trans (hp 16 (by decide))
          have s42 : ac.tmps[42]?.getD undef = .int .i64 (i : Int) := by rw [hb]; exact (show _ = vs 18 by kernel_rfl).trans (hp 18 (by decide))
          have s30 : ac.tmps[30]?.getD undef = .bool false := by rw [hb]; exact (show _ = vs 6 by kernel_rfl).trans (hp 6 (by decide))
          rw [if_pos (AnyO.wanted_some (g := 6) (t := 30) (want := false) rfl rfl s30)]
          clear hb hp
          have r0 : IntKind.i64.wrap ((k : Int) + (i : Int)) = (k : Int) + (i : Int) := IntWalk.i64_in _ HKI.out
          go_simp
          exact hK _ _ (Below.refl _ _) rfl
        · -- 20: Op.call { callee := Callee.value (Operand.func 49), args := 
          refine AnyO.Step.mk rfl [12, 19, 18, 6] (by kernel_rfl) ?_
          intro vs u hE hp ac hb K hK
          have s36 : ac.tmps[36]?.getD undef = .int .i64 ((n : Int) + 1) := by rw [hb]; exact (show _ = vs 12 by kernel_rfl).trans (hp 12 (by decide))
          have s43 : ac.tmps[43]?.getD undef = .int .i64 ((k : Int) + (i : Int)) := by rw [hb]; exact (show _ = vs 19 by kernel_rfl).trans (hp 19 (by decide))
          have s30 : ac.tmps[30]?.getD undef = .bool false := by rw [hb]; exact (show _ = vs 6 by kernel_rfl).trans (hp 6 (by decide))
          rw [if_pos (AnyO.wanted_some (g := 6) (t := 30) (want := false) rfl rfl s30)]
          clear hb hp
          go_simp
          go_at_call 49
          refine (HY.out u (H1.out.2.2.keep (Below.step (below_drew _) hE))).mono ?_
          rintro e w2 ⟨rfl, hb2⟩
          exact hK _ _ hb2 rfl
        · -- 21: Op.move (Operand.tmp 0)
          refine AnyO.Step.mk rfl [6] (by kernel_rfl) ?_
          intro vs u hE hp ac hb K hK
          have s0 : ac.tmps[0]?.getD undef = .pointer (some ⟨g, 0, none⟩) := by rw [hb]; kernel_rfl
          have s30 : ac.tmps[30]?.getD undef = .bool false := by rw [hb]; exact (show _ = vs 6 by kernel_rfl).trans (hp 6 (by decide))
          rw [if_pos (AnyO.wanted_some (g := 6) (t := 30) (want := false) rfl rfl s30)]
          clear hb hp
          go_simp
          exact hK _ _ (Below.refl _ _) rfl
        · -- 22: Op.nilCheck (Operand.tmp 45)
          refine AnyO.Step.mk rfl [21, 6] (by kernel_rfl) ?_
          intro vs u hE hp ac hb K hK
          have s45 : ac.tmps[45]?.getD undef = .pointer (some ⟨g, 0, none⟩) := by rw [hb]; exact (show _ = vs 21 by kernel_rfl).trans (hp 21 (by decide))
          have s30 : ac.tmps[30]?.getD undef = .bool false := by rw [hb]; exact (show _ = vs 6 by kernel_rfl).trans (hp 6 (by decide))
          rw [if_pos (AnyO.wanted_some (g := 6) (t := 30) (want := false) rfl rfl s30)]
          clear hb hp
          go_simp
          exact hK _ _ (Below.refl _ _) rfl
        · -- 23: Op.fieldAddr 99 (Operand.tmp 46) 0
          refine AnyO.Step.mk rfl [22, 6] (by kernel_rfl) ?_
          intro vs u hE hp ac hb K hK
          have s46 : ac.tmps[46]?.getD undef = .pointer (some ⟨g, 0, none⟩) := by rw [hb]; exact (show _ = vs 22 by kernel_rfl).trans (hp 22 (by decide))
          have s30 : ac.tmps[30]?.getD undef = .bool false := by rw [hb]; exact (show _ = vs 6 by kernel_rfl).trans (hp 6 (by decide))
          rw [if_pos (AnyO.wanted_some (g := 6) (t := 30) (want := false) rfl rfl s30)]
          clear hb hp
          go_simp
          exact hK _ _ (Below.refl _ _) rfl
        · -- 24: Op.load 3 (Operand.tmp 47)
          refine AnyO.Step.mk rfl [23, 6] (by kernel_rfl) ?_
          intro vs u hE hp ac hb K hK
          have s47 : ac.tmps[47]?.getD undef = .pointer (some ⟨g, 0, none⟩) := by rw [hb]; exact (show _ = vs 23 by kernel_rfl).trans (hp 23 (by decide))
          have s30 : ac.tmps[30]?.getD undef = .bool false := by rw [hb]; exact (show _ = vs 6 by kernel_rfl).trans (hp 6 (by decide))
          rw [if_pos (AnyO.wanted_some (g := 6) (t := 30) (want := false) rfl rfl s30)]
          clear hb hp
          have r0 := (H1.out.2.1.row.keep (Below.step (below_drew _) hE)).cell 0
          go_simp
          exact hK _ _ (Below.refl _ _) rfl
        · -- 25: Op.binOp BinOp.gtr 3 (Operand.tmp 44) (Operand.tmp 48) 3
          refine AnyO.Step.mk rfl [20, 24, 6] (by kernel_rfl) ?_
          intro vs u hE hp ac hb K hK
          have s44 : ac.tmps[44]?.getD undef = .int .i64 (y : Int) := by rw [hb]; exact (show _ = vs 20 by kernel_rfl).trans (hp 20 (by decide))
          have s48 : ac.tmps[48]?.getD undef = .int .i64 most := by rw [hb]; exact (show _ = vs 24 by kernel_rfl).trans (hp 24 (by decide))
          have s30 : ac.tmps[30]?.getD undef = .bool false := by rw [hb]; exact (show _ = vs 6 by kernel_rfl).trans (hp 6 (by decide))
          rw [if_pos (AnyO.wanted_some (g := 6) (t := 30) (want := false) rfl rfl s30)]
          clear hb hp
          have r0 := hr2
          go_simp
          exact hK _ _ (Below.refl _ _) rfl
        · -- 26: Op.pick (Operand.tmp 30) (Operand.const (Value.bool true)) (
          refine AnyO.Step.mk rfl [6, 25] (by kernel_rfl) ?_
          intro vs u hE hp ac hb K hK
          have s30 : ac.tmps[30]?.getD undef = .bool false := by rw [hb]; exact (show _ = vs 6 by kernel_rfl).trans (hp 6 (by decide))
          have s49 : ac.tmps[49]?.getD undef = .bool q := by rw [hb]; exact (show _ = vs 25 by kernel_rfl).trans (hp 25 (by decide))
          rw [if_pos (AnyO.wanted_none rfl)]
          clear hb hp
          go_simp
          exact hK _ _ (Below.refl _ _) rfl
      · intro vs u hE hp
        have e0 : vs 0 = .pointer (some ⟨g, 0, none⟩) := hp 0 (by decide)
        have e1 : vs 1 = .pointer (some ⟨g, 0, none⟩) := hp 1 (by decide)
        have e2 : vs 2 = .pointer (some ⟨g, 2, none⟩) := hp 2 (by decide)
        have e3 : vs 3 = .slice A n c := hp 3 (by decide)
        have e4 : vs 4 = .int .i64 (n : Int) := hp 4 (by decide)
        have e5 : vs 5 = .bool false := hp 5 (by decide)
        have e6 : vs 6 = .bool false := hp 6 (by decide)
        have e7 : vs 7 = .pointer (some ⟨g, 0, none⟩) := hp 7 (by decide)
        have e8 : vs 8 = .pointer (some ⟨g, 0, none⟩) := hp 8 (by decide)
        have e9 : vs 9 = .pointer (some ⟨g, 2, none⟩) := hp 9 (by decide)
        have e10 : vs 10 = .slice A n c := hp 10 (by decide)
        have e11 : vs 11 = .int .i64 (n : Int) := hp 11 (by decide)
        have e12 : vs 12 = .int .i64 ((n : Int) + 1) := hp 12 (by decide)
        have e13 : vs 13 = .pointer (some ⟨g, 0, none⟩) := hp 13 (by decide)
        have e14 : vs 14 = .pointer (some ⟨g, 0, none⟩) := hp 14 (by decide)
        have e15 : vs 15 = .pointer (some ⟨g, 1, none⟩) := hp 15 (by decide)
        have e16 : vs 16 = .int .i64 (k : Int) := hp 16 (by decide)
        have e17 : vs 17 = vX x := hp 17 (by decide)
        have e18 : vs 18 = .int .i64 (i : Int) := hp 18 (by decide)
        have e19 : vs 19 = .int .i64 ((k : Int) + (i : Int)) := hp 19 (by decide)
        have e20 : vs 20 = .int .i64 (y : Int) := hp 20 (by decide)
        have e21 : vs 21 = .pointer (some ⟨g, 0, none⟩) := hp 21 (by decide)
        have e22 : vs 22 = .pointer (some ⟨g, 0, none⟩) := hp 22 (by decide)
        have e23 : vs 23 = .pointer (some ⟨g, 0, none⟩) := hp 23 (by decide)
        have e24 : vs 24 = .int .i64 most := hp 24 (by decide)
        have e25 : vs 25 = .bool q := hp 25 (by decide)
        have e26 : vs 26 = .bool q := hp 26 (by decide)
        clear hp
        have H2 := Lib.hid (show Row u b (cX x) 64 ∧ BdI B g most l (.slice A n c) u ∧ Laid u from ⟨H1.out.1.keep hE, H1.out.2.1.keep hE, H1.out.2.2.keep hE⟩)
        have HE2 := Lib.hid (show Below w.heap.size w u from Below.step HE.out hE)
        obtain ⟨w2, hw2⟩ : ∃ w2, w2 = u := ⟨_, rfl⟩
        subst hw2
        clear hE
        rw [puts_range [some 24, some 25, some 26, some 27, some 28, some 29, some 30, some 31, some 32, some 33, some 34, some 35, some 36, some 37, some 38, some 39, some 40, some 41, some 42, some 43, some 44, some 45, some 46, some 47, some 48, some 49, some 50] (by kernel_rfl)]
        simp only [putL, Nat.reduceAdd, List.drop_succ_cons, List.drop_zero, e0, e1, e2, e3, e4, e5, e6, e7, e8, e9, e10, e11, e12, e13, e14, e15, e16, e17, e18, e19, e20, e21, e22, e23, e24, e25, e26]
        clear e0 e1 e2 e3 e4 e5 e6 e7 e8 e9 e10 e11 e12 e13 e14 e15 e16 e17 e18 e19 e20 e21 e22 e23 e24 e25 e26
        go_simp
        clear hr2
        rcases q with _ | _
        case true =>
          have HA2 := Lib.hid (show addE most l x = (9, l) by rw [HA.out, if_neg (of_decide_eq_false HR.out), if_pos (of_decide_eq_true HQ.out)])
          go_wp2
          go_ret
          rw [HA2.out]
          exact ⟨rfl, HD.out.keep HE2.out, HD.out.kept HE2.out⟩
        case false =>
          have HA2 := Lib.hid (show addE most l x = (0, l ++ [x]) by rw [HA.out, if_neg (of_decide_eq_false HR.out), if_neg (of_decide_eq_false HQ.out)])
          go_wp2
          refine AnyO.wp_any_tailI 8 (by kernel_rfl) (by kernel_rfl) (by kernel_rfl) (by kernel_rfl) (by kernel_rfl) (by kernel_rfl) (AnyO.InvA 7 6 (AnyO.pvL [some (.pointer (some ⟨g, 0, none⟩)), some (.pointer (some ⟨g, 0, none⟩)), some (.pointer (some ⟨g, 0, none⟩)), some (.pointer (some ⟨g, 2, none⟩)), some (.slice A n c), some (vX x), none, none]) (w2) (newX w2 [x]) (ApX B (.slice A n c) w2 (l ++ [x]))) (AnyO.InvA.start (by decide)) ?_ ?_
          · intro i hi
            have hi2 : i = 0 ∨ i = 1 ∨ i = 2 ∨ i = 3 ∨ i = 4 ∨ i = 5 ∨ i = 6 ∨ i = 7 := by omega
            clear hi
            rcases hi2 with rfl | rfl | rfl | rfl | rfl | rfl | rfl | rfl
            · -- 0: Op.move (Operand.tmp 0)
              refine AnyO.StepI.mk rfl [] (by kernel_rfl) ?_
              intro D vs u hI h0 hC hp ac hb K hK
              have s0 : ac.tmps[0]?.getD undef = .pointer (some ⟨g, 0, none⟩) := by rw [hb]; kernel_rfl
              rw [if_pos (AnyO.wanted_none rfl)]
              clear hb
              go_simp
              exact hK _ _ (AnyO.InvA.pure hI (by decide) (by decide) rfl)
            · -- 1: Op.move (Operand.tmp 0)
              refine AnyO.StepI.mk rfl [] (by kernel_rfl) ?_
              intro D vs u hI h0 hC hp ac hb K hK
              have s0 : ac.tmps[0]?.getD undef = .pointer (some ⟨g, 0, none⟩) := by rw [hb]; kernel_rfl
              rw [if_pos (AnyO.wanted_none rfl)]
              clear hb
              go_simp
              exact hK _ _ (AnyO.InvA.pure hI (by decide) (by decide) rfl)
            · -- 2: Op.nilCheck (Operand.tmp 52)
              refine AnyO.StepI.mk rfl [1] (by kernel_rfl) ?_
              intro D vs u hI h0 hC hp ac hb K hK
              have s52 : ac.tmps[52]?.getD undef = .pointer (some ⟨g, 0, none⟩) := by rw [hb]; exact (show _ = vs 1 by kernel_rfl).trans (show vs 1 = .pointer (some ⟨g, 0, none⟩) from hI.1 1 (hp 1 (by decide)))
              rw [if_pos (AnyO.wanted_none rfl)]
              clear hb
              go_simp
              exact hK _ _ (AnyO.InvA.pure hI (by decide) (by decide) rfl)
            · -- 3: Op.fieldAddr 99 (Operand.tmp 53) 2
              refine AnyO.StepI.mk rfl [2] (by kernel_rfl) ?_
              intro D vs u hI h0 hC hp ac hb K hK
              have s53 : ac.tmps[53]?.getD undef = .pointer (some ⟨g, 0, none⟩) := by rw [hb]; exact (show _ = vs 2 by kernel_rfl).trans (show vs 2 = .pointer (some ⟨g, 0, none⟩) from hI.1 2 (hp 2 (by decide)))
              rw [if_pos (AnyO.wanted_none rfl)]
              clear hb
              go_simp
              exact hK _ _ (AnyO.InvA.pure hI (by decide) (by decide) rfl)
            · -- 4: Op.load 22 (Operand.tmp 54)
              refine AnyO.StepI.mk rfl [3] (by kernel_rfl) ?_
              intro D vs u hI h0 hC hp ac hb K hK
              have s54 : ac.tmps[54]?.getD undef = .pointer (some ⟨g, 2, none⟩) := by rw [hb]; exact (show _ = vs 3 by kernel_rfl).trans (show vs 3 = .pointer (some ⟨g, 2, none⟩) from hI.1 3 (hp 3 (by decide)))
              rw [if_pos (AnyO.wanted_none rfl)]
              have hnm : D 7 = false := by
                rcases hd : D 7 with _ | _
                · rfl
                · have q4 := hC 7 hd 4 (by rw [show AnyO.pre _ 7 = [4, 6] from by kernel_rfl]; decide)
                  rw [h0] at q4
                  cases q4
              have hB := (hI.2.1 hnm).1
              clear hb
              have r0 := (H2.out.2.1.row.keep hB).cell 2
              go_simp
              exact hK _ _ (AnyO.InvA.pure hI (by decide) (by decide) rfl)
            · -- 5: Op.load 64 (Operand.tmp 3)
              refine AnyO.StepI.mk rfl [] (by kernel_rfl) ?_
              intro D vs u hI h0 hC hp ac hb K hK
              have s3 : ac.tmps[3]?.getD undef = .pointer (some ⟨b, 0, none⟩) := by rw [hb]; kernel_rfl
              rw [if_pos (AnyO.wanted_none rfl)]
              have hnm : D 7 = false := by
                rcases hd : D 7 with _ | _
                · rfl
                · have q6 := hC 7 hd 6 (by rw [show AnyO.pre _ 7 = [4, 6] from by kernel_rfl]; decide)
                  have q5 := hC 6 q6 5 (by rw [show AnyO.pre _ 6 = [5] from by kernel_rfl]; decide)
                  rw [h0] at q5
                  cases q5
              have hB := (hI.2.1 hnm).1
              clear hb
              obtain ⟨⟨x0, x1, -⟩, -, x2⟩ := rowX (H2.out.1.keep hB)
              go_simp
              exact hK _ _ (AnyO.InvA.pure hI (by decide) (by decide) rfl)
            · -- 6: Op.buildSlice 22 1 #[(0, Operand.tmp 56)]
              refine AnyO.StepI.mk rfl [5] (by kernel_rfl) ?_
              intro D vs u hI h0 hC hp ac hb K hK
              have s56 : ac.tmps[56]?.getD undef = vX x := by rw [hb]; exact (show _ = vs 5 by kernel_rfl).trans (show vs 5 = vX x from hI.1 5 (hp 5 (by decide)))
              rw [if_pos (AnyO.wanted_none rfl)]
              have hnm : D 7 = false := by
                rcases hd : D 7 with _ | _
                · rfl
                · have q6 := hC 7 hd 6 (by rw [show AnyO.pre _ 7 = [4, 6] from by kernel_rfl]; decide)
                  rw [h0] at q6
                  cases q6
              have hB := (hI.2.1 hnm).1
              clear hb
              go_simp
              exact hK _ _ (AnyO.InvA.slice hI (by decide) hnm (below_alloc _ _) trivial (newX.mk u hB.size))
            · -- 7: Op.call { callee := Callee.builtin Builtin.append, args := #
              refine AnyO.StepI.mk rfl [4, 6] (by kernel_rfl) ?_
              intro D vs u hI h0 hC hp ac hb K hK
              have s55 : ac.tmps[55]?.getD undef = .slice A n c := by rw [hb]; exact (show _ = vs 4 by kernel_rfl).trans (show vs 4 = .slice A n c from hI.1 4 (hp 4 (by decide)))
              have s57 : ac.tmps[57]?.getD undef = vs 6 := by rw [hb]; kernel_rfl
              rw [if_pos (AnyO.wanted_none rfl)]
              have hnm : D 7 = false := h0
              have hB := (hI.2.1 hnm).1
              clear hb
              obtain ⟨g2, hg, hge, hrow⟩ := (hI.2.1 hnm).2 (hp 6 (by decide))
              rw [hg] at s57
              refine wp_append_at _ (.tmp 55) (.tmp 57) 22 rfl B 64 33 48 cX underXs rowXX (by decide) cX_length cX_one (.slice A n c) l (by simpa [Act.eval] using s55) ((H2.out.2.1.own).keep hB) ⟨g2, 0, none⟩ 1 1 [x] rfl (by simpa [Act.eval] using s57) (hrow.at_ (k := 0) (n := 33) (by rw [List.drop_zero, List.take_of_length_le]; simp [cX_length])) (by have := HNN.out; have := HN1.out; omega) (by have := HNN.out; have := HN1.out; omega) (Nat.le_trans HF.out.2.2.2 (Nat.le_trans HE2.out.size hB.size)) ?_
              intro v2 u2 ho hgr hbk
              exact hK _ _ (AnyO.InvA.app hI trivial (ApX.mk hB ho hgr hbk))
          · intro D vs u hI hD
            have e0 : vs 0 = .pointer (some ⟨g, 0, none⟩) := hI.1 0 (hD 0 (by decide))
            have e1 : vs 1 = .pointer (some ⟨g, 0, none⟩) := hI.1 1 (hD 1 (by decide))
            have e2 : vs 2 = .pointer (some ⟨g, 0, none⟩) := hI.1 2 (hD 2 (by decide))
            have e3 : vs 3 = .pointer (some ⟨g, 2, none⟩) := hI.1 3 (hD 3 (by decide))
            have e4 : vs 4 = .slice A n c := hI.1 4 (hD 4 (by decide))
            have e5 : vs 5 = vX x := hI.1 5 (hD 5 (by decide))
            have hA := hI.2.2 (hD 7 (by decide))
            clear hI hD
            rw [puts_range [some 51, some 52, some 53, some 54, some 55, some 56, some 57, some 58] (by kernel_rfl)]
            simp only [putL, Nat.reduceAdd, List.drop_succ_cons, List.drop_zero, e0, e1, e2, e3, e4, e5]
            clear e0 e1 e2 e3 e4 e5
            generalize vs 7 = vm at hA ⊢
            generalize vs 6 = vl
            have hvm : ∃ A2 n2 c2, vm = .slice A2 n2 c2 := by obtain ⟨A2, c2, e, _⟩ := hA.1.sl; exact ⟨A2, _, c2, e⟩
            obtain ⟨A2, n2, c2, rfl⟩ := hvm
            have hBw : B ≤ w2.heap.size := Nat.le_trans HF.out.2.2.2 HE2.out.size
            have hap := H2.out.2.1.app hBw hA
            have hcell := hap.1.cell 2
            have hfz := hap.1.fz 2
            obtain ⟨u3, hu3⟩ : ∃ u3, u.setCell ⟨g, 2, none⟩ (.slice A2 n2 c2) = u3 := ⟨_, rfl⟩
            rw [hu3] at hap
            have hbx : Row u3 b (cX x) 64 := by
              have hg := HF.out.1.row.lt
              have hbl : w2.heap[b]? = _ := H2.out.1
              have hbw := HBB.out
              have h1 := hap.2.2.2.2.1.out b H2.out.1.lt (by omega) (fun e => by
                have h2 := (HF.out.1.own.lt b (by rw [HNN.out]; exact e.symm)).2
                omega)
              exact H2.out.1.same h1
            have hL3 : Laid u3 := by
              obtain ⟨wB, a1, a2, a3⟩ := HF.out.1.laid
              subst a2
              have e := HE2.out
              have f := hap.2.2.2.2.2
              exact a1.keep ⟨f.os.trans (e.os.trans a3.os), f.tape.trans (e.tape.trans a3.tape), f.output.trans (e.output.trans a3.output), Nat.le_trans a3.size (Nat.le_trans e.size f.size), fun j hj => (f.block j hj).trans ((e.block j (Nat.lt_of_lt_of_le hj HF.out.2.2.2)).trans (a3.block j hj))⟩
            have H3 := Lib.hid (show Row u3 g [.int .i64 most, .int .i64 (sumN l : Int), .slice A2 n2 c2] 99 ∧ Row u3 b (cX x) 64 ∧ Laid u3 ∧ True from ⟨hap.2.1, hbx, hL3, trivial⟩)
            have H5 := Lib.hid (And.intro (And.intro hBw hap.2.2) trivial)
            clear hA hap hbx hL3 hBw
            go_simp
            go_wp2
            clear hu3 hcell hfz
            refine AnyO.wp_any_tail 7 (by kernel_rfl) (by kernel_rfl) (by kernel_rfl) (by kernel_rfl) (by kernel_rfl) (by kernel_rfl) (pstP [isV (.pointer (some ⟨g, 0, none⟩)), isV (.pointer (some ⟨g, 0, none⟩)), isV (.pointer (some ⟨g, 1, none⟩)), isV (.int .i64 (k : Int)), isV (vX x), isV (.int .i64 (i : Int)), isV (.int .i64 ((k : Int) + (i : Int)))]) (MonoL.cons (Mono.v _) (MonoL.cons (Mono.v _) (MonoL.cons (Mono.v _) (MonoL.cons (Mono.v _) (MonoL.cons (Mono.v _) (MonoL.cons (Mono.v _) (MonoL.cons (Mono.v _) MonoL.nil))))))) ?_ ?_
            · intro i hi
              have hi2 : i = 0 ∨ i = 1 ∨ i = 2 ∨ i = 3 ∨ i = 4 ∨ i = 5 ∨ i = 6 := by omega
              clear hi
              rcases hi2 with rfl | rfl | rfl | rfl | rfl | rfl | rfl
              · -- 0: Op.move (Operand.tmp 0)
                refine AnyO.Step.mk rfl [] (by kernel_rfl) ?_
                intro vs u hE hp ac hb K hK
                have s0 : ac.tmps[0]?.getD undef = .pointer (some ⟨g, 0, none⟩) := by rw [hb]; kernel_rfl
                rw [if_pos (AnyO.wanted_none rfl)]
                clear hb hp
                go_simp
                exact hK _ _ (Below.refl _ _) rfl
              · -- 1: Op.nilCheck (Operand.tmp 61)
                refine AnyO.Step.mk rfl [0] (by kernel_rfl) ?_
                intro vs u hE hp ac hb K hK
                have s61 : ac.tmps[61]?.getD undef = .pointer (some ⟨g, 0, none⟩) := by rw [hb]; exact (show _ = vs 0 by kernel_rfl).trans (hp 0 (by decide))
                rw [if_pos (AnyO.wanted_none rfl)]
                clear hb hp
                go_simp
                exact hK _ _ (Below.refl _ _) rfl
              · -- 2: Op.fieldAddr 99 (Operand.tmp 62) 1
                refine AnyO.Step.mk rfl [1] (by kernel_rfl) ?_
                intro vs u hE hp ac hb K hK
                have s62 : ac.tmps[62]?.getD undef = .pointer (some ⟨g, 0, none⟩) := by rw [hb]; exact (show _ = vs 1 by kernel_rfl).trans (hp 1 (by decide))
                rw [if_pos (AnyO.wanted_none rfl)]
                clear hb hp
                go_simp
                exact hK _ _ (Below.refl _ _) rfl
              · -- 3: Op.load 3 (Operand.tmp 63)
                refine AnyO.Step.mk rfl [2] (by kernel_rfl) ?_
                intro vs u hE hp ac hb K hK
                have s63 : ac.tmps[63]?.getD undef = .pointer (some ⟨g, 1, none⟩) := by rw [hb]; exact (show _ = vs 2 by kernel_rfl).trans (hp 2 (by decide))
                rw [if_pos (AnyO.wanted_none rfl)]
                clear hb hp
                have r0 := (H3.out.1.keep (Below.step (below_drew _) hE)).cell 1
                rw [HKK.out] at r0
                go_simp
                exact hK _ _ (Below.refl _ _) rfl
              · -- 4: Op.load 64 (Operand.tmp 3)
                refine AnyO.Step.mk rfl [] (by kernel_rfl) ?_
                intro vs u hE hp ac hb K hK
                have s3 : ac.tmps[3]?.getD undef = .pointer (some ⟨b, 0, none⟩) := by rw [hb]; kernel_rfl
                rw [if_pos (AnyO.wanted_none rfl)]
                clear hb hp
                obtain ⟨⟨x0, x1, -⟩, -, x2⟩ := rowX (H3.out.2.1.keep (Below.step (below_drew _) hE))
                go_simp
                exact hK _ _ (Below.refl _ _) rfl
              · -- 5: Op.call { callee := Callee.value (Operand.func 50), args := 
                refine AnyO.Step.mk rfl [4] (by kernel_rfl) ?_
                intro vs u hE hp ac hb K hK
                have s65 : ac.tmps[65]?.getD undef = vX x := by rw [hb]; exact (show _ = vs 4 by kernel_rfl).trans (hp 4 (by decide))
                rw [if_pos (AnyO.wanted_none rfl)]
                clear hb hp
                go_simp
                go_at_call 50
                refine (bytes_i x u (H3.out.2.2.1.keep (Below.step (below_drew _) hE)) HT.out).mono ?_
                rintro e w2 ⟨rfl, hb2⟩
                exact hK _ _ hb2 (congrArg (fun j : Nat => Value.int IntKind.i64 (j : Int)) HII.out)
              · -- 6: Op.binOp BinOp.add 3 (Operand.tmp 64) (Operand.tmp 66) 3
                refine AnyO.Step.mk rfl [3, 5] (by kernel_rfl) ?_
                intro vs u hE hp ac hb K hK
                have s64 : ac.tmps[64]?.getD undef = .int .i64 (k : Int) := by rw [hb]; exact (show _ = vs 3 by kernel_rfl).trans (hp 3 (by decide))
                have s66 : ac.tmps[66]?.getD undef = .int .i64 (i : Int) := by rw [hb]; exact (show _ = vs 5 by kernel_rfl).trans (hp 5 (by decide))
                rw [if_pos (AnyO.wanted_none rfl)]
                clear hb hp
                have r0 : IntKind.i64.wrap ((k : Int) + (i : Int)) = (k : Int) + (i : Int) := IntWalk.i64_in _ HKI.out
                go_simp
                exact hK _ _ (Below.refl _ _) rfl
            · intro vs u hE hp
              have e0 : vs 0 = .pointer (some ⟨g, 0, none⟩) := hp 0 (by decide)
              have e1 : vs 1 = .pointer (some ⟨g, 0, none⟩) := hp 1 (by decide)
              have e2 : vs 2 = .pointer (some ⟨g, 1, none⟩) := hp 2 (by decide)
              have e3 : vs 3 = .int .i64 (k : Int) := hp 3 (by decide)
              have e4 : vs 4 = vX x := hp 4 (by decide)
              have e5 : vs 5 = .int .i64 (i : Int) := hp 5 (by decide)
              have e6 : vs 6 = .int .i64 ((k : Int) + (i : Int)) := hp 6 (by decide)
              clear hp
              have H4 := Lib.hid (show Below u3.heap.size u3 u from hE)
              have q0 := (H3.out.1.keep hE).cell 1
              have q1 := (H3.out.1.keep hE).fz 1
              clear hE
              rw [puts_range [some 61, some 62, some 63, some 64, some 65, some 66, some 67] (by kernel_rfl)]
              simp only [putL, Nat.reduceAdd, List.drop_succ_cons, List.drop_zero, e0, e1, e2, e3, e4, e5, e6]
              clear e0 e1 e2 e3 e4 e5 e6
              go_simp
              go_wp2
              go_ret
              have HS := H5.out.1
              have hsum : ((k : Int) + (i : Int)) = (sumN (l ++ [x]) : Int) := by
                rw [show sumN (l ++ [x]) = sumN l + itN x by simp [sumN], HKK.out, HII.out]
                omega
              have hfin := BdI.done H2.out.2.1 HS.1 H3.out.1 HS.2.1 HS.2.2.1 HS.2.2.2.1 HS.2.2.2.2 H4.out (HAX.out (by have := of_decide_eq_false HQ.out; omega))
              rw [HA2.out, hsum]
              have hT : TurnB g (.slice A l.length c) (.slice A2 n2 c2) w (u.setCell ⟨g, 1, none⟩ (.int .i64 (sumN (l ++ [x]) : Int))) := by
                have t := hfin.2
                have e := HE2.out
                refine ⟨t.os.trans e.os, t.tape.trans e.tape, t.output.trans e.output, Nat.le_trans e.size t.size, fun j hj hg hv => (t.out j (Nat.lt_of_lt_of_le hj e.size) hg (by rw [HNN.out] at hv; exact hv)).trans (e.block j hj), fun j hj => ?_⟩
                rcases t.at_ j hj with h | h
                · left
                  rw [HNN.out]
                  exact h
                · right
                  exact Nat.le_trans e.size h
              exact ⟨rfl, HF.out.1.turn HF.out.2.1 HF.out.2.2.1 HF.out.2.2.2 hfin.1 hT⟩
end Go.Proofs.YtecalodcbkljoaaGreatDoor
