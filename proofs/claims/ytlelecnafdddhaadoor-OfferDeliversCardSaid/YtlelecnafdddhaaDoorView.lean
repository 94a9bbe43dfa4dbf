/- Current, Waiting; views. -/
import Derived.Test.YtlelecnafdddhaaDoorRefG
namespace Go.Proofs.YtlelecnafdddhaaDoor
open Go.RowKit
theorem row40 : (Tryd.prog.info? 40).map (fun i => (i.zero.map (·.cells.size), i.size, i.bytes)) = some (some 32, 32, 32) := by kernel_rfl
def aIs (xs : List Id) : Array Value := (xs.flatMap cI).toArray
theorem vI_cells (x : Id) : (vI x).cells.size = 32 := by simp [vI, Value.cells, cI_length]
section
variable (w : World)
@[go_sem ↓] theorem bs64 (n : Nat) (parts : Array (Nat × Value)) : Instr.buildSlice 64 n parts = bsA 64 n parts := rfl
theorem run_bs64 (xs : List Id) (h : xs.length ≤ 100) : (bsA 64 xs.length (xs.zipIdx.map fun x => (x.2, vI x.1)).toArray).run Tryd.prog w = .ok (.slice (some ⟨w.heap.size, 0, none⟩) xs.length xs.length) (w.alloc (.cells (aIs xs) 40)) := by
  obtain ⟨i, z, h1, h2, h3⟩ := info_of row40
  exact run_bsA w vI 64 40 i z 32 Tryd.underlying64 h1 h2 h3 vI_cells xs (by omega)
@[go_sem] theorem run_bs64_1 (x : Id) : (bsA 64 1 #[(0, vI x)]).run Tryd.prog w = .ok (.slice (some ⟨w.heap.size, 0, none⟩) 1 1) (w.alloc (.cells (aIs [x]) 40)) := run_bs64 w [x] (by simp)
end

set_option maxRecDepth 100000 in
set_option maxHeartbeats 1600000 in
theorem current21 (b : Nat) (ch : Int) (s : St) (F : List Nat) (w : World) (h : Rep b ch s F w) (hi : s.state = 0 → s.cur.1 = zI) :
    Calls Tryd.prog 21 #[.pointer (some ⟨b, 0, none⟩)] w fun e w' => e = .returned (.tuple #[vI s.cur.1, .bool (!decide (s.state = 0))]) ∧ Below w.heap.size w w' := by
  obtain ⟨vw, vo, q, h⟩ := h
  have r2 := h.c2
  obtain ⟨r3, r3'⟩ := h.id
  have hlt := h.row.lt
  obtain ⟨st, hst⟩ : ∃ st, s.state = st := ⟨_, rfl⟩
  obtain ⟨x, hx⟩ : ∃ x, s.cur.1 = x := ⟨_, rfl⟩
  rw [hst] at r2 hi ⊢
  rw [hx] at r3' hi ⊢
  clear h hst hx
  by_cases h0 : st = 0
  · have hx0 := hi h0
    subst h0 hx0
    clear hi
    go_enter Tryd.func21, Tryd.ntmps21
    go_wp2
    exact bodyPost_ret (v := .tuple #[vI zI, .bool false]) (results_c2 (ad := ⟨w.heap.size, 0, none⟩) rfl rfl (load_I (Row.new w (cI zI) 40)) rfl) rfl ⟨rfl, below_alloc _ _⟩
  · have g0 : (st == 0) = false := by simpa using h0
    rw [decide_eq_false h0]
    clear hi h0
    go_enter Tryd.func21, Tryd.ntmps21
    go_wp2
    exact bodyPost_ret (v := .tuple #[vI x, .bool true]) (results_c2 (ad := ⟨w.heap.size, 0, none⟩) rfl rfl (load_I (Row.new w (cI x) 40)) rfl) rfl ⟨rfl, below_alloc _ _⟩
set_option maxRecDepth 100000 in
set_option maxHeartbeats 1600000 in
theorem waiting26 (b : Nat) (ch : Int) (s : St) (F : List Nat) (w : World) (h : Rep b ch s F w) (hm : s.wait.length ≤ 100000) :
    Calls Tryd.prog 26 #[.pointer (some ⟨b, 0, none⟩)] w fun e w' => ∃ A n c, e = .returned (.slice A n c) ∧ s.wait.length = n ∧ Sl w' cI A (s.wait.map (·.1)) ∧ Below w.heap.size w w' := by
  obtain ⟨vw, vo, q, h⟩ := h
  have r1 := h.c1
  have hlt := h.row.lt
  obtain ⟨A, c, hvw, hc, hsl⟩ := h.ow.sl
  subst hvw
  generalize s.wait = xs at *
  obtain ⟨n, hn⟩ : ∃ n, xs.length = n := ⟨_, rfl⟩
  rw [hn] at r1 hm
  have HX := Lib.hid (And.intro hsl (And.intro hn hm))
  clear h hsl hc hn hm
  go_enter Tryd.func26, Tryd.ntmps26
  go_wp2
  go_loopw [3, 13] (fun v i wr => ∃ k : Nat, k ≤ n ∧ i = .int .i64 k ∧ Own wr w.heap.size 40 32 cI v ((xs.take k).map (·.1)) ∧ Below w.heap.size w wr) (fun _ i _ => n - (intOf i).toNat)
  case atStart => exact ⟨0, Nat.zero_le _, rfl, by simpa using Own.nil _ _ _ _ _, Below.refl _ _⟩
  case round =>
    obtain ⟨k, hk, rfl, ho, hb⟩ := hrel
    by_cases hlt2 : k < n
    · have hlk : (k : Int) < (n : Int) := by omega
      have hkb : k ≤ 100000 := by have := HX.out.2.2; omega
      obtain ⟨ad, rfl, hok, hrd⟩ := Sl.art (HX.out.1.keep hb) (show k < xs.length by rw [HX.out.2.1]; exact hlt2)
      have HT := Lib.hid (show (xs.take (k + 1)).map (·.1) = (xs.take k).map (·.1) ++ [(xs[k]'(by rw [HX.out.2.1]; exact hlt2)).1] by rw [List.take_succ_eq_append_getElem (by rw [HX.out.2.1]; exact hlt2), List.map_append]; rfl)
      generalize (xs[k]'(by rw [HX.out.2.1]; exact hlt2)) = a at hok hrd HT
      obtain ⟨x, t⟩ := a
      have HO := Lib.hid (And.intro ho hb)
      clear ho hb
      go_wp2_with (at_builtin; refine wpList_append_sl _ rfl (.tmp 17) (.tmp 20) 64 rfl w.heap.size 40 32 32 cI Tryd.underlying64 row40 (by decide) cI_length cI_one u3 ((xs.take k).map (·.1)) rfl (HO.out.1.keep (Below.step (below_alloc wr (.cells (aA (x, t)) 86)) (below_alloc _ (.cells (aIs [x]) 40)))) (some ⟨wr.heap.size + 1, 0, none⟩) 1 1 [x] rfl rfl (fun _ => ⟨_, rfl, at_new (wr.alloc (.cells (aA (x, t)) 86)) ([x].flatMap cI) 40 _ (by simp)⟩) (by have := HX.out.2; simp; omega) (by have := HX.out.2; simp; omega) (Nat.le_trans HO.out.2.size (Below.step (below_alloc wr (.cells (aA (x, t)) 86)) (below_alloc _ (.cells (aIs [x]) 40))).size) ?_)
      intro v2 w2 ho2 hg
      have hB1 := Below.step (below_alloc wr (.cells (aA (x, t)) 86)) (below_alloc _ (.cells (aIs [x]) 40))
      have hW := Below.step HO.out.2 hB1
      have hb2 := Own.grew (HO.out.1.keep hB1) hg hW (Nat.le_refl _) hW.size
      have ho3 : Own w2 w.heap.size 40 32 cI v2 ((xs.take (k + 1)).map (·.1)) := by rw [HT.out]; simpa [List.map_take] using ho2
      clear ho2 hg hB1 hW
      go_wp2
      go_roundw
      case rel => exact ⟨k + 1, hlt2, by go_num, ho3, hb2⟩
      case measure => simp [intOf] <;> omega
    · have hkn : k = n := by omega
      subst hkn
      have hall : xs.take k = xs := List.take_of_length_le (by rw [HX.out.2.1]; exact Nat.le_refl _)
      rw [hall] at ho
      obtain ⟨A2, c2, rfl, _, hs2⟩ := ho.sl
      have HO := Lib.hid (And.intro hs2 hb)
      obtain ⟨m, hm⟩ : ∃ m, (xs.map (·.1)).length = m := ⟨_, rfl⟩
      rw [hm]
      have hmk : xs.length = m := by rw [← hm, List.length_map]
      clear ho hb hs2 hall hm
      go_wp2
      go_ret
      exact ⟨A2, m, c2, rfl, hmk, HO.out.1, HO.out.2⟩
end Go.Proofs.YtlelecnafdddhaaDoor
