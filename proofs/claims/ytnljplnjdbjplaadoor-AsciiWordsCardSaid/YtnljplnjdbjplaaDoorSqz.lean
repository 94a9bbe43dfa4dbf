/- ascii.Squeeze; the reference's Same. -/
import Derived.Test.YtnljplnjdbjplaaDoorWrd
import Derived.BigQuiet
namespace Go.Proofs.YtnljplnjdbjplaaDoor
open Go.RowKit
theorem own_str {w : World} {base : Nat} {e : TypeId} {v : Value} {xs : List ByteArray} (h : Own w base e 1 cS v xs) :
    (v = .slice none 0 0 ∧ xs = []) ∨ ∃ g c, v = .slice (some ⟨g, 0, none⟩) xs.length c ∧ xs.length ≤ c ∧ g < w.heap.size ∧ ∀ (j : Nat) x, xs[j]? = some x → w.cell? ⟨g, 0 + j, none⟩ = some (.string x) := by
  have hsl := h.sl
  rcases h.2 with ⟨rfl, hn⟩ | ⟨g, cap, cur, rfl, hb, hg, hnc, _⟩
  · exact .inl ⟨rfl, List.eq_nil_of_length_eq_zero hn⟩
  · refine .inr ⟨g, cap, rfl, hnc, (Array.getElem?_eq_some_iff.1 hg).1, fun j x hx => ?_⟩
    obtain ⟨hj, rfl⟩ := List.getElem?_eq_some_iff.1 hx
    obtain ⟨A, c, e, _, hs⟩ := hsl
    obtain ⟨ad, rfl, hat⟩ := Sl.at_ cS_length hs hj
    obtain rfl : (⟨g, 0, none⟩ : Addr) = ad := by injection e with e; injection e
    have h2 := hat.2 0 _ rfl
    rw [Nat.mul_one, add_of_add, Nat.add_zero] at h2
    rwa [show (⟨g, 0, none⟩ : Addr).add j = ⟨g, 0 + j, none⟩ from by unfold Addr.add; split <;> simp_all] at h2
theorem words21_none (s : ByteArray) (w : World) (hs : s.size ≤ 1000000) (h : words s = []) :
    Calls Tryd.prog 21 #[.string s] w fun e w' => ∃ A c, e = .returned (.slice A 0 c) ∧ Below w.heap.size w w' := by
  refine (words21 s w hs).mono ?_
  rintro e w' ⟨v, rfl, ho, hb⟩
  obtain ⟨A, c, rfl, _, _⟩ := ho.sl
  rw [h]
  exact ⟨A, c, rfl, hb⟩
theorem words21_some (s : ByteArray) (w : World) (hs : s.size ≤ 1000000) (h : words s ≠ []) :
    Calls Tryd.prog 21 #[.string s] w fun e w' => ∃ g c, e = .returned (.slice (some ⟨g, 0, none⟩) (words s).length c) ∧ Below w.heap.size w w' ∧ (words s).length ≤ c ∧ g < w'.heap.size ∧ ∀ (j : Nat) x, (words s)[j]? = some x → w'.cell? ⟨g, 0 + j, none⟩ = some (.string x) := by
  refine (words21 s w hs).mono ?_
  rintro e w' ⟨v, rfl, ho, hb⟩
  rcases own_str ho with ⟨_, e⟩ | ⟨g, c, rfl, h1, h2, h3⟩
  · exact absurd e h
  · exact ⟨g, c, rfl, hb, h1, h2, h3⟩
theorem lens_wl : ∀ (l cur : List UInt8), Lib.lens (wl cur l) ≤ cur.length + l.length
  | [], cur => by unfold wl fl; split <;> simp [Lib.lens]
  | b :: r, cur => by
    unfold wl
    have h1 := lens_wl r []
    have h2 := lens_wl r (cur ++ [b])
    have h3 : Lib.lens (fl cur ++ wl [] r) ≤ cur.length + Lib.lens (wl [] r) := by unfold fl; split <;> simp [Lib.lens]
    simp only [List.length_append, List.length_cons, List.length_nil] at *
    split <;> omega
theorem join_wl (l : List UInt8) : (Lib.join (wl [] l) [32]).length ≤ 2 * l.length + 1 := by
  have h1 := lens_wl l []
  have h2 := wl_length l []
  cases hw : wl [] l with
  | nil => simp [Lib.join_nil]
  | cons x r =>
    rw [hw] at h1 h2
    rw [Lib.join_length]
    simp only [List.length_cons, List.length_nil] at *
    omega
/-- The words of a string, joined by spaces. -/
def sqz (s : ByteArray) : ByteArray := mkS (Lib.join (wl [] (bl s)) [32])
theorem sqz_nil (s : ByteArray) (h : words s = []) : sqz s = ⟨#[]⟩ := by
  unfold sqz
  have : wl [] (bl s) = [] := List.map_eq_nil_iff.1 h
  rw [this]
  rfl
theorem map_words (s : ByteArray) : (words s).map (·.data.toList) = wl [] (bl s) := by
  unfold words
  rw [List.map_map]
  conv => rhs; rw [← List.map_id (wl [] (bl s))]
  apply List.map_congr_left
  intro x _
  exact bl_mkS x
theorem sqz_join (s : ByteArray) : (⟨(Lib.join ((words s).map (·.data.toList)) [32]).toArray⟩ : ByteArray) = sqz s := by
  rw [map_words]
  rfl
theorem sqz_size (s : ByteArray) : (sqz s).size ≤ 2 * s.size + 1 := by
  rw [← bl_length (sqz s), sqz, bl_mkS, ← bl_length s]
  exact join_wl (bl s)
theorem join_w (g c : Nat) (s : ByteArray) (w : World) (hs : s.size ≤ 1000000) (hcells : ∀ (j : Nat) x, (words s)[j]? = some x → w.cell? ⟨g, 0 + j, none⟩ = some (.string x)) (hg : g < w.heap.size) (hc : (words s).length ≤ c) :
    Calls Tryd.prog 54 #[.slice (some ⟨g, 0, none⟩) (words s).length c, .string ⟨#[32]⟩] w fun e w' => e = .returned (.string (sqz s)) ∧ Below w.heap.size w w' := by
  have h1 := words_length s
  have h2 := join_wl (bl s)
  rw [bl_length] at h2
  have h := Tryd.strings_Join g 0 c (words s) ⟨#[32]⟩ w hcells hg (by omega) hc (by rw [map_words]; show (Lib.join (wl [] (bl s)) [32]).length ≤ _; omega)
  rw [show (Lib.join ((words s).map (·.data.toList)) (⟨#[32]⟩ : ByteArray).data.toList) = Lib.join ((words s).map (·.data.toList)) [32] from rfl, sqz_join] at h
  exact h
set_option maxRecDepth 100000 in
set_option maxHeartbeats 800000 in
theorem squeeze22 (s : ByteArray) (w : World) (hs : s.size ≤ 1000000) :
    Calls Tryd.prog 22 #[.string s] w fun e w' => e = .returned (.string (sqz s)) ∧ Below w.heap.size w w' := by
  have HL := Lib.hid hs
  clear hs
  by_cases h : words s = []
  · rw [sqz_nil s h]
    have HW := Lib.hid h
    clear h
    go_enter Tryd.func22, Tryd.ntmps22
    go_wp2_with (first
      | (go_at_call 21; refine (words21_none s _ HL.out HW.out).mono ?_; rintro e w1 ⟨A1, c1', rfl, hb1⟩; have H1 := Lib.hid hb1; clear hb1)
      | (go_at_call 54; refine (Tryd.strings_Join_none _ _ _ _).mono ?_; rintro e w2 ⟨rfl, rfl⟩))
    go_ret
    exact ⟨rfl, H1.out⟩
  · have HW := Lib.hid h
    clear h
    go_enter Tryd.func22, Tryd.ntmps22
    go_wp2_with (first
      | (go_at_call 21; refine (words21_some s _ HL.out HW.out).mono ?_; rintro e w1 ⟨g1, c1', rfl, hb1⟩; have H1 := Lib.hid hb1; clear hb1)
      | (go_at_call 54; refine (join_w g1 c1' s _ HL.out H1.out.2.2.2 H1.out.2.2.1 H1.out.2.1).mono ?_; rintro e w2 ⟨rfl, hb2⟩; have H2 := Lib.hid (Below.step H1.out.1 hb2); clear hb2))
    go_ret
    exact ⟨rfl, H2.out⟩
theorem Sl.str {w : World} {A : Option Addr} {xs : List ByteArray} (h : Sl w cS A xs) {k : Nat} (hk : k < xs.length) : ∃ ad, A = some ad ∧ w.cell? (ad.add k) = some (.string xs[k]) := by
  obtain ⟨ad, rfl, hat⟩ := Sl.at_ cS_length h hk
  refine ⟨ad, rfl, ?_⟩
  have := hat.2 0 (.string xs[k]) rfl
  rw [Nat.mul_one, show ((ad.add k).add 0) = ad.add k from by unfold Addr.add; rfl] at this
  exact this
set_option maxRecDepth 100000 in
set_option maxHeartbeats 800000 in
theorem same_yes (A B : Option Addr) (c d n : Nat) (xs : List ByteArray) (w : World) (hn : xs.length = n) (hc : n ≤ c) (hd : n ≤ d) (ha : Sl w cS A xs) (hb : Sl w cS B xs) (hm : n ≤ 4294967296) :
    Calls Tryd.prog 23 #[.slice A n c, .slice B n d] w fun e w' => e = .returned (.bool true) ∧ Below w.heap.size w w' := by
  subst hn
  have HX := Lib.hid (And.intro ha (And.intro hb (And.intro hm (And.intro hc hd))))
  clear ha hb hc hd
  go_enter Tryd.func23, Tryd.ntmps23
  go_wp2
  go_loopw [5] (fun i wr => ∃ k : Nat, k ≤ xs.length ∧ i = .int .i64 k ∧ Below w.heap.size w wr) (fun i _ => xs.length - (intOf i).toNat)
  case atStart => exact ⟨0, Nat.zero_le _, rfl, Below.refl _ _⟩
  case round =>
    obtain ⟨k, hk, rfl, hbl⟩ := hrel
    have HB := Lib.hid hbl
    by_cases hlt : k < xs.length
    · obtain ⟨ad, rfl, hc1⟩ := Sl.str (HX.out.1.keep hbl) hlt
      obtain ⟨bd, rfl, hc2⟩ := Sl.str (HX.out.2.1.keep hbl) hlt
      generalize xs[k] = x at hc1 hc2
      clear hbl
      go_wp2
      go_quiet (fail)
      go_wp2
      go_roundw
      case rel => exact ⟨k + 1, hlt, by go_num, Below.step HB.out (below_drewN _ _)⟩
      case measure => simp [intOf]; omega
    · have hkn : k = xs.length := by omega
      subst hkn
      clear hbl
      go_wp2
      go_ret
      exact ⟨rfl, HB.out⟩
end Go.Proofs.YtnljplnjdbjplaaDoor
