/- Print of package references: the text of a list, or the code of the error. -/
import Derived.Test.YtcchpenaiomeeaaText
import Derived.Test.YtcchpenaiomeeaaParseL
import Derived.Test.YtcchpenaiomeeaaLaw6
import Derived.Lib.Join
namespace Go.Proofs.Ytcchpenaiomeeaa
open Go.RowKit
def textS (x : Id) : ByteArray := ⟨(textL x).toArray⟩
theorem textL_len (x : Id) : (textL x).length = 71 := by
  unfold textL
  simp [hexL_length, x.2]
theorem textS_size (x : Id) : (textS x).size = 71 := (Lib.size_eq _).trans (textL_len x)
def printL (xs : List Id) : List UInt8 := Lib.join (xs.map textL) [32]
def printE (xs : List Id) : List UInt8 × Int := if chk xs ≠ 0 then ([], chk xs) else (printL xs, 0)
theorem joinTail_snoc (sep : List UInt8) (r : List (List UInt8)) (x : List UInt8) : Lib.joinTail sep (r ++ [x]) = Lib.joinTail sep r ++ sep ++ x := by
  simp [Lib.joinTail]
theorem printL_one (x : Id) : printL [x] = textL x := Lib.join_one _ _
theorem printL_snoc (l : List Id) (x : Id) (h : l ≠ []) : printL (l ++ [x]) = printL l ++ [32] ++ textL x := by
  cases l with
  | nil => exact absurd rfl h
  | cons y r =>
    unfold printL
    simp only [List.cons_append, List.map_cons, List.map_append, List.map_nil, Lib.join_cons, joinTail_snoc]
    simp
theorem printL_len (l : List Id) : (printL l).length ≤ 72 * l.length := by
  cases l with
  | nil => simp [printL, Lib.join_nil]
  | cons x r =>
    unfold printL
    rw [List.map_cons, Lib.join_length]
    have e : ∀ r : List Id, Lib.lens (r.map textL) = 71 * r.length := by
      intro r
      induction r with
      | nil => rfl
      | cons y t ih => simp only [List.map_cons, Lib.lens, List.length_cons, List.map_cons, List.sum_cons, textL_len] at *; omega
    have := e (x :: r)
    rw [List.map_cons] at this
    rw [this]
    simp
    omega
/-- The cell of a string. -/
def cS (s : ByteArray) : List Value := [.string s]
theorem cS_length (s : ByteArray) : (cS s).length = 1 := rfl
theorem cS_one (s : ByteArray) : ∀ u ∈ cS s, u.oneCell' = true := by
  intro u hu
  obtain rfl : u = .string s := by simpa [cS] using hu
  rfl
theorem underSs : Try.prog.underlying 78 = some (.slice 9) := Try.underlying78
theorem rowS : (Try.prog.info? 9).map (fun i => (i.zero.map (·.cells.size), i.size, i.bytes)) = some (some 1, 1, 16) := by kernel_rfl
theorem sl_newS (w : World) (s : ByteArray) : Sl (w.alloc (.cells #[.string s] 9)) cS (some ⟨w.heap.size, 0, none⟩) [s] :=
  fun _ => ⟨_, rfl, at_new w [.string s] 9 _ rfl⟩
theorem own_str {w : World} {base : Nat} {e : TypeId} {v : Value} {xs : List ByteArray} (h : Own w base e 1 cS v xs) :
    (v = .slice none 0 0 ∧ xs = []) ∨ ∃ g c, v = .slice (some ⟨g, 0, none⟩) xs.length c ∧ xs.length ≤ c ∧ g < w.heap.size ∧ ∀ (j : Nat) x, xs[j]? = some x → w.cell? ⟨g, 0 + j, none⟩ = some (.string x) := by
  have hsl := h.sl
  rcases h.2 with ⟨rfl, hn⟩ | ⟨g, cap, cur, rfl, hb, hg, hnc, _⟩
  · exact .inl ⟨rfl, List.eq_nil_of_length_eq_zero hn⟩
  · refine .inr ⟨g, cap, rfl, hnc, (Array.getElem?_eq_some_iff.1 hg).1, fun j x hx => ?_⟩
    obtain ⟨hj, rfl⟩ := List.getElem?_eq_some_iff.1 hx
    obtain ⟨A, c, e, _, hs⟩ := hsl
    obtain ⟨ad, rfl, hat⟩ := Sl.at_ cS_length hs hj
    obtain rfl : (⟨g, 0, none⟩ : Addr) = ad := by injection e with e; injection e
    have h2 := hat.2 0 _ rfl
    rw [Nat.mul_one, add_of_add, Nat.add_zero] at h2
    rwa [show (⟨g, 0, none⟩ : Addr).add j = ⟨g, 0 + j, none⟩ from by unfold Addr.add; split <;> simp_all] at h2
theorem print_m2 (x : Id) (w : World) : Calls Try.prog 49 #[vI x] w fun e w' => e = .returned (.string (textS x)) ∧ Below w.heap.size w w' := print_m x w
theorem text_r2 (x : Id) (w : World) : Calls Try.prog 51 #[vI x] w fun e w' => e = .returned (.string (textS x)) ∧ Below w.heap.size w w' := text_r x w
def OutT (w : World) (r : List UInt8 × Int) (e : Ending) (w' : World) : Prop := e = .returned (.tuple #[.string ⟨r.1.toArray⟩, .int .i64 r.2]) ∧ Below w.heap.size w w'
theorem map_textS (xs : List Id) : (xs.map textS).map (·.data.toList) = xs.map textL := by
  rw [List.map_map]
  rfl
theorem join_s (g cc : Nat) (xs : List Id) (w : World) (hcells : ∀ (j : Nat) x, (xs.map textS)[j]? = some x → w.cell? ⟨g, 0 + j, none⟩ = some (.string x)) (hg : g < w.heap.size) (hcc : xs.length ≤ cc) (h20 : xs.length ≤ 20) :
    Calls Try.prog 50 #[.slice (some ⟨g, 0, none⟩) xs.length cc, .string ⟨#[32]⟩] w fun e w' => e = .returned (.string ⟨(printL xs).toArray⟩) ∧ Below w.heap.size w w' := by
  have hlen := printL_len xs
  have h := Try.strings_Join g 0 cc (xs.map textS) ⟨#[32]⟩ w hcells hg (by rw [List.length_map]; omega) (by rw [List.length_map]; exact hcc) (by rw [map_textS]; exact Nat.le_trans hlen (by omega))
  rw [List.length_map, map_textS] at h
  exact h
set_option maxRecDepth 100000 in
set_option maxHeartbeats 1600000 in
theorem print_p (A : Option Addr) (c n : Nat) (xs : List Id) (w : World) (hl : xs.length = n) (hx : Sl w cI A xs) :
    Calls Try.prog 30 #[.slice A n c] w (OutT w (printE xs)) := by
  subst hl
  have HB := Lib.hid (Below.refl w.heap.size w)
  by_cases h1 : chk xs = 0
  · have q1 : (chk xs != 0) = false := by simp [h1]
    have e : printE xs = (printL xs, 0) := by unfold printE; rw [if_neg (by simp [h1])]
    have h20 : xs.length ≤ 20 := ((chk_zero xs).1 h1).1
    have HX := Lib.hid (And.intro hx h20)
    rw [e]
    clear e h1 hx
    go_enter Try.func30, Try.ntmps30
    go_wp2_with (go_at_call 25; refine (check25 _ _ _ xs _ rfl HX.out.1).mono ?_; rintro e w0 ⟨rfl, hb1⟩; replace HB := Lib.hid (Below.step HB.out hb1); clear hb1)
    go_loopw [5, 15] (fun v i wr => ∃ k : Nat, k ≤ xs.length ∧ i = .int .i64 k ∧ Below w.heap.size w wr ∧ Own wr w.heap.size 9 1 cS v ((xs.take k).map textS)) (fun _ i _ => xs.length - (intOf i).toNat)
    case atStart => exact ⟨0, Nat.zero_le _, rfl, HB.out, Own.nil _ _ _ _ _⟩
    case round =>
      obtain ⟨k, hk, rfl, hb, ho⟩ := hrel
      have HO := Lib.hid (And.intro hb ho)
      by_cases hlt : k < xs.length
      · obtain ⟨ad, rfl, hok, hrd⟩ := Sl.rd (HX.out.1.keep hb) hlt
        have HT := Lib.hid (show (xs.take (k + 1)).map textS = (xs.take k).map textS ++ [textS xs[k]] by rw [List.take_succ_eq_append_getElem hlt, List.map_append]; rfl)
        have HU := Lib.hid (show ((xs.take k).map textS).length ≤ 20 by rw [List.length_map, List.length_take]; have := HX.out.2; omega)
        generalize xs[k] = x at hrd HT
        clear hb ho
        go_wp2_with (first
          | (go_at_call 49; refine (print_m2 x _).mono ?_; rintro e w1 ⟨rfl, hb1⟩; have H1 := Lib.hid (Below.step (below_alloc wr (.cells (aI x) 33)) hb1); clear hb1)
          | (at_builtin; refine wpList_append_sl _ rfl (.tmp 19) (.tmp 22) 78 rfl w.heap.size 9 1 16 cS underSs rowS (by decide) cS_length cS_one _ ((xs.take k).map textS) rfl (Own.keep (Own.keep HO.out.2 H1.out) (below_alloc w1 (.cells #[.string (textS x)] 9))) _ _ _ [textS x] rfl rfl (sl_newS w1 (textS x)) (by have := HU.out; simp at *; omega) (by have := HU.out; simp at *; omega) (by have h1 := HO.out.1.size; have h2 := H1.out.size; simp; omega) ?_))
        intro v' w2 ho2 hg2
        have hb2 : Below w.heap.size w (w1.alloc (.cells #[.string (textS x)] 9)) := (HO.out.1.trans (H1.out.mono HO.out.1.size)).alloc (Nat.le_trans HO.out.1.size H1.out.size) _
        have hb3 := Own.grew (Own.keep (Own.keep HO.out.2 H1.out) (below_alloc w1 (.cells #[.string (textS x)] 9))) hg2 hb2 (Nat.le_refl _) hb2.size
        have H3 := Lib.hid (And.intro hb3 ho2)
        clear hb2 hb3 ho2 hg2
        go_wp2
        go_roundw
        case rel => exact ⟨k + 1, hlt, by go_num, H3.out.1, by rw [HT.out, List.map_take]; exact H3.out.2⟩
        case measure => simp [intOf]; omega
      · have hkn : k = xs.length := by omega
        subst hkn
        rw [List.take_length] at ho
        have hlen := printL_len xs
        rcases own_str ho with ⟨rfl, he⟩ | ⟨g, cc, rfl, hcc, hg, hcells⟩
        · have e : xs = [] := List.map_eq_nil_iff.1 he
          subst e
          clear hb ho he
          go_wp2_with (go_at_call 50; refine (Try.strings_Join_none _ _ _ _).mono ?_; rintro e w1 ⟨rfl, rfl⟩)
          go_ret2
          exact ⟨rfl, HO.out.1⟩
        · rw [List.length_map] at hcc
          have HJ := Lib.hid (And.intro hcells (And.intro hg (And.intro hcc hlen)))
          rw [List.length_map]
          clear hb ho hcells hg hcc hlen
          go_wp2_with (go_at_call 50; refine (join_s g cc xs _ HJ.out.1 HJ.out.2.1 HJ.out.2.2.1 HX.out.2).mono ?_; rintro e w1 ⟨rfl, hb1⟩; have H1 := Lib.hid hb1; clear hb1)
          go_ret2
          exact ⟨rfl, HO.out.1.trans (H1.out.mono HO.out.1.size)⟩
  · have q1 : (chk xs != 0) = true := by simp [h1]
    have e : printE xs = ([], chk xs) := by unfold printE; rw [if_pos h1]
    have HX := Lib.hid hx
    rw [e]
    clear e h1 hx
    go_enter Try.func30, Try.ntmps30
    go_wp2_with (go_at_call 25; refine (check25 _ _ _ xs _ rfl HX.out).mono ?_; rintro e w0 ⟨rfl, hb1⟩; replace HB := Lib.hid (Below.step HB.out hb1); clear hb1)
    go_ret2
    exact ⟨rfl, HB.out⟩
end Go.Proofs.Ytcchpenaiomeeaa
