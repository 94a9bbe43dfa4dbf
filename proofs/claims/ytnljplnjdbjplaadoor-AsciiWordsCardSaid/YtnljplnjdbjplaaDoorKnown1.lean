/- bulletinlaw01.known: the examples of the chapter. -/
import Derived.Test.YtnljplnjdbjplaaDoorSqz
import Derived.Test.YtnljplnjdbjplaaDoorNum
namespace Go.Proofs.YtnljplnjdbjplaaDoor
open Go.RowKit
theorem tab_below {w w' : World} {name : String} {k : IntKind} {zs : List Int} (h : Lib.TabIs Tryd.prog w name k zs) (hb : Below w.heap.size w w') : Lib.TabIs Tryd.prog w' name k zs := by
  unfold Lib.TabIs World.var? at *
  cases hg : Tryd.prog.globalNamed name with
  | none => rw [hg] at h; cases h
  | some g =>
    rw [hg] at h
    simp only [Option.bind_some] at h ⊢
    cases hq : w.heap[g]? with
    | none => rw [hq] at h; cases h
    | some o => rw [hb.block g (Array.getElem?_eq_some_iff.1 hq).1]; exact h
def sW : ByteArray := ⟨#[32, 97, 32, 32, 98, 9]⟩
theorem words_sW : words sW = [⟨#[97]⟩, ⟨#[98]⟩] := by rfl
theorem words_k (w : World) : Calls Tryd.prog 21 #[.string ⟨#[32, 97, 32, 32, 98, 9]⟩] w fun e w' => ∃ g c, e = .returned (.slice (some ⟨g, 0, none⟩) 2 c) ∧ Below w.heap.size w w' ∧ 2 ≤ c ∧ g < w'.heap.size ∧ w'.cell? ⟨g, 1, none⟩ = some (.string ⟨#[98]⟩) := by
  refine (words21_some sW w (by decide) (by rw [words_sW]; simp)).mono ?_
  rintro e w' ⟨g, c, rfl, hb, hc, hg, hx⟩
  rw [words_sW] at hx hc ⊢
  exact ⟨g, c, rfl, hb, hc, hg, hx 1 ⟨#[98]⟩ rfl⟩
theorem sqz_k : sqz sW = ⟨#[97, 32, 98]⟩ := by rfl
theorem squeeze_k (w : World) : Calls Tryd.prog 22 #[.string ⟨#[32, 97, 32, 32, 98, 9]⟩] w fun e w' => e = .returned (.string ⟨#[97, 32, 98]⟩) ∧ Below w.heap.size w w' := by
  have := squeeze22 sW w (by decide)
  rw [sqz_k] at this
  exact this
theorem number_k1 (w : World) : Calls Tryd.prog 29 #[.string ⟨#[49, 50, 48]⟩, .int .i64 120] w fun e w' => e = .returned (.tuple #[.int .i64 120, .int .i64 0]) ∧ w = w' :=
  number29 ⟨#[49, 50, 48]⟩ 120 (by decide) (by decide) (120, 0) (by decide) w (by decide)
theorem number_k2 (w : World) : Calls Tryd.prog 29 #[.string ⟨#[49, 50, 49]⟩, .int .i64 120] w fun e w' => e = .returned (.tuple #[.int .i64 0, .int .i64 2]) ∧ w = w' :=
  number29 ⟨#[49, 50, 49]⟩ 120 (by decide) (by decide) (0, 2) (by decide) w (by decide)
theorem number_k3 (w : World) : Calls Tryd.prog 29 #[.string ⟨#[48, 48, 55]⟩, .int .i64 120] w fun e w' => e = .returned (.tuple #[.int .i64 0, .int .i64 3]) ∧ w = w' :=
  number29 ⟨#[48, 48, 55]⟩ 120 (by decide) (by decide) (0, 3) (by decide) w (by decide)
theorem unhex_k (w : World) : Calls Tryd.prog 33 #[.string ⟨#[48, 65]⟩] w fun e w' => e = .returned (.tuple #[.slice none 0 0, .int .i64 3]) ∧ w = w' :=
  unhex_no ⟨#[48, 65]⟩ w (by decide) (by decide)
theorem equal_k (w : World) : Calls Tryd.prog 16 #[.string ⟨#[82, 101, 58, 32, 65]⟩, .string ⟨#[82, 69, 58, 32, 97]⟩] w fun e w' => e = .returned (.bool true) ∧ Below w.heap.size w w' :=
  equal16 _ _ w (by decide) (by decide)
theorem compare_k (w : World) : Calls Tryd.prog 17 #[.string ⟨#[66]⟩, .string ⟨#[97]⟩] w fun e w' => e = .returned (.int .i64 1) ∧ Below w.heap.size w w' :=
  compare17 _ _ w (by decide) (by decide)
theorem index_k (m : Int) (w : World) (hm : w.cell? ⟨0, 0, none⟩ = some (.int .i64 m)) : Calls Tryd.prog 19 #[.string ⟨#[77, 101, 115, 115, 97, 103, 101, 45, 73, 68]⟩, .string ⟨#[105, 100]⟩] w fun e w' => e = .returned (.int .i64 8) ∧ Below w.heap.size w w' := by
  refine (index19 ⟨#[77, 101, 115, 115, 97, 103, 101, 45, 73, 68]⟩ ⟨#[105, 100]⟩ m w hm (by decide) (by decide)).mono ?_
  rintro e w' ⟨rfl, hb⟩
  exact ⟨ret_int (by decide), hb⟩
theorem trim_k (w : World) : Calls Tryd.prog 26 #[.string ⟨#[32, 97, 32, 32, 98, 9]⟩] w fun e w' => e = .returned (.string ⟨#[97, 32, 32, 98]⟩) ∧ w = w' := by
  refine (trim26 sW w (by decide)).mono ?_
  rintro e w' ⟨⟨t, h1, h2, h3, h4, rfl⟩, rfl⟩
  have e1 : runL blankB (bl sW) = 1 := by rfl
  have hsz : sW.size = 6 := rfl
  rw [e1] at h1 h4 ⊢
  have : t = 5 := by
    rcases Nat.lt_or_ge t 5 with h | h
    · have := h3 4 (by decide) (by omega)
      exact absurd this (by decide)
    · rcases Nat.lt_or_ge 5 t with h' | h'
      · have := h4 5 (by decide) (by omega) (by omega)
        exact absurd this (by decide)
      · omega
  subst this
  exact ⟨rfl, rfl⟩
theorem digits_k (w : World) (htab : Lib.TabIs Tryd.prog w "internal/strconv.uint64pow10" .u64 Lib.pow10Tab) : Calls Tryd.prog 28 #[.int .i64 (-5)] w fun e w' => e = .returned (.string ⟨#[45, 53]⟩) ∧ Below w.heap.size w w' := by
  have := digits28 (-5) (by decide) (by decide) w htab
  rw [show (⟨(Lib.itoa (-5)).toArray⟩ : ByteArray) = ⟨#[45, 53]⟩ by unfold Lib.itoa; rw [if_pos (by decide), show (-5 : Int).natAbs = 5 from rfl]; rw [Lib.decDigits]; rfl] at this
  exact this
theorem hex_k (A : Option Addr) (w : World) (hx : Sl w c1 A [0, 171]) : Calls Tryd.prog 32 #[.slice A 2 2] w fun e w' => e = .returned (.string ⟨#[48, 48, 97, 98]⟩) ∧ Below w.heap.size w w' :=
  hex_b A 2 2 [0, 171] w rfl hx (by simp) (by decide)
theorem print_k (w : World) : Calls Tryd.prog 47 #[.string ⟨#[97, 9, 98]⟩] w fun e w' => e = .returned (.int .i64 1) ∧ w = w' :=
  printable47 ⟨#[97, 9, 98]⟩ w (by decide)
set_option maxRecDepth 100000 in
set_option maxHeartbeats 3200000 in
theorem known14 (m : Int) (w : World) (hm : w.cell? ⟨0, 0, none⟩ = some (.int .i64 m)) (htab : Lib.TabIs Tryd.prog w "internal/strconv.uint64pow10" .u64 Lib.pow10Tab) :
    Calls Tryd.prog 14 #[] w fun e w' => e = .returned (.bool true) ∧ Below w.heap.size w w' := by
  have H0 := Lib.hid (And.intro hm htab)
  clear hm htab
  have T1 := Lib.hid trivial
  have T2 := Lib.hid trivial
  go_enter Tryd.func14, Tryd.ntmps14
  go_wp2_with (first
    | (go_at_call 21; refine (words_k _).mono ?_; rintro e w1 ⟨g1, c1', rfl, hb1, hc1, hg1, hx1⟩; have H1 := Lib.hid (And.intro hb1 (And.intro hc1 (And.intro hg1 hx1))); clear hb1 hc1 hg1 hx1)
    | (go_at_call 29; have hh := T1; clear hh T1; refine (number_k1 _).mono ?_; rintro e w2 ⟨rfl, rfl⟩)
    | (go_at_call 29; have hh := T2; clear hh T2; refine (number_k2 _).mono ?_; rintro e w2 ⟨rfl, rfl⟩)
    | (go_at_call 29; refine (number_k3 _).mono ?_; rintro e w2 ⟨rfl, rfl⟩)
    | (go_at_call 33; refine (unhex_k _).mono ?_; rintro e w2 ⟨rfl, rfl⟩)
    | (go_at_call 16; refine (equal_k _).mono ?_; rintro e w2 ⟨rfl, hb2⟩; have H2 := Lib.hid (Below.step H1.out.1 hb2); have HX2 := Lib.hid (cell_below H1.out.2.2.2 hb2); clear hb2)
    | (go_at_call 17; refine (compare_k _).mono ?_; rintro e w3 ⟨rfl, hb3⟩; have H3 := Lib.hid (Below.step H2.out hb3); have HX3 := Lib.hid (cell_below HX2.out hb3); clear hb3)
    | (go_at_call 19; refine (index_k m _ (cell_below H0.out.1 H3.out)).mono ?_; rintro e w4 ⟨rfl, hb4⟩; have H4 := Lib.hid (Below.step H3.out hb4); have rx := cell_below HX3.out hb4; clear hb4)
    | (go_at_call 26; refine (trim_k _).mono ?_; rintro e w5 ⟨rfl, rfl⟩)
    | (go_at_call 22; refine (squeeze_k _).mono ?_; rintro e w5 ⟨rfl, hb5⟩; have H5 := Lib.hid (Below.step H4.out hb5); clear hb5 rx)
    | (go_at_call 28; refine (digits_k _ (tab_below H0.out.2 H5.out)).mono ?_; rintro e w6 ⟨rfl, hb6⟩; have H6 := Lib.hid (Below.step H5.out hb6); clear hb6)
    | (go_at_call 32; refine (hex_k _ _ (sl_newBs _ [0, 171])).mono ?_; rintro e w7 ⟨rfl, hb7⟩; have H7 := Lib.hid (Below.step H6.out (Below.step (below_alloc _ _) hb7)); clear hb7)
    | (go_at_call 47; refine (print_k _).mono ?_; rintro e w8 ⟨rfl, rfl⟩))
  go_ret
  exact ⟨rfl, H7.out⟩
end Go.Proofs.YtnljplnjdbjplaaDoor
