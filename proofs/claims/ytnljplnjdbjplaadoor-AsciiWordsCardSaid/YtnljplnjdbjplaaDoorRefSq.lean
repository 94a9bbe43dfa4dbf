/- The reference's Squeeze. -/
import Derived.Test.YtnljplnjdbjplaaDoorRefW
namespace Go.Proofs.YtnljplnjdbjplaaDoor
open Go.RowKit
theorem mk_append (a b : List UInt8) : (⟨a.toArray⟩ : ByteArray) ++ (⟨b.toArray⟩ : ByteArray) = ⟨(a ++ b).toArray⟩ := by
  apply ByteArray.ext
  simp
/-- The first k words, joined. -/
def jk (s : ByteArray) (k : Nat) : ByteArray := mkS (Lib.join ((wl [] (bl s)).take k) [32])
theorem join_le (l : List (List UInt8)) : (Lib.join l [32]).length ≤ l.length + Lib.lens l := by
  cases l with
  | nil => simp [Lib.join_nil]
  | cons x r => rw [Lib.join_length]; simp only [List.length_cons, List.length_nil]; omega
theorem jk_size (s : ByteArray) (k : Nat) : (jk s k).size ≤ 2 * s.size + 1 := by
  rw [← bl_length (jk s k), jk, bl_mkS]
  have h1 := join_le ((wl [] (bl s)).take k)
  have h2 := Lib.lens_take_le (wl [] (bl s)) k
  have h3 := lens_wl (bl s) []
  have h4 := wl_length (bl s) []
  rw [bl_length] at h3 h4
  rw [List.length_take] at h1
  simp only [List.length_nil] at h3
  omega
theorem words_get (s : ByteArray) (k : Nat) (h : k < (words s).length) : ∃ y, (wl [] (bl s))[k]? = some y ∧ (words s)[k] = mkS y := by
  have h2 : k < (wl [] (bl s)).length := by simpa [words] using h
  refine ⟨(wl [] (bl s))[k], List.getElem?_eq_getElem h2, ?_⟩
  simp [words]
theorem jk_zero (s : ByteArray) : jk s 0 = ⟨#[]⟩ := rfl
theorem jk_first (s : ByteArray) (h : 0 < (words s).length) : (⟨#[]⟩ : ByteArray) ++ (words s)[0] = jk s 1 := by
  obtain ⟨y, hy, e⟩ := words_get s 0 h
  rw [e]
  unfold jk
  cases hw : wl [] (bl s) with
  | nil => rw [hw] at hy; cases hy
  | cons x r =>
    rw [hw] at hy
    obtain rfl : x = y := by simpa using hy
    rw [List.take_succ_cons, List.take_zero, Lib.join_one]
    exact mk_append [] x
theorem jk_more (s : ByteArray) (k : Nat) (h : k < (words s).length) (hk : 0 < k) : (jk s k ++ (⟨#[32]⟩ : ByteArray)) ++ (words s)[k] = jk s (k + 1) := by
  obtain ⟨y, hy, e⟩ := words_get s k h
  rw [e]
  unfold jk
  cases hw : wl [] (bl s) with
  | nil => rw [hw] at hy; cases hy
  | cons x r =>
    rw [hw] at hy
    obtain ⟨q, rfl⟩ : ∃ q, k = q + 1 := ⟨k - 1, by omega⟩
    rw [List.getElem?_cons_succ] at hy
    rw [List.take_succ_cons, List.take_succ_cons, Lib.join_cons, Lib.join_cons, Lib.joinTail_take_succ [32] r q y hy]
    unfold mkS
    rw [show (⟨#[32]⟩ : ByteArray) = ⟨[32].toArray⟩ from rfl, mk_append, mk_append]
    congr 2
    simp [List.append_assoc]
theorem jk_end (s : ByteArray) : jk s (words s).length = sqz s := by
  unfold jk sqz words
  rw [List.length_map, List.take_length]
theorem refWords24' (s : ByteArray) (w : World) (hs : s.size ≤ 1000000) :
    Calls Tryd.prog 24 #[.string s] w fun e w' => ∃ A c, e = .returned (.slice A (words s).length c) ∧ Sl w' cS A (words s) ∧ Below w.heap.size w w' := by
  refine (refWords24 s w hs).mono ?_
  rintro e w' ⟨v, rfl, ho, hb⟩
  obtain ⟨A, c, rfl, _, h⟩ := ho.sl
  exact ⟨A, c, rfl, h, hb⟩
set_option maxRecDepth 100000 in
set_option maxHeartbeats 1600000 in
theorem refSqueeze25 (s : ByteArray) (w : World) (hs : s.size ≤ 1000000) :
    Calls Tryd.prog 25 #[.string s] w fun e w' => e = .returned (.string (sqz s)) ∧ Below w.heap.size w w' := by
  have hn := words_length s
  go_enter Tryd.func25, Tryd.ntmps25
  go_wp2_with (go_at_call 24; refine (refWords24' s _ hs).mono ?_; rintro e w1 ⟨A1, c1', rfl, hsl, hb1⟩; have H1 := Lib.hid (And.intro hsl hb1); clear hsl hb1)
  go_loopw [3, 5] (fun v i wr => ∃ k : Nat, k ≤ (words s).length ∧ i = .int .i64 (k : Int) ∧ v = .string (jk s k) ∧ wr = w1) (fun _ i _ => (words s).length - (intOf i).toNat)
  case atStart => exact ⟨0, Nat.zero_le _, rfl, rfl, rfl⟩
  case round =>
    obtain ⟨k, hk, rfl, rfl, rfl⟩ := hrel
    by_cases hlt : k < (words s).length
    · obtain ⟨ad, rfl, hcell⟩ := Sl.str H1.out.1 hlt
      have hz := jk_size s (k + 1)
      by_cases hk0 : k = 0
      · subst hk0
        have hf := jk_first s hlt
        rw [show ad.add 0 = ad from rfl] at hcell
        rw [show 0 + 1 = 1 from rfl, ← hf, ByteArray.size_append] at hz
        have HP := Lib.hid hf
        rw [jk_zero]
        clear hf
        generalize (words s)[0] = x at hcell HP hz
        have hz1 : ¬ 9223372036854775807 < x.size := by omega
        clear hz
        go_wp2
        go_roundw
        case rel => exact ⟨1, hlt, rfl, by rw [← HP.out], trivial⟩
        case measure => simp [intOf] <;> omega
      · have hk1 : (0 : Int) < (k : Int) := by omega
        have hf := jk_more s k hlt (by omega)
        rw [← hf, ByteArray.size_append, ByteArray.size_append] at hz
        rw [show (⟨#[32]⟩ : ByteArray).size = 1 from rfl] at hz
        have HP := Lib.hid hf
        clear hf
        generalize (words s)[k] = x at hcell HP hz
        generalize jk s k = a at HP hz
        have hz1 : ¬ 9223372036854775807 < a.size + 1 := by omega
        have hz2 : ¬ 9223372036854775807 < a.size + 1 + x.size := by omega
        clear hz
        go_wp2
        go_roundw
        case rel => exact ⟨k + 1, hlt, by go_num, by rw [← HP.out], trivial⟩
        case measure => simp [intOf] <;> omega
    · have hkn : k = (words s).length := by omega
      subst hkn
      rw [jk_end]
      go_wp2
      go_ret
      exact ⟨rfl, H1.out.2⟩
end Go.Proofs.YtnljplnjdbjplaaDoor
