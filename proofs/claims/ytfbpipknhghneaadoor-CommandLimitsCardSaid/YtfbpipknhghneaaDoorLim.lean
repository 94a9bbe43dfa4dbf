/- Texts of zeros at the limits: what Check, Stuff and Unstuff say of them; a made slice of bytes as a string. -/
import Derived.Test.YtfbpipknhghneaaDoorFeed
import Derived.Test.YtfbpipknhghneaaDoorKnA
import Derived.Test.YtfbpipknhghneaaDoorPlA
namespace Go.Proofs.YtfbpipknhghneaaDoor
open Go.RowKit
def zB (n : Nat) : ByteArray := ⟨Array.replicate n 0⟩
def zA (n : Nat) : Array Value := Array.replicate n (vB 0)
def id1 : Id := ⟨1 :: List.replicate 31 0, by simp⟩
theorem zB_size (n : Nat) : (zB n).size = n := by simp [zB, ByteArray.size]
theorem bl_zB (n : Nat) : bl (zB n) = List.replicate n 0 := by simp [zB, bl]
theorem zeros_no (c : UInt8) (hc : c ≠ 0) (n : Nat) : c ∉ List.replicate n (0 : UInt8) := fun h => hc (List.eq_of_mem_replicate h)
theorem index_zeros (n : Nat) : Lib.indexByte (List.replicate n 0) 13 = -1 := by
  induction n with
  | zero => rfl
  | succ n ih => rw [List.replicate_succ, Lib.indexByte, ih]; rfl
def cZ (n : Nat) : Cm := ⟨7, ⟨#[]⟩, id1, 0, 0, 0, 0, zB n⟩
theorem chk_lim (n : Nat) (h : 1 ≤ n) : chk (cZ n) = if 4096 < n then 5 else 0 := by
  have h1 : (zB n).toList.isEmpty = false := by rw [isE, zB_size]; simp; omega
  have h2 : psC (cZ n) = psL false true false false false false true := by
    unfold psC cZ
    simp only [h1, show (⟨#[]⟩ : ByteArray).toList.isEmpty = true by rw [isE]; rfl, show decide (id1 = zI) = false by decide]
    rfl
  have h3 : crL (zB n) = false := by
    unfold crL
    rw [show (zB n).data.toList = List.replicate n 0 from bl_zB n, index_zeros]
    rfl
  unfold chk
  rw [if_neg (by show ¬ ((7 : Int) < 1 ∨ 11 < (7 : Int)); decide)]
  show chkF (cZ n) 74 4096 = _
  unfold chkF
  rw [h2, if_neg (by decide), if_neg (by show ¬ ((bits BinOp.and IntKind.i64 74 1 != 0 && !siteB (bl ⟨#[]⟩)) = true); decide), if_neg (by show ¬ ((bits BinOp.and IntKind.i64 74 2 != 0 && decide (id1 = zI)) = true); decide), if_neg (by show ¬ ((rgs ⟨7, ⟨#[]⟩, id1, 0, 0, 0, 0, ⟨#[]⟩⟩).all (okR 74) = false); decide), if_neg (by decide)]
  show (if (zB n).toList.isEmpty then (1 : Int) else if (4096 : Int) < ((zB n).size : Int) then 5 else if crL (zB n) then 6 else 0) = _
  rw [h1, h3, zB_size, if_neg (by decide)]
  by_cases h4 : 4096 < n
  · rw [if_pos h4, if_pos (by omega)]
  · rw [if_neg h4, if_neg (by omega), if_neg (by decide)]
theorem splitGo_no (c : UInt8) (l : List UInt8) (h : c ∉ l) : ∀ cur, splitGo c cur l = [cur ++ l] := by
  induction l with
  | nil => intro cur; simp [splitGo]
  | cons x xs ih =>
    intro cur
    rw [splitGo, if_neg (fun e => h (by rw [e]; exact List.mem_cons_self)), ih (fun hm => h (List.mem_cons_of_mem _ hm))]
    simp
theorem dotL_zeros (n : Nat) : dotL (List.replicate n 0) = List.replicate n 0 := by
  cases n with
  | zero => rfl
  | succ n => rw [List.replicate_succ]; rfl
theorem stuff_zeros (n : Nat) : stuffL (List.replicate n 0) = List.replicate n 0 ++ [13, 10, 46, 13, 10] := by
  unfold stuffL
  rw [splitGo_no 10 _ (zeros_no 10 (by decide) n) [], List.nil_append, stuffP_cons, dotL_zeros]
  simp [stuffP]
theorem plain_zeros (n : Nat) : plainB (List.replicate n 0) := ⟨zeros_no 10 (by decide) n, zeros_no 13 (by decide) n⟩
theorem unGo_big (f : Nat) (n : Nat) (l : List UInt8) (hl : plainB l) (r : List UInt8) (hb : 262144 < l.length) : unGo (f + 1) true [] n (dotL l ++ 13 :: 10 :: r) = ([], 0, 5) := by
  rw [unGo, flGo_line _ (dotL_plain l hl) r]
  simp only [Nat.zero_add, Nat.add_sub_cancel]
  rw [List.take_left, if_neg (dotL_ne l), if_neg (by
    rintro ⟨h1, h2⟩
    obtain ⟨h3, h4⟩ := dotL_two l h1
    rw [h3] at h2
    apply h2
    rw [List.getElem?_cons_succ, ← List.head?_eq_getElem?]
    exact h4), dotL_back, if_pos (by simpa using hb)]
theorem un_zeros (n : Nat) : unL (List.replicate n 0 ++ [13, 10, 46, 13, 10]) = if 262144 < n then ([], 0, 5) else (List.replicate n 0, n + 5, 0) := by
  by_cases h : 262144 < n
  · rw [if_pos h]
    unfold unL
    have e := unGo_big (List.replicate n (0 : UInt8) ++ [13, 10, 46, 13, 10]).length 0 (List.replicate n 0) (plain_zeros n) [46, 13, 10] (by rw [List.length_replicate]; exact h)
    rw [dotL_zeros] at e
    exact e
  · rw [if_neg h]
    have e := un_stuff (List.replicate n 0) [] (zeros_no 13 (by decide) n) (by rw [List.length_replicate]; omega)
    rw [List.append_nil, stuff_zeros] at e
    rw [e]
    simp
theorem stE_zeros (n : Nat) : stE (List.replicate n 0) = if 262144 < n then 5 else 0 := by
  unfold stE
  rw [List.length_replicate]
  by_cases h : 262144 < n
  · rw [if_pos h, if_pos h]
  · rw [if_neg h, if_neg h, if_neg (by simp)]
theorem encT_len2 (c : Cm) : (encT c).length ≤ 4 * c.text.size + 250 := by
  by_cases h : chk c = 0
  · rw [encT_eq c h]
    have hl := (line_ok c h).len
    simp only [List.length_append, List.length_cons]
    have ht : (tailC c).length ≤ 4 * c.text.size + 6 := by
      unfold tailC
      split
      · simp
      · have := stuffP_le 10 (bl c.text) []
        rw [List.length_nil, bl_length] at this
        unfold stuffL
        omega
    omega
  · rw [encT_no c h]
    simp
/-! ### a made slice of bytes -/
theorem mk_bytes (n : Nat) (hn : n ≤ 1000000) (w : World) : (Instr.makeSlice 54 (.int .i64 (n : Int)) (.int .i64 (n : Int))).run Tryd.prog w = .ok (.slice (some ⟨w.heap.size, 0, none⟩) n n) (w.alloc (.cells (zA n) 5)) := by
  have hk : (Tryd.prog.info? 5).map (fun i => (i.zero, i.size, i.bytes)) = some (some (vB 0), 1, 1) := by kernel_rfl
  cases hq : Tryd.prog.info? 5 with
  | none => rw [hq] at hk; cases hk
  | some i =>
    rw [hq] at hk
    simp only [Option.map_some, Option.some.injEq, Prod.mk.injEq] at hk
    have h := run_makeSlice (P := Tryd.prog) w 54 5 i (vB 0) underBs hq hk.1 .i64 .i64 (n : Int) (n : Int) (by omega) (Int.le_refl _) (by rw [hk.2.1]; simp; omega) (by rw [hk.2.2]; omega) (by omega)
    rw [Int.toNat_natCast, hk.2.1, Nat.mul_one] at h
    rw [h]
    have e : madeCells (vB 0).cells n = zA n := by
      apply Array.ext'
      rw [show (vB 0).cells = #[vB 0] from rfl, toList_madeCells_one]
      simp [zA]
    rw [e]
theorem conv_zeros (n : Nat) (w : World) : (convert 54 9 (.slice (some ⟨w.heap.size, 0, none⟩) n n)).run Tryd.prog (w.alloc (.cells (zA n) 5)) = .ok (.string (zB n)) (w.alloc (.cells (zA n) 5)) := by
  have h := sl_newBs w (List.replicate n 0)
  rw [List.map_replicate] at h
  have e : (List.replicate n (vB 0)).toArray = zA n := by simp [zA]
  rw [e] at h
  have := conv_bs h (n := n) (c := n) (by simp) (by simp)
  rw [this]
  simp [zB]
theorem stuff_zeros17 (n : Nat) (hn : n ≤ 300000) (w : World) (hL : Laid1 w) : Calls Tryd.prog 17 #[.string (zB n)] w fun e w' => ∃ t : ByteArray, e = .returned (.tuple #[.string t, .int .i64 (if 262144 < n then 5 else 0)]) ∧ t.size = (if 262144 < n then 0 else n + 5) ∧ Below w.heap.size w w' := by
  refine (stuff17 (zB n) w (by rw [zB_size]; omega) hL).mono ?_
  rintro e w' ⟨t, rfl, ht, hb⟩
  rw [bl_zB, stE_zeros]
  refine ⟨t, rfl, ?_, hb⟩
  rw [← bl_length, ht, bl_zB]
  unfold stT
  rw [stE_zeros]
  by_cases h : 262144 < n
  · rw [if_pos h, if_pos h, if_neg (by decide)]; rfl
  · rw [if_neg h, if_neg h, if_pos rfl, stuff_zeros]; simp
theorem un_zeros19 (n : Nat) (hn : n ≤ 300000) (w : World) : Calls Tryd.prog 19 #[.string (zB n ++ ⟨#[13, 10, 46, 13, 10]⟩)] w fun e w' => ∃ k : Int, e = .returned (.tuple #[.string (if 262144 < n then ⟨#[]⟩ else zB n), .int .i64 k, .int .i64 (if 262144 < n then 5 else 0)]) ∧ Below w.heap.size w w' := by
  refine (unstuff19 _ w (by rw [ByteArray.size_append, zB_size]; show n + 5 ≤ _; omega)).mono ?_
  have hb : bl (zB n ++ ⟨#[13, 10, 46, 13, 10]⟩) = List.replicate n 0 ++ [13, 10, 46, 13, 10] := by
    rw [show bl (zB n ++ ⟨#[13, 10, 46, 13, 10]⟩) = bl (zB n) ++ bl ⟨#[13, 10, 46, 13, 10]⟩ by simp [bl], bl_zB]
  rw [hb, un_zeros]
  rintro e w' ⟨t, rfl, ht, hbw⟩
  by_cases h : 262144 < n
  · rw [if_pos h] at ht ⊢
    rw [if_pos h, if_pos h]
    obtain rfl : t = ⟨#[]⟩ := bl_inj ht
    exact ⟨_, rfl, hbw⟩
  · rw [if_neg h] at ht ⊢
    rw [if_neg h, if_neg h]
    obtain rfl : t = zB n := bl_inj (by rw [ht, bl_zB])
    exact ⟨_, rfl, hbw⟩
@[go_sem] theorem bl24_1 (w : World) : (blA 24 #[(0, .int .u8 1)]).run Tryd.prog w = .ok (vI id1) w := by kernel_rfl
end Go.Proofs.YtfbpipknhghneaaDoor
