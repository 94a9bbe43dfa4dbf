/- A text that is said in parts, over a line that drops: how the taker stands (plain). -/
import Derived.Test.YtgojaelkdpabkaaGreatDoorOld
namespace Go.Proofs.YtgojaelkdpabkaaGreatDoor
open Go.RowKit
theorem crL_no {t : ByteArray} (h : ∀ (k : Nat) (hk : k < t.size), ((t[k].toNat : Int) == 13) = false) : crL t = false := by
  unfold crL
  rw [decide_eq_false_iff_not]
  intro h0
  obtain ⟨o, ho⟩ : ∃ o : Nat, Lib.indexByte t.data.toList 13 = (o : Int) := ⟨(Lib.indexByte t.data.toList 13).toNat, by omega⟩
  have h1 := (Lib.indexByte_some ho).1
  obtain ⟨h2, h3⟩ := List.getElem?_eq_some_iff.1 h1
  have h4 : o < t.size := h2
  have h6 := h o h4
  rw [show t[o] = (13 : UInt8) from h3] at h6
  exact absurd h6 (by decide)
theorem crL_sub {t : ByteArray} (h : ∀ (k : Nat) (hk : k < t.size), ((t[k].toNat : Int) == 13) = false) (a b : Nat) : crL (t.extract a b) = false := by
  refine crL_no fun k hk => ?_
  rw [ByteArray.getElem_extract]
  exact h _ _
theorem extract_join (t : ByteArray) (a q nx : Nat) (h1 : a ≤ q) (h2 : q ≤ nx) : t.extract a q ++ t.extract q nx = t.extract a nx := by
  rw [ByteArray.extract_append_extract, Nat.min_eq_left h1, Nat.max_eq_right h2]
def i7 : Id := idB 7
theorem i7_ne : i7 ≠ zI := idB_ne 7 (by decide)
/-- Receiving, so many bytes here. -/
def rsP (t : ByteArray) (n : Nat) : Tk := ⟨3, true, [⟨i7, t.size, 2, t.extract 0 n⟩], []⟩
def rsK (t : ByteArray) (n : Nat) : List Pt := if n = 0 then [] else [⟨i7, t.size, 4, t.extract 0 n⟩]
/-- The line has dropped. -/
def rsC (t : ByteArray) (n : Nat) : Tk := ⟨3, false, [], rsK t n⟩
def rsS (t : ByteArray) (o : Bool) (n : Nat) : Tk := match o with | true => rsP t n | false => rsC t n
section
variable {t : ByteArray} {n : Nat}
theorem pre_size (h : n ≤ t.size) : (t.extract 0 n).size = n := by rw [ByteArray.size_extract]; omega
theorem pre_zero : t.extract 0 0 = ⟨#[]⟩ := ByteArray.ext (Array.eq_empty_of_size_eq_zero (show (t.extract 0 0).size = 0 by rw [ByteArray.size_extract]; omega))
theorem rsK_pos (_x : Pt) (hn : n ≠ 0) : posL (rsK t n) i7 = some 0 := by
  unfold rsK
  rw [if_neg hn]
  exact pos_hit (Nat.succ_pos 0) (fun j hj => absurd hj (Nat.not_lt_zero _)) rfl
theorem rs_got (h : n ≤ t.size) : gotL (rsK t n) i7 = (n : Int) := by
  by_cases hn : n = 0
  · subst hn
    rw [got_none (by unfold rsK; rw [if_pos rfl]; rfl)]
    rfl
  · have h1 := rsK_pos (t := t) zA hn
    have h2 : 0 < (rsK t n).length := by unfold rsK; rw [if_neg hn]; exact Nat.succ_pos 0
    rw [got_some h1 h2]
    unfold rsK
    simp only [if_neg hn, List.getElem_cons_zero]
    rw [pre_size h]
theorem rs_open : openT (rsC t n) = (⟨3, true, [], rsK t n⟩, 0) := rfl
theorem rs_off (h : n ≤ t.size) (h0 : 0 < t.size) (hz : t.size ≤ 200) : hearT ⟨3, true, [], rsK t n⟩ (offC i7 t.size) = (⟨3, true, [⟨i7, t.size, 1, ⟨#[]⟩⟩], rsK t n⟩, [(i7, (t.size : Int), (n : Int))], [], 0) := by
  have h1 := hear_off (W := 3) (A := []) (K := rsK t n) (x := i7) (z := t.size) i7_ne (by omega) (by omega) rfl (by decide) (fun k hk e => by
    unfold rsK at hk ⊢
    split at hk
    · cases hk
    · rename_i hn
      have : k = 0 := by simpa using hk
      subst this
      simp only [if_neg hn, List.getElem_cons_zero])
  rw [rs_got h] at h1
  exact h1
theorem rs_want (h : n ≤ t.size) (hz : t.size ≤ 200) : answerT ⟨3, true, [⟨i7, t.size, 1, ⟨#[]⟩⟩], rsK t n⟩ (wantC i7 n) = (rsP t n, wantC i7 n, 0) := by
  have h1 := answer_want (W := 3) (A := []) (K := rsK t n) (x := i7) (z := t.size) (o := true) (f := n) (r := t.extract 0 n) i7_ne (by omega) (by omega) rfl (Or.inr (rs_got h).symm) (by
    by_cases hn : n = 0
    · subst hn
      rw [if_neg (by decide)]
      exact pre_zero
    · rw [if_pos (by omega), rsK_pos zA hn]
      unfold rsK
      rw [if_neg hn]
      rfl)
  have h2 : withoutL (rsK t n) i7 = [] := by
    unfold rsK
    split
    · rfl
    · unfold withoutL
      rw [List.filter_cons, if_neg (by unfold noId; simp)]
      rfl
  rw [h2] at h1
  exact h1
theorem rs_data {m : Nat} (hm : m ≠ 0) (h : n + m ≤ t.size) (hz : t.size ≤ 200) (hcr : ∀ (k : Nat) (hk : k < t.size), ((t[k].toNat : Int) == 13) = false) : hearT (rsP t n) (dataC i7 n (t.extract n (n + m))) = (rsP t (n + m), [], [], 0) := by
  have hs : (t.extract n (n + m)).size = m := by rw [ByteArray.size_extract]; omega
  have h1 := hear_data (W := 3) (A := []) (K := []) (x := i7) (z := t.size) (o := true) (e := t.extract 0 n) (f := n) (t := t.extract n (n + m)) rfl i7_ne rfl (by rw [pre_size (by omega)]) (by omega) (by rw [pre_size (by omega), hs]; omega) (by rw [isE, hs, decide_eq_false_iff_not]; exact hm) (by rw [hs]; omega) (crL_sub hcr _ _)
  rw [extract_join _ _ _ _ (Nat.zero_le _) (by omega)] at h1
  exact h1
theorem rs_rcvd (h : n ≤ t.size) : (lookL (rsP t n) i7).state = 2 ∧ rcvdL (rsP t n) i7 = (n : Int) := by
  have h0 : lookL (rsP t n) i7 = ⟨i7, t.size, 2, t.extract 0 n⟩ := look_act (s := rsP t n) (k := 0) (pos_hit (l := (rsP t n).act) (Nat.succ_pos 0) (fun j hj => absurd hj (Nat.not_lt_zero _)) rfl) (Nat.succ_pos 0)
  unfold rcvdL
  rw [h0]
  refine ⟨rfl, ?_⟩
  rw [if_neg (show ¬ ((2 : Int) = 1) by decide), pre_size h]
theorem rs_drop (h : n ≤ t.size) : dropT (rsP t n) = (rsC t n, 0) := by
  unfold dropT
  rw [if_pos (show (rsP t n).opn = true from rfl)]
  show ((⟨3, false, [], keepP [] ⟨i7, t.size, 2, t.extract 0 n⟩⟩ : Tk), (0 : Int)) = (⟨3, false, [], rsK t n⟩, 0)
  unfold keepP rsK
  by_cases hn : n = 0
  · rw [if_pos (Or.inr (by rw [pre_size h]; exact hn)), if_pos hn]
  · rw [if_neg (show ¬ ((2 : Int) ≠ 2 ∨ (t.extract 0 n).size = 0) by rw [pre_size h]; omega), if_neg hn]
    rfl
theorem rs_done : hearT (rsP t t.size) (doneC i7) = (⟨3, true, [⟨i7, t.size, 3, t.extract 0 t.size⟩], []⟩, [], [(i7, t.extract 0 t.size)], 0) := by
  unfold hearT
  rw [if_neg (show ¬ ((rsP t t.size).opn = false) by show ¬ (true = false); decide), if_neg (by rw [chk_done i7 i7_ne]; decide), if_neg (show ¬ ((doneC i7).verb = 2) by decide), if_neg (show ¬ ((doneC i7).verb = 7) by decide), if_pos (show (doneC i7).verb = 8 from rfl)]
  have e1 : doneT (rsP t t.size) (doneC i7) = (⟨3, true, [⟨i7, t.size, 3, t.extract 0 t.size⟩], []⟩, [(i7, t.extract 0 t.size)], 0) := by
    have hr : rcvL (rsP t t.size).act (doneC i7).id = some 0 := rcv_yes (l := (rsP t t.size).act) (pos_hit (Nat.succ_pos 0) (fun j hj => absurd hj (Nat.not_lt_zero _)) rfl) (Nat.succ_pos 0) rfl
    unfold doneT
    rw [hr]
    dsimp only
    rw [if_neg (by show ¬ ((t.extract 0 t.size).size : Int) < (t.size : Int); rw [pre_size (Nat.le_refl _)]; omega)]
    rfl
  rw [e1]
theorem acceptedT_yes {s : Tk} {x : Id} {k : Nat} {z : Int} (h1 : 0 ≤ z) (h2 : z ≤ 99) (hp : posL s.act x = some k) (h3 : (ptK s.act k).state = 3) : acceptedT s x z = (⟨s.win, s.opn, withoutL s.act x, s.kept⟩, sayA x z, 0) := by
  unfold acceptedT
  rw [if_neg (by omega), hp]
  dsimp only
  rw [if_neg (by rw [h3]; decide)]
theorem rs_acc : acceptedT ⟨3, true, [⟨i7, t.size, 3, t.extract 0 t.size⟩], []⟩ i7 0 = (⟨3, true, [], []⟩, ⟨9, ⟨#[]⟩, i7, 0, 0, 0, 0, ⟨#[]⟩⟩, 0) := by
  rw [acceptedT_yes (s := ⟨3, true, [⟨i7, t.size, 3, t.extract 0 t.size⟩], []⟩) (x := i7) (z := 0) (k := 0) (by decide) (by decide) (pos_hit (l := [⟨i7, t.size, 3, t.extract 0 t.size⟩]) (Nat.succ_pos 0) (fun j hj => absurd hj (Nat.not_lt_zero _)) rfl) rfl]
  have h2 : withoutL [(⟨i7, t.size, 3, t.extract 0 t.size⟩ : Pt)] i7 = [] := by
    unfold withoutL
    rw [List.filter_cons, if_neg (by unfold noId; simp)]
    rfl
  show ((⟨3, true, withoutL [(⟨i7, t.size, 3, t.extract 0 t.size⟩ : Pt)] i7, []⟩ : Tk), sayA i7 0, (0 : Int)) = _
  rw [h2]
  rfl
theorem pre_all : t.extract 0 t.size = t := ByteArray.extract_zero_size
end
end Go.Proofs.YtgojaelkdpabkaaGreatDoor
