/- bulletinlaw34.small. -/
import Derived.Test.YtgojaelkdpabkaaGreatDoorKn34
namespace Go.Proofs.YtgojaelkdpabkaaGreatDoor
open Go.RowKit
def okOp (o : Opn) : Bool := decide (o.cmd.text.size ≤ 200) && decide (o.cmd.name.size ≤ 100)
def smallL (l : List Opn) : Bool := l.all okOp && decide (l.length ≤ 60)
theorem Sl.op {w : World} {A : Option Addr} {xs : List Opn} (h : Sl w cO A xs) {k : Nat} (hk : k < xs.length) : ∃ ad, A = some ad ∧ At w (ad.add (k * 41)) (cO xs[k]) := by
  obtain ⟨ad, rfl, hat⟩ := Sl.at_ cO_length h hk
  exact ⟨ad, rfl, hat⟩
theorem cO_cmd (x : Opn) (k : Nat) (v : Value) (h : (cC x.cmd)[k]? = some v) : (cO x)[1 + k]? = some v := by
  unfold cO
  rw [Nat.add_comm, List.getElem?_cons_succ, List.getElem?_append_left (List.getElem?_eq_some_iff.1 h).1]
  exact h
theorem small_no {l : List Opn} {k : Nat} (hk : k < l.length) {p : Opn} (hp : l[k] = p) (h : ¬ (p.cmd.text.size ≤ 200 ∧ p.cmd.name.size ≤ 100)) : smallL l = false := by
  unfold smallL
  rw [Bool.and_eq_false_iff]
  left
  rw [List.all_eq_false]
  refine ⟨p, hp ▸ List.getElem_mem hk, ?_⟩
  unfold okOp
  rw [Bool.and_eq_true, decide_eq_true_eq, decide_eq_true_eq]
  exact h
theorem small_yes {l : List Opn} (h : ∀ j (hj : j < l.length), okOp l[j] = true) : smallL l = decide (l.length ≤ 60) := by
  unfold smallL
  have h1 : l.all okOp = true := by
    rw [List.all_eq_true]
    intro x hx
    obtain ⟨j, hj, rfl⟩ := List.mem_iff_getElem.1 hx
    exact h j hj
  rw [h1, Bool.true_and]
set_option maxRecDepth 100000 in
set_option maxHeartbeats 1600000 in
theorem small12 (A : Option Addr) (c : Nat) (l : List Opn) (w : World) (hl : Sl w cO A l) (hn : l.length ≤ 1000000) :
    Calls Tryz.prog 12 #[.slice A l.length c] w fun e w' => e = .returned (.bool (smallL l)) ∧ Below w.heap.size w w' := by
  have HS := Lib.hid hl
  clear hl
  go_enter Tryz.func12, Tryz.ntmps12
  go_wp2
  go_loopw [3] (fun i wr => ∃ k : Nat, i = .int .i64 k ∧ k ≤ l.length ∧ (∀ j (hj : j < k) (hj2 : j < l.length), okOp l[j] = true) ∧ wr = w) (fun i _ => l.length + 1 - (intOf i).toNat)
  case atStart => exact ⟨0, rfl, Nat.zero_le _, fun j hj => absurd hj (Nat.not_lt_zero _), rfl⟩
  case round =>
    obtain ⟨k, rfl, hk, hp, hw⟩ := hrel
    by_cases hlt : k < l.length
    · have hlt1 : (k : Int) < (l.length : Int) := by omega
      obtain ⟨ad, hae, hat⟩ := Sl.op HS.out hlt
      obtain ⟨p, hpp⟩ : ∃ p, l[k] = p := ⟨_, rfl⟩
      rw [hpp] at hat
      have q1 : w.cell? ⟨(ad.add (k * 41)).block, (ad.add (k * 41)).off + 1 + 38, none⟩ = some (.string p.cmd.text) := hat.2 39 _ (cO_cmd p 38 _ (cC_at (aC_38 p.cmd)))
      have q2 : w.cell? ⟨(ad.add (k * 41)).block, (ad.add (k * 41)).off + 1 + 1, none⟩ = some (.string p.cmd.name) := hat.2 2 _ (cO_cmd p 1 _ (cC_at (aC_1 p.cmd)))
      have HP := Lib.hid (And.intro hpp (And.intro hp hw))
      clear hat hpp hp
      by_cases h1 : p.cmd.text.size ≤ 200
      · by_cases h2 : p.cmd.name.size ≤ 100
        · have n1 : ¬ (200 : Int) < (p.cmd.text.size : Int) := by omega
          have n2 : ¬ (100 : Int) < (p.cmd.name.size : Int) := by omega
          have HX := Lib.hid (And.intro h1 h2)
          clear h1 h2
          go_wp2
          go_roundw
          case rel =>
            refine ⟨k + 1, by go_num, hlt, fun j hj hj2 => ?_, trivial⟩
            rcases Nat.lt_succ_iff_lt_or_eq.1 hj with h | h
            · exact HP.out.2.1 j h hj2
            · subst h
              rw [HP.out.1]
              unfold okOp
              rw [Bool.and_eq_true, decide_eq_true_eq, decide_eq_true_eq]
              exact HX.out
          case measure => simp [intOf] <;> omega
        · have n1 : ¬ (200 : Int) < (p.cmd.text.size : Int) := by omega
          have n2 : (100 : Int) < (p.cmd.name.size : Int) := by omega
          have HX := Lib.hid h2
          clear h1 h2
          go_wp2
          go_ret
          exact ⟨by rw [small_no hlt HP.out.1 (fun h => HX.out h.2)]; rfl, by rw [← HP.out.2.2]; exact Below.refl _ _⟩
      · have n1 : (200 : Int) < (p.cmd.text.size : Int) := by omega
        have HX := Lib.hid h1
        clear h1
        go_wp2
        go_ret
        exact ⟨by rw [small_no hlt HP.out.1 (fun h => HX.out h.1)]; rfl, by rw [← HP.out.2.2]; exact Below.refl _ _⟩
    · have hlt1 : ¬ (k : Int) < (l.length : Int) := by omega
      have HP := Lib.hid (And.intro hp hw)
      clear hp
      go_wp2
      go_ret
      exact ⟨by rw [small_yes (fun j hj => HP.out.1 j (by omega) hj)]; simp; omega, by rw [← HP.out.2]; exact Below.refl _ _⟩
end Go.Proofs.YtgojaelkdpabkaaGreatDoor
