/- The reference's Digits: the numeral. -/
import Derived.Test.YtnljplnjdbjplaaDoorRefDig
import Derived.Test.YtnljplnjdbjplaaDoorDecL
namespace Go.Proofs.YtnljplnjdbjplaaDoor
open Go.RowKit
def itS (n : Int) : ByteArray := mkS (Lib.itoa n)
theorem itS_pos (u : Nat) : itS (u : Int) = decS u := by
  unfold itS Lib.itoa decS
  rw [if_neg (by omega)]
  rfl
theorem itS_neg (u : Nat) (h : 0 < u) : itS (-(u : Int)) = (⟨#[45]⟩ : ByteArray) ++ decS u := by
  unfold itS Lib.itoa decS mkS
  rw [if_pos (by omega), show (-(u : Int)).natAbs = u by omega, show (⟨#[45]⟩ : ByteArray) = ⟨[45].toArray⟩ from rfl, mk_append]
  rfl
set_option maxRecDepth 100000 in
set_option maxHeartbeats 1600000 in
theorem refDigits30 (n : Int) (h0 : -9223372036854775808 ≤ n) (h1 : n ≤ 9223372036854775807) (w : World) :
    Calls Tryd.prog 30 #[.int .i64 n] w fun e w' => e = .returned (.string (itS n)) ∧ Below w.heap.size w w' := by
  by_cases hn : n < 0
  · obtain ⟨u, hu⟩ : ∃ u : Nat, u = n.natAbs := ⟨_, rfl⟩
    have hnu : n = -(u : Int) := by omega
    have HS := Lib.hid (show itS n = (⟨#[45]⟩ : ByteArray) ++ decS u by rw [hnu]; exact itS_neg u (by omega))
    have hz : ¬ 9223372036854775807 < 1 + (decS u).size := by have := decS_size u (by omega); omega
    have HP := Lib.hid (plain56 u (by omega))
    have g1 : IntKind.u64.wrap (-(n + 1)) = -(n + 1) := by simp [IntKind.wrap, IntKind.bits, IntKind.signed]; omega
    have g2 : IntKind.u64.wrap (-(n + 1) + 1) = (u : Int) := by simp [IntKind.wrap, IntKind.bits, IntKind.signed]; omega
    clear hu hnu
    go_enter Tryd.func30, Tryd.ntmps30
    go_wp2_with (go_at_call 56; refine (HP.out _).mono ?_; rintro e w1 ⟨rfl, hb⟩; have H1 := Lib.hid hb; clear hb)
    trace_state
    go_ret
    exact ⟨by rw [HS.out]; rfl, H1.out⟩
  · obtain ⟨u, rfl⟩ : ∃ u : Nat, n = (u : Int) := ⟨n.toNat, by omega⟩
    have HP := Lib.hid (plain56 u (by omega))
    have g1 : IntKind.u64.wrap (u : Int) = (u : Int) := by simp [IntKind.wrap, IntKind.bits, IntKind.signed]; omega
    rw [itS_pos]
    go_enter Tryd.func30, Tryd.ntmps30
    go_wp2_with (go_at_call 56; refine (HP.out _).mono ?_; rintro e w1 ⟨rfl, hb⟩; have H1 := Lib.hid hb; clear hb)
    go_ret
    exact ⟨rfl, H1.out⟩
end Go.Proofs.YtnljplnjdbjplaaDoor
