/- ascii.Digits. -/
import Derived.Test.YtfbpipknhghneaaDoorSkip
import Derived.Lib.AppendIntMem
namespace Go.Proofs.YtfbpipknhghneaaDoor
open Go.RowKit
set_option maxRecDepth 100000 in
set_option maxHeartbeats 400000 in
theorem digits28 (n : Int) (h0 : -9223372036854775808 ≤ n) (h1 : n ≤ 9223372036854775807) (w : World) (htab : Lib.TabIs Tryd.prog w "internal/strconv.uint64pow10" .u64 Lib.pow10Tab) :
    Calls Tryd.prog 33 #[.int .i64 n] w fun e w' => e = .returned (.string ⟨(Lib.itoa n).toArray⟩) ∧ Below w.heap.size w w' := by
  have H := Lib.hid (Tryd.strconv_Itoa n h0 h1 w htab)
  clear htab
  go_enter Tryd.func33, Tryd.ntmps33
  go_wp2_with (go_at_call 67; refine H.out.mono ?_; rintro e w1 ⟨rfl, k, os, rfl⟩; have HB := Lib.hid (Lib.below_grow w.heap.size w (Nat.le_refl _) k os))
  go_ret
  exact ⟨rfl, HB.out⟩
end Go.Proofs.YtfbpipknhghneaaDoor
