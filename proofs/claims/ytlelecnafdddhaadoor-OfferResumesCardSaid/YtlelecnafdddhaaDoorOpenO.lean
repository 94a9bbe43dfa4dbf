/- How bytes, half words, operations and lists of operations read that come in. -/
import Derived.Test.YtlelecnafdddhaaDoorDoorB
namespace Go.Proofs.YtlelecnafdddhaaDoor
open Go.ChangeShapes Go.WideShapes Go.ChangeAt Go.RowKit Go.Deep
theorem byte_of_wf {n : Int} (hw : (Lit.int .u8 n).wf = true) : ∃ c : UInt8, n = (c.toNat : Int) := by
  simp [Lit.wf, IntKind.min, IntKind.max, IntKind.signed, IntKind.bits] at hw
  refine ⟨UInt8.ofNat n.toNat, ?_⟩
  rw [UInt8.toNat_ofNat']
  omega
theorem half_of_wf {n : Int} (hw : (Lit.int .u16 n).wf = true) : ∃ c : UInt16, n = (c.toNat : Int) := by
  simp [Lit.wf, IntKind.min, IntKind.max, IntKind.signed, IntKind.bits] at hw
  refine ⟨UInt16.ofNat n.toNat, ?_⟩
  rw [UInt16.toNat_ofNat']
  omega
end Go.Proofs.YtlelecnafdddhaaDoor
