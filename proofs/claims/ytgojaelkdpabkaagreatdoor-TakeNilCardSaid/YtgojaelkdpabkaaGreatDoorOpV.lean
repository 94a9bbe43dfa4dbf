/- TakeNil's law by the operation that comes in. -/
import Derived.Test.YtgojaelkdpabkaaGreatDoorLawNil
import Derived.Test.YtgojaelkdpabkaaGreatDoorOpT
namespace Go.Proofs.YtgojaelkdpabkaaGreatDoor
open Go.RowKit
theorem law10q (o : Opn) (_ : o.ints) (W : World) (hL : Laid W) : Calls Tryz.prog 10 #[vO o] W fun e w' => e = .returned (.bool true) ∧ Below W.heap.size W w' := law10 o W hL
end Go.Proofs.YtgojaelkdpabkaaGreatDoor
