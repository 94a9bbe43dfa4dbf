/- bulletinlaw30.CommandRoundTrip: whatever the command and what follows, the law returns true. -/
import Derived.Test.YtgojaelkdpabkaaGreatDoorPlA
namespace Go.Proofs.YtgojaelkdpabkaaGreatDoor
open Go.RowKit
/-- A command's ints are ints. -/
structure Cm.ints (c : Cm) : Prop where
  size : i64 c.size
  from_ : i64 c.from_
  count : i64 c.count
  code : i64 c.code
theorem okC {w : World} {b : Nat} {c : Cm} {t : TypeId} (h : Row w b (cC c) t) : okA w ⟨b, 0, none⟩ 39 = true := (h.okw (cC_length c)).1
theorem rdC {w : World} {b : Nat} {c : Cm} {t : TypeId} (h : Row w b (cC c) t) : rdA w ⟨b, 0, none⟩ 39 = vC c := (h.okw (cC_length c)).2
end Go.Proofs.YtgojaelkdpabkaaGreatDoor
