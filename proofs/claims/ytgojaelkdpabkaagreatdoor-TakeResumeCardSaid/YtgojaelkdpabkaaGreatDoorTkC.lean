/- A taker beside the law's own memory: Accepted, Cancel, Forget. -/
import Derived.Test.YtgojaelkdpabkaaGreatDoorTkB
import Derived.Test.YtgojaelkdpabkaaGreatDoorAcc
namespace Go.Proofs.YtgojaelkdpabkaaGreatDoor
open Go.RowKit
theorem TkI.accepted {s : Tk} (h : TkI s) (x : Id) (n : Int) : TkI (acceptedT s x n).1 := by
  unfold acceptedT
  split
  · exact h
  split
  · exact h
  split
  · exact h
  · exact h.lessA x
theorem TkI.cancelled {s : Tk} (h : TkI s) (x : Id) : TkI (cancelT s x).1 := by
  unfold cancelT
  split
  · exact h
  rename_i k hp
  obtain ⟨hk, hid, _⟩ := pos_some hp
  split
  · exact h
  have hl := h.lessA x
  have ha := h.ast _ (List.getElem_mem hk)
  rw [ptK_eq hk]
  refine ⟨hl.win1, hl.win64, hl.act, keepP_len _ _ h.kept, hl.shut, fun p hp => ?_, hl.ast, fun p hp q hq e => ?_, hl.nda, nd_keepP _ h.ndk⟩
  · rcases keepP_mem hp with h1 | ⟨rfl, _, h2⟩
    · exact h.kst p h1
    · exact ⟨rfl, h2, ha.2.2.2⟩
  · rcases keepP_mem hq with h1 | ⟨rfl, _, _⟩
    · exact h.two p (mem_without.1 hp).1 q h1 e
    · exact absurd (e.trans hid) (mem_without.1 hp).2
theorem TkI.forgotten {s : Tk} (h : TkI s) (x : Id) : TkI (forgetT s x).1 := by
  unfold forgetT
  split
  · exact h
  · exact h.lessK x
section
variable {w0 w : World} {b : Nat} {s : Tk} {F : List Nat}
theorem TkB.accepted (h : TkB w0 b s F w) (x : Id) (n : Int) : Calls Tryz.prog 25 #[.pointer (some ⟨b, 0, none⟩), vI x, .int .i64 n] w fun e w' => e = .returned (.tuple #[vC (acceptedT s x n).2.1, .int .i64 (acceptedT s x n).2.2]) ∧ ∃ F', TkB w0 b (acceptedT s x n).1 F' w' ∧ Kp F F' w w' :=
  (accepted25 b s F x n w h.tk h.inv.a100 h.inv.k100).mono fun _ _ ⟨e, F', h1, h2⟩ => by
    obtain ⟨F2, a1, a2, _⟩ := h.step h1 (h.inv.accepted x n) h2
    exact ⟨e, F2, a1, a2⟩
theorem TkB.cancel (h : TkB w0 b s F w) (x : Id) : Calls Tryz.prog 28 #[.pointer (some ⟨b, 0, none⟩), vI x] w fun e w' => e = .returned (.tuple #[vC (cancelT s x).2.1, .int .i64 (cancelT s x).2.2]) ∧ ∃ F', TkB w0 b (cancelT s x).1 F' w' ∧ Kp F F' w w' :=
  (cancel28 b s F x w h.tk h.inv.a100 h.inv.kept).mono fun _ _ ⟨e, F', h1, h2⟩ => by
    obtain ⟨F2, a1, a2, _⟩ := h.step h1 (h.inv.cancelled x) h2
    exact ⟨e, F2, a1, a2⟩
theorem TkB.forget (h : TkB w0 b s F w) (x : Id) : Calls Tryz.prog 35 #[.pointer (some ⟨b, 0, none⟩), vI x] w fun e w' => e = .returned (.bool (forgetT s x).2) ∧ ∃ F', TkB w0 b (forgetT s x).1 F' w' ∧ Kp F F' w w' :=
  (forget35 b s F x w h.tk h.inv.a100 h.inv.k100).mono fun _ _ ⟨e, F', h1, h2⟩ => by
    obtain ⟨F2, a1, a2, _⟩ := h.step h1 (h.inv.forgotten x) h2
    exact ⟨e, F2, a1, a2⟩
end
end Go.Proofs.YtgojaelkdpabkaaGreatDoor
