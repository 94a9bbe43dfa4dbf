/- Outcomes, its slice outside of what the sender still holds. -/
import Derived.Test.YtlelecnafdddhaaDoorVw
namespace Go.Proofs.YtlelecnafdddhaaDoor
open Go.RowKit
set_option maxRecDepth 100000 in
set_option maxHeartbeats 800000 in
theorem outcomes25x (b : Nat) (ch : Int) (s : St) (F : List Nat) (w : World) (h : Rep b ch s F w) :
    Calls Tryd.prog 25 #[.pointer (some ⟨b, 0, none⟩)] w fun e w' => ∃ A n c, e = .returned (.slice A n c) ∧ ∃ F2, SlF F2 w' cO (A, n, c) s.outs ∧ Rep b ch { s with outs := [] } F2 w' ∧ Kp F F2 w w' := by
  obtain ⟨vw, vo, q, h⟩ := h
  have r37 := h.c37
  have f37 := h.row.fz 37
  have hlt := h.row.lt
  obtain ⟨A, c, hvo, hc, hsl⟩ := h.oo.sl
  have HX := Lib.hid (And.intro h (And.intro hsl (And.intro hvo hc)))
  subst hvo
  generalize hn : s.outs.length = n at *
  have HN := Lib.hid hn
  clear h hsl hc hn
  go_enter Tryd.func25, Tryd.ntmps25
  go_wp2
  go_ret
  have hp := HX.out.1
  have hset : ∀ k, k ≠ b → (w.setCell ⟨b, 37, none⟩ (.slice none 0 0)).heap[k]? = w.heap[k]? := fun k hk => heap_set_other w b 37 _ k hk
  have hrow := hp.row.set 37 (.slice none 0 0)
  rw [cSn_set37] at hrow
  have hm : ∀ k, k ∈ F → (Value.slice A n c).ownBlock ≠ some k → k ∈ F.filter (fun k => decide ((Value.slice A n c).ownBlock ≠ some k)) := fun k h1 h2 => List.mem_filter.2 ⟨h1, decide_eq_true h2⟩
  refine ⟨A, n, c, rfl, F.filter (fun k => decide ((Value.slice A n c).ownBlock ≠ some k)), ⟨HN.out, HX.out.2.2.2, ?_, ?_⟩, ⟨vw, .slice none 0 0, q, ⟨hrow, hp.ow.same fun k e => hset k (hp.wF k e).2.1, Own.nil _ _ _ _ _, hp.none_, fun t ht => ?_, hm b hp.bF (fun e => (hp.oF b e).2 rfl), fun k e => ⟨hm k (hp.wF k e).1 (hp.wF k e).2.2, (hp.wF k e).2.1, fun e2 => by cases e2⟩, fun k e => by cases e⟩⟩, ⟨rfl, rfl, rfl, by simp [World.setCell], fun k _ h2 => ⟨fun h3 => h2 (List.mem_filter.1 h3).1, hset k (fun e => h2 (e ▸ hp.bF))⟩⟩⟩
  · obtain ⟨A2, c2, e, _, hs⟩ := (hp.oo.same (w' := w.setCell ⟨b, 37, none⟩ (.slice none 0 0)) fun k e => hset k (hp.oF k e).2).sl
    injection e with e1 _ _
    rw [e1]
    exact hs
  · intro ad e hx hmem
    obtain rfl : A = some ad := e
    have h1 := of_decide_eq_true (List.mem_filter.1 hmem).2
    exact h1 rfl
  · obtain ⟨g, e1, e2, e3, e4, e5, e6⟩ := hp.some_ t ht
    exact ⟨g, e1, e2, hm g e3 e6, e4.same (hset g e2), e5, fun e => by cases e⟩
end Go.Proofs.YtlelecnafdddhaaDoor
