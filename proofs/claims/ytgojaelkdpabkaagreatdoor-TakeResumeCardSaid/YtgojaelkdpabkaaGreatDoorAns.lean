/- Taker's Answer. -/
import Derived.Test.YtgojaelkdpabkaaGreatDoorHea
namespace Go.Proofs.YtgojaelkdpabkaaGreatDoor
open Go.RowKit
/-- How a taker answers with a command to say. -/
def AnsP (b : Nat) (s' : Tk) (d : Cm) (no : Int) (F : List Nat) (w : World) (e : Ending) (w' : World) : Prop := e = .returned (.tuple #[vC d, .int .i64 no]) ∧ ∃ F', TkAt b s' F' w' ∧ Kp F F' w w'
theorem fin_row {b r0 : Nat} {s' : Tk} {F FN : List Nat} {va vk : SlV} {w u : World} (hT : TkR b s' FN va vk u) (hK : Kp F FN w u) (hr : r0 ∉ FN) (hr2 : w.heap.size ≤ r0) (d : Cm) : ∃ F', TkAt b s' F' (u.setRow r0 (aC d)) ∧ Kp F F' w (u.setRow r0 (aC d)) := by
  refine ⟨FN, ⟨va, vk, hT.same fun k hk => heap_setRow_other u r0 k _ (fun e => hr (e ▸ hk))⟩, ⟨hK.os, hK.tape, hK.output, by simpa [World.setRow] using hK.size, fun k hk hF => ⟨(hK.out k hk hF).1, ?_⟩⟩⟩
  rw [heap_setRow_other u r0 k _ (by omega)]
  exact (hK.out k hk hF).2
def wantP (s : Tk) (c : Cm) (k : Nat) : Pt := ⟨(ptK s.act k).id, (ptK s.act k).size, 2, if 0 < c.from_ then (match posL s.kept c.id with | some j => (ptK s.kept j).bytes | none => ⟨#[]⟩) else (ptK s.act k).bytes⟩
def answerT (s : Tk) (c : Cm) : Tk × Cm × Int :=
  if chk c ≠ 0 then (s, zC, chk c)
  else if c.verb < 3 ∨ 6 < c.verb then (s, zC, 11)
  else match posL s.act c.id with
  | none => (s, zC, 8)
  | some k => if (ptK s.act k).state ≠ 1 then (s, zC, 10)
    else if c.verb = 3 ∧ c.from_ ≠ 0 ∧ c.from_ ≠ gotL s.kept c.id then (s, zC, 2)
    else if c.verb = 3 then (⟨s.win, s.opn, s.act.set k (wantP s c k), withoutL s.kept c.id⟩, c, 0)
    else if c.verb = 5 then (⟨s.win, s.opn, withoutL s.act c.id, s.kept⟩, c, 0)
    else (⟨s.win, s.opn, withoutL s.act c.id, withoutL s.kept c.id⟩, c, 0)
set_option maxRecDepth 100000 in
theorem answer16_nil (c : Cm) (w : World) : Calls Tryz.prog 16 #[.pointer none, vC c] w fun e w' => e = .returned (.tuple #[vC zC, .int .i64 1]) ∧ Below w.heap.size w w' := by
  obtain ⟨g, hg⟩ : ∃ g, w.heap.size = g := ⟨_, rfl⟩
  obtain ⟨W1, hW1⟩ : ∃ W1, w.alloc (.cells (aC c) 32) = W1 := ⟨_, rfl⟩
  obtain ⟨r0, hr0⟩ : ∃ r0, W1.heap.size = r0 := ⟨_, rfl⟩
  obtain ⟨W2, hW2⟩ : ∃ W2, W1.alloc (.cells (aC zC) 32) = W2 := ⟨_, rfl⟩
  have hb1 : Below w.heap.size w W1 := by rw [← hW1]; exact below_alloc _ _
  have hb2 : Below W1.heap.size W1 W2 := by rw [← hW2]; exact below_alloc _ _
  have hro : Row W2 r0 (cC zC) 32 := by rw [← hW2, ← hr0]; exact Row.new W1 (cC zC) _
  have ro : rowOk W2 r0 39 = true := hro.rowOk (cC_length zC)
  have HB := Lib.hid (And.intro (Below.step hb1 hb2) (show w.heap.size ≤ r0 by rw [← hr0]; exact hb1.size))
  clear hb1 hb2 hro
  go_enter Tryz.func16, Tryz.ntmps16
  go_wp2
  exact bodyPost_ret (v := .tuple #[vC zC, .int .i64 1]) (results_c2 (ad := ⟨r0, 0, none⟩) rfl rfl (ld_setRow zC ro) rfl) rfl ⟨rfl, Below.setRow' HB.out.1 HB.out.2 _⟩
set_option maxRecDepth 100000 in
set_option maxHeartbeats 6400000 in
theorem answer16_bad (b : Nat) (s : Tk) (F : List Nat) (c : Cm) (w : World) (h : TkAt b s F w) (hL : FormsAt w) (hn : c.name.size ≤ 1000000) (hna : s.act.length ≤ 100) (hnk : s.kept.length ≤ 100) (hc : chk c ≠ 0) :
    Calls Tryz.prog 16 #[.pointer (some ⟨b, 0, none⟩), vC c] w (AnsP b s zC (chk c) F w) := by
  obtain ⟨va, vk, h⟩ := h
  obtain ⟨F0, h0, hK0, hlt⟩ := h.shrink
  obtain ⟨g, hg⟩ : ∃ g, w.heap.size = g := ⟨_, rfl⟩
  obtain ⟨W1, hW1⟩ : ∃ W1, w.alloc (.cells (aC c) 32) = W1 := ⟨_, rfl⟩
  obtain ⟨r0, hr0⟩ : ∃ r0, W1.heap.size = r0 := ⟨_, rfl⟩
  obtain ⟨W2, hW2⟩ : ∃ W2, W1.alloc (.cells (aC zC) 32) = W2 := ⟨_, rfl⟩
  have hb1 : Below w.heap.size w W1 := by rw [← hW1]; exact below_alloc _ _
  have hb2 : Below W1.heap.size W1 W2 := by rw [← hW2]; exact below_alloc _ _
  have hb := Below.step hb1 hb2
  have hrow : Row W1 g (cC c) 32 := by rw [← hW1, ← hg]; exact Row.new w (cC c) _
  have hro : Row W2 r0 (cC zC) 32 := by rw [← hW2, ← hr0]; exact Row.new W1 (cC zC) _
  have hs1 := hb1.size
  have r1 := (Row.okw (hrow.keep hb2) (cC_length c)).1
  have r2 : rdA W2 ⟨g, 0, none⟩ 39 = vC c := (Row.okw (hrow.keep hb2) (cC_length c)).2
  have H1 := Lib.hid (And.intro (hrow.keep hb2) (And.intro hro (And.intro (h0.keep hb) (And.intro (hK0.trans (Kp.of_below hb)) (And.intro (show g ∉ F0 from fun hm => by have := hlt g hm; omega) (And.intro (show r0 ∉ F0 from fun hm => by have := hlt r0 hm; omega) (hL.keep hb)))))))
  have HR := Lib.hid (show w.heap.size ≤ r0 by omega)
  have HN := Lib.hid hn
  have HNA := Lib.hid (show s.act.length ≤ 1000000 by omega)
  have HNK := Lib.hid (show s.kept.length ≤ 1000000 by omega)
  clear hb1 hb2 hb hrow hro h h0 hK0 hlt hL hn hs1
  obtain ⟨n, hnn⟩ : ∃ n, chk c = n := ⟨_, rfl⟩
  rw [hnn] at hc ⊢
  have HC := Lib.hid hnn
  have q1 : (n != 0) = true := by simpa using hc
  clear hnn
  go_enter Tryz.func16, Tryz.ntmps16
  go_wp2_with (go_at_call 32; refine (check16 c W2 H1.out.2.2.2.2.2.2 HN.out).mono ?_; rintro e w3 ⟨rfl, hb3⟩; rw [HC.out]; have ro := (H1.out.2.1.keep hb3).rowOk (cC_length zC);  have H3 := Lib.hid (And.intro (H1.out.1.keep hb3) (And.intro (H1.out.2.1.keep hb3) (And.intro (H1.out.2.2.1.keep hb3) (H1.out.2.2.2.1.trans (Kp.of_below hb3))))); clear hb3)
  exact bodyPost_ret (v := .tuple #[vC zC, .int .i64 n]) (results_c2 (ad := ⟨r0, 0, none⟩) rfl rfl (ld_setRow zC ro) rfl) rfl ⟨rfl, fin_row H3.out.2.2.1 H3.out.2.2.2 H1.out.2.2.2.2.2.1 HR.out zC⟩
set_option maxRecDepth 100000 in
set_option maxHeartbeats 6400000 in
theorem answer16_kind (b : Nat) (s : Tk) (F : List Nat) (c : Cm) (w : World) (h : TkAt b s F w) (hL : FormsAt w) (hn : c.name.size ≤ 1000000) (hna : s.act.length ≤ 100) (hnk : s.kept.length ≤ 100) (hc : chk c = 0) (hv : c.verb < 3 ∨ 6 < c.verb) :
    Calls Tryz.prog 16 #[.pointer (some ⟨b, 0, none⟩), vC c] w (AnsP b s zC 11 F w) := by
  obtain ⟨va, vk, h⟩ := h
  obtain ⟨F0, h0, hK0, hlt⟩ := h.shrink
  obtain ⟨g, hg⟩ : ∃ g, w.heap.size = g := ⟨_, rfl⟩
  obtain ⟨W1, hW1⟩ : ∃ W1, w.alloc (.cells (aC c) 32) = W1 := ⟨_, rfl⟩
  obtain ⟨r0, hr0⟩ : ∃ r0, W1.heap.size = r0 := ⟨_, rfl⟩
  obtain ⟨W2, hW2⟩ : ∃ W2, W1.alloc (.cells (aC zC) 32) = W2 := ⟨_, rfl⟩
  have hb1 : Below w.heap.size w W1 := by rw [← hW1]; exact below_alloc _ _
  have hb2 : Below W1.heap.size W1 W2 := by rw [← hW2]; exact below_alloc _ _
  have hb := Below.step hb1 hb2
  have hrow : Row W1 g (cC c) 32 := by rw [← hW1, ← hg]; exact Row.new w (cC c) _
  have hro : Row W2 r0 (cC zC) 32 := by rw [← hW2, ← hr0]; exact Row.new W1 (cC zC) _
  have hs1 := hb1.size
  have r1 := (Row.okw (hrow.keep hb2) (cC_length c)).1
  have r2 : rdA W2 ⟨g, 0, none⟩ 39 = vC c := (Row.okw (hrow.keep hb2) (cC_length c)).2
  have H1 := Lib.hid (And.intro (hrow.keep hb2) (And.intro hro (And.intro (h0.keep hb) (And.intro (hK0.trans (Kp.of_below hb)) (And.intro (show g ∉ F0 from fun hm => by have := hlt g hm; omega) (And.intro (show r0 ∉ F0 from fun hm => by have := hlt r0 hm; omega) (hL.keep hb)))))))
  have HR := Lib.hid (show w.heap.size ≤ r0 by omega)
  have HN := Lib.hid hn
  have HNA := Lib.hid (show s.act.length ≤ 1000000 by omega)
  have HNK := Lib.hid (show s.kept.length ≤ 1000000 by omega)
  clear hb1 hb2 hb hrow hro h h0 hK0 hlt hL hn hs1
  have HC := Lib.hid hc
  have q3 : (c.verb == 3) = false := by simp; omega
  have q4 : (c.verb == 4) = false := by simp; omega
  have q5 : (c.verb == 5) = false := by simp; omega
  have q6 : (c.verb == 6) = false := by simp; omega
  clear hc hv
  go_enter Tryz.func16, Tryz.ntmps16
  go_wp2_with (go_at_call 32; refine (check16 c W2 H1.out.2.2.2.2.2.2 HN.out).mono ?_; rintro e w3 ⟨rfl, hb3⟩; rw [HC.out]; have ro := (H1.out.2.1.keep hb3).rowOk (cC_length zC); have j0 : w3.cell? ⟨g, 0, none⟩ = some (.int .i64 c.verb) := (H1.out.1.keep hb3).cell 0; have H3 := Lib.hid (And.intro (H1.out.1.keep hb3) (And.intro (H1.out.2.1.keep hb3) (And.intro (H1.out.2.2.1.keep hb3) (H1.out.2.2.2.1.trans (Kp.of_below hb3))))); clear hb3)
  exact bodyPost_ret (v := .tuple #[vC zC, .int .i64 11]) (results_c2 (ad := ⟨r0, 0, none⟩) rfl rfl (ld_setRow zC ro) rfl) rfl ⟨rfl, fin_row H3.out.2.2.1 H3.out.2.2.2 H1.out.2.2.2.2.2.1 HR.out zC⟩
end Go.Proofs.YtgojaelkdpabkaaGreatDoor
