/- Sender.Say while a text is sent, and when there is nothing to say. -/
import Derived.Test.YtlelecnafdddhaaDoorSay
namespace Go.Proofs.YtlelecnafdddhaaDoor
open Go.RowKit
/-- The sender's blocks behind a call that touched the row of the sender of its text and its own state. -/
theorem Rp.said {b : Nat} {ch : Int} {s s' : St} {F : List Nat} {vw vo : Value} {q : Option Addr} {w u : World} {g : Nat} {tt : Int × Bool} (h : Rp b ch s F vw vo q w) (hg : q = some ⟨g, 0, none⟩) (hgF : g ∈ F) (hgb : g ≠ b) (hgw : vw.ownBlock ≠ some g) (hgo : vo.ownBlock ≠ some g)
    (hrow : Row u b (cSn ch vw s'.state s'.cur q vo) 91) (htr : Row u g (cT s'.cur ch tt.1 tt.2) 120) (hwt : s'.wait = s.wait) (hout : s'.outs = s.outs) (hsnd : s'.snd = some tt) (hon : ∀ k, k < w.heap.size → k ≠ b → k ≠ g → u.heap[k]? = w.heap[k]?) : Rep b ch s' F u := by
  refine ⟨vw, vo, q, ⟨hrow, ?_, ?_, fun e => (by rw [hsnd] at e; cases e), fun t ht => ?_, h.bF, h.wF, h.oF⟩⟩
  · rw [hwt]
    exact h.ow.same fun k e => hon k (h.ow.lt k e).2 (h.wF k e).2.1 fun e2 => hgw (e2 ▸ e)
  · rw [hout]
    exact h.oo.same fun k e => hon k (h.oo.lt k e).2 (h.oF k e).2 fun e2 => hgo (e2 ▸ e)
  · rw [hsnd] at ht
    injection ht with ht
    subst ht
    exact ⟨g, hg, hgb, hgF, htr, hgw, hgo⟩
theorem said_world {w w2 : World} {g : Nat} (ho2 : Only g (w.alloc (.cells (aC zC) 45)) w2) (c : Cm) (W : World) (hW : W = (w2.setRow w.heap.size (aC c)).alloc (.cells (aC c) 45)) :
    (W.os = w.os ∧ W.tape = w.tape ∧ W.output = w.output ∧ w.heap.size ≤ W.heap.size) ∧ ∀ k, k < w.heap.size → k ≠ g → W.heap[k]? = w.heap[k]? := by
  subst hW
  have hs := ho2.size
  have hs1 : (w.alloc (.cells (aC zC) 45)).heap.size = w.heap.size + 1 := by simp
  have hs2 : (w2.setRow w.heap.size (aC c)).heap.size = w2.heap.size := by simp [World.setRow]
  refine ⟨⟨ho2.os, ho2.tape, ho2.output, ?_⟩, fun k hk hg => ?_⟩
  · have : ((w2.setRow w.heap.size (aC c)).alloc (.cells (aC c) 45)).heap.size = (w2.setRow w.heap.size (aC c)).heap.size + 1 := by simp
    omega
  · exact (Below.heap_alloc _ _ k (by omega)).trans ((heap_setRow_other w2 _ k _ (by omega)).trans ((ho2.out k (by omega) hg).trans (Below.heap_alloc w _ k hk)))
set_option maxRecDepth 100000 in
set_option maxHeartbeats 1600000 in
theorem say18_data (b : Nat) (ch : Int) (s : St) (F : List Nat) (x : Id) (t : ByteArray) (sent : Int) (w : World) (h : Rep b ch s F w) (hst : s.state = 2) (hcur : s.cur = (x, t)) (hsnd : s.snd = some (sent, false)) (hs : t.size ≤ 1000000) (h0 : 0 ≤ sent) (h1 : sent < (t.size : Int)) (h2 : 1 ≤ ch) (h3 : ch ≤ 4096) :
    Calls Tryd.prog 18 #[.pointer (some ⟨b, 0, none⟩)] w fun e w' => e = .returned (.tuple #[vC ⟨7, ⟨#[]⟩, x, 0, sent, 0, 0, t.extract sent.toNat (min (sent + ch) (t.size : Int)).toNat⟩, .bool true]) ∧ Rep b ch { s with snd := some (min (sent + ch) (t.size : Int), false) } F w' ∧ Kp F F w w' := by
  obtain ⟨vw, vo, q, h⟩ := h
  obtain ⟨g, rfl, hgb, hgF, hrow, hgw, hgo⟩ := h.some_ _ hsnd
  rw [hcur] at hrow
  have r2 := h.c2
  rw [hst] at r2
  have r36 := h.c36
  have hlt := h.row.lt
  have hglt := hrow.lt
  have hsay : sayT (x, t) ch sent false = (⟨7, ⟨#[]⟩, x, 0, sent, 0, 0, t.extract sent.toNat (min (sent + ch) (t.size : Int)).toNat⟩, true, min (sent + ch) (t.size : Int), false) := by
    unfold sayT
    rw [if_neg (by simp), if_neg (show ¬ sent = (t.size : Int) by omega)]
  obtain ⟨cc, hcc⟩ : ∃ cc, t.extract sent.toNat (min (sent + ch) (t.size : Int)).toNat = cc := ⟨_, rfl⟩
  obtain ⟨nx, hnx⟩ : ∃ nx, min (sent + ch) (t.size : Int) = nx := ⟨_, rfl⟩
  have hcall : Calls Tryd.prog 40 #[.pointer (some ⟨g, 0, none⟩)] (w.alloc (.cells (aC zC) 45)) (SayP g (x, t) ch sent false (w.alloc (.cells (aC zC) 45))) := say40_data g x t ch sent _ (hrow.keep (below_alloc _ _)) hs h0 h1 h2 h3
  unfold SayP at hcall
  rw [hsay, hcc, hnx] at hcall
  rw [hcc, hnx]
  have HX := Lib.hid (And.intro h (And.intro hgb (And.intro hgF (And.intro hgw (And.intro hgo (And.intro hst (And.intro hcur hcall)))))))
  clear h hrow hgF hgw hgo hcall hsay hcc hnx h0 h1 h2 h3 hs hcur hsnd hst
  have q0 : (2 : Int) ≠ 0 := by decide
  go_enter Tryd.func18, Tryd.ntmps18
  go_wp2_with (go_at_call 40; refine HX.out.2.2.2.2.2.2.2.mono ?_; rintro e w2 ⟨rfl, hr2, ho2⟩; have hres2 : Row w2 w.heap.size (cC zC) 45 := (Row.new w (cC zC) 45).same (ho2.out _ (by simp) (by omega)); have hro := hres2.rok (cC_length zC); have H2 := Lib.hid (And.intro hr2 (And.intro ho2 hres2)); have hlt2 : w.heap.size < w2.heap.size := hres2.lt; clear hr2 ho2 hres2)
  obtain ⟨⟨e1, e2, e3, e4⟩, hk⟩ := said_world H2.out.2.1 ⟨7, ⟨#[]⟩, x, 0, sent, 0, 0, cc⟩ _ rfl
  have hp := HX.out.1
  have hres : Row ((w2.setRow w.heap.size (aC ⟨7, ⟨#[]⟩, x, 0, sent, 0, 0, cc⟩)).alloc (.cells (aC ⟨7, ⟨#[]⟩, x, 0, sent, 0, 0, cc⟩) 45)) w.heap.size (cC ⟨7, ⟨#[]⟩, x, 0, sent, 0, 0, cc⟩) 45 := (H2.out.2.2.setRow (ds := cC ⟨7, ⟨#[]⟩, x, 0, sent, 0, 0, cc⟩)).keep (below_alloc _ _)
  have htr : Row ((w2.setRow w.heap.size (aC ⟨7, ⟨#[]⟩, x, 0, sent, 0, 0, cc⟩)).alloc (.cells (aC ⟨7, ⟨#[]⟩, x, 0, sent, 0, 0, cc⟩) 45)) g (cT (x, t) ch nx false) 120 := (H2.out.1.same (heap_setRow_other _ _ _ _ (by omega))).keep (below_alloc _ _)
  exact bodyPost_ret (v := .tuple #[vC ⟨7, ⟨#[]⟩, x, 0, sent, 0, 0, cc⟩, .bool true]) (results_c2 (ad := ⟨w.heap.size, 0, none⟩) rfl rfl (load_C hres) rfl) rfl
    ⟨rfl, Rp.said (tt := (nx, false)) hp rfl HX.out.2.2.1 hgb HX.out.2.2.2.1 HX.out.2.2.2.2.1 (hp.row.same (hk b hlt (fun e => hgb e.symm))) (by dsimp only; rw [HX.out.2.2.2.2.2.2.1]; exact htr) rfl rfl rfl (fun k h1 _ h3 => hk k h1 h3), ⟨e1, e2, e3, e4, fun k h1 h2 => ⟨h2, hk k h1 (fun e => h2 (e ▸ HX.out.2.2.1))⟩⟩⟩
set_option maxRecDepth 100000 in
set_option maxHeartbeats 1600000 in
theorem say18_done (b : Nat) (ch : Int) (s : St) (F : List Nat) (x : Id) (t : ByteArray) (w : World) (h : Rep b ch s F w) (hst : s.state = 2) (hcur : s.cur = (x, t)) (hsnd : s.snd = some ((t.size : Int), false)) (hs : t.size ≤ 1000000) :
    Calls Tryd.prog 18 #[.pointer (some ⟨b, 0, none⟩)] w fun e w' => e = .returned (.tuple #[vC ⟨8, ⟨#[]⟩, x, 0, 0, 0, 0, ⟨#[]⟩⟩, .bool true]) ∧ Rep b ch { s with state := 3, snd := some ((t.size : Int), true) } F w' ∧ Kp F F w w' := by
  obtain ⟨vw, vo, q, h⟩ := h
  obtain ⟨g, rfl, hgb, hgF, hrow, hgw, hgo⟩ := h.some_ _ hsnd
  rw [hcur] at hrow
  have r2 := h.c2
  rw [hst] at r2
  have r36 := h.c36
  have hlt := h.row.lt
  have hglt := hrow.lt
  have hsay : sayT (x, t) ch (t.size : Int) false = (⟨8, ⟨#[]⟩, x, 0, 0, 0, 0, ⟨#[]⟩⟩, true, (t.size : Int), true) := by
    unfold sayT
    rw [if_neg (by simp), if_pos rfl]
  have hcall : Calls Tryd.prog 40 #[.pointer (some ⟨g, 0, none⟩)] (w.alloc (.cells (aC zC) 45)) (SayP g (x, t) ch (t.size : Int) false (w.alloc (.cells (aC zC) 45))) := say40_done g x t ch _ (hrow.keep (below_alloc _ _)) hs
  unfold SayP at hcall
  rw [hsay] at hcall
  have HX := Lib.hid (And.intro h (And.intro hgb (And.intro hgF (And.intro hgw (And.intro hgo (And.intro hst (And.intro hcur hcall)))))))
  clear h hrow hgF hgw hgo hcall hsay hs hcur hsnd hst
  have q0 : (2 : Int) ≠ 0 := by decide
  go_enter Tryd.func18, Tryd.ntmps18
  go_wp2_with (go_at_call 40; refine HX.out.2.2.2.2.2.2.2.mono ?_; rintro e w2 ⟨rfl, hr2, ho2⟩; have hres2 : Row w2 w.heap.size (cC zC) 45 := (Row.new w (cC zC) 45).same (ho2.out _ (by simp) (by omega)); have hro := hres2.rok (cC_length zC); have hb2 : w2.heap[b]? = w.heap[b]? := (ho2.out b (by simp; omega) (fun e => hgb e.symm)).trans (Below.heap_alloc w _ b hlt); have hbc := (World.cell?_of_block (a := ⟨b, 2, none⟩) hb2).trans r2; have hbf := (World.frozen?_of_block (a := ⟨b, 2, none⟩) hb2).trans (HX.out.1.row.fz 2); have hro2 : rowOk (w2.setCell ⟨b, 2, none⟩ (.int .i64 3)) w.heap.size 39 = true := (hres2.same (heap_set_other w2 b 2 _ _ (by omega))).rok (cC_length zC); have H2 := Lib.hid (And.intro hr2 (And.intro ho2 (And.intro hres2 hb2))); have hlt2 : w.heap.size < w2.heap.size := hres2.lt; have hblt : b < w2.heap.size := Nat.lt_trans hlt hlt2; clear hr2 ho2 hres2 hb2)
  have hp := HX.out.1
  have ho2 := H2.out.2.1
  have hs := ho2.size
  have hs1 : (w.alloc (.cells (aC zC) 45)).heap.size = w.heap.size + 1 := by simp
  have hsV : ((w2.setCell ⟨b, 2, none⟩ (.int .i64 3)).setRow w.heap.size (aC ⟨8, ⟨#[]⟩, x, 0, 0, 0, 0, ⟨#[]⟩⟩)).heap.size = w2.heap.size := by simp [World.setRow, World.setCell]
  have hkW : ∀ k, k < w2.heap.size → k ≠ b → k ≠ w.heap.size → (((w2.setCell ⟨b, 2, none⟩ (.int .i64 3)).setRow w.heap.size (aC ⟨8, ⟨#[]⟩, x, 0, 0, 0, 0, ⟨#[]⟩⟩)).alloc (.cells (aC ⟨8, ⟨#[]⟩, x, 0, 0, 0, 0, ⟨#[]⟩⟩) 45)).heap[k]? = w2.heap[k]? := fun k hk h1 h2 =>
    (Below.heap_alloc _ _ k (by omega)).trans ((heap_setRow_other _ _ k _ h2).trans (heap_set_other w2 b 2 _ k h1))
  have hk : ∀ k, k < w.heap.size → k ≠ b → k ≠ g → (((w2.setCell ⟨b, 2, none⟩ (.int .i64 3)).setRow w.heap.size (aC ⟨8, ⟨#[]⟩, x, 0, 0, 0, 0, ⟨#[]⟩⟩)).alloc (.cells (aC ⟨8, ⟨#[]⟩, x, 0, 0, 0, 0, ⟨#[]⟩⟩) 45)).heap[k]? = w.heap[k]? := fun k hk h1 h2 =>
    (hkW k (by omega) h1 (by omega)).trans ((ho2.out k (by omega) h2).trans (Below.heap_alloc w _ k hk))
  have hrowb : Row (((w2.setCell ⟨b, 2, none⟩ (.int .i64 3)).setRow w.heap.size (aC ⟨8, ⟨#[]⟩, x, 0, 0, 0, 0, ⟨#[]⟩⟩)).alloc (.cells (aC ⟨8, ⟨#[]⟩, x, 0, 0, 0, 0, ⟨#[]⟩⟩) 45)) b (cSn ch vw 3 s.cur (some ⟨g, 0, none⟩) vo) 91 := by
    have r0 := (hp.row.same H2.out.2.2.2).set 2 (.int .i64 3)
    rw [cSn_set2] at r0
    exact (r0.same (heap_setRow_other _ _ _ _ (by omega))).keep (below_alloc _ _)
  have hres : Row (((w2.setCell ⟨b, 2, none⟩ (.int .i64 3)).setRow w.heap.size (aC ⟨8, ⟨#[]⟩, x, 0, 0, 0, 0, ⟨#[]⟩⟩)).alloc (.cells (aC ⟨8, ⟨#[]⟩, x, 0, 0, 0, 0, ⟨#[]⟩⟩) 45)) w.heap.size (cC ⟨8, ⟨#[]⟩, x, 0, 0, 0, 0, ⟨#[]⟩⟩) 45 := (((H2.out.2.2.1).same (heap_set_other w2 b 2 _ _ (by omega))).setRow (ds := cC ⟨8, ⟨#[]⟩, x, 0, 0, 0, 0, ⟨#[]⟩⟩)).keep (below_alloc _ _)
  have htr : Row (((w2.setCell ⟨b, 2, none⟩ (.int .i64 3)).setRow w.heap.size (aC ⟨8, ⟨#[]⟩, x, 0, 0, 0, 0, ⟨#[]⟩⟩)).alloc (.cells (aC ⟨8, ⟨#[]⟩, x, 0, 0, 0, 0, ⟨#[]⟩⟩) 45)) g (cT (x, t) ch (t.size : Int) true) 120 := H2.out.1.same (hkW g (by omega) hgb (by omega))
  have hsW : w.heap.size ≤ (((w2.setCell ⟨b, 2, none⟩ (.int .i64 3)).setRow w.heap.size (aC ⟨8, ⟨#[]⟩, x, 0, 0, 0, 0, ⟨#[]⟩⟩)).alloc (.cells (aC ⟨8, ⟨#[]⟩, x, 0, 0, 0, 0, ⟨#[]⟩⟩) 45)).heap.size := by
    have : (((w2.setCell ⟨b, 2, none⟩ (.int .i64 3)).setRow w.heap.size (aC ⟨8, ⟨#[]⟩, x, 0, 0, 0, 0, ⟨#[]⟩⟩)).alloc (.cells (aC ⟨8, ⟨#[]⟩, x, 0, 0, 0, 0, ⟨#[]⟩⟩) 45)).heap.size = ((w2.setCell ⟨b, 2, none⟩ (.int .i64 3)).setRow w.heap.size (aC ⟨8, ⟨#[]⟩, x, 0, 0, 0, 0, ⟨#[]⟩⟩)).heap.size + 1 := by simp
    omega
  exact bodyPost_ret (v := .tuple #[vC ⟨8, ⟨#[]⟩, x, 0, 0, 0, 0, ⟨#[]⟩⟩, .bool true]) (results_c2 (ad := ⟨w.heap.size, 0, none⟩) rfl rfl (load_C hres) rfl) rfl
    ⟨rfl, Rp.said (s' := { s with state := 3, snd := some ((t.size : Int), true) }) (tt := ((t.size : Int), true)) hp rfl HX.out.2.2.1 hgb HX.out.2.2.2.1 HX.out.2.2.2.2.1 hrowb (by dsimp only; rw [HX.out.2.2.2.2.2.2.1]; exact htr) rfl rfl rfl hk, ⟨ho2.os, ho2.tape, ho2.output, hsW, fun k h1 h2 => ⟨h2, hk k h1 (fun e => h2 (e ▸ hp.bF)) (fun e => h2 (e ▸ HX.out.2.2.1))⟩⟩⟩
set_option maxRecDepth 100000 in
set_option maxHeartbeats 1600000 in
theorem say18_none (b : Nat) (ch : Int) (s : St) (F : List Nat) (w : World) (h : Rep b ch s F w) (hst : s.state ≠ 2) (hw : s.state = 0 → s.wait = []) :
    Calls Tryd.prog 18 #[.pointer (some ⟨b, 0, none⟩)] w fun e w' => e = .returned (.tuple #[vC zC, .bool false]) ∧ Rep b ch s F w' ∧ Kp F F w w' := by
  obtain ⟨vw, vo, q, h⟩ := h
  have r1 := h.c1
  have r2 := h.c2
  have hlt := h.row.lt
  obtain ⟨A, c, hvw, hc, hsl⟩ := h.ow.sl
  subst hvw
  generalize hn : s.wait.length = n at *
  obtain ⟨st, hs2⟩ : ∃ st, s.state = st := ⟨_, rfl⟩
  rw [hs2] at r2 hst hw
  have hn0 : st = 0 → (n : Int) = 0 := fun e => by rw [← hn, hw e]; rfl
  have HX := Lib.hid h
  clear h hsl hw hs2
  have hr := load_C (Row.new w (cC zC) 45)
  by_cases h0 : st = 0
  · have hn1 : ¬ (n : Int) > 0 := by have := hn0 h0; omega
    subst h0
    clear hn0 hst
    go_enter Tryd.func18, Tryd.ntmps18
    go_wp2
    exact bodyPost_ret (v := .tuple #[vC zC, .bool false]) (results_c2 (ad := ⟨w.heap.size, 0, none⟩) rfl rfl hr rfl) rfl ⟨rfl, ⟨_, _, _, HX.out.keep (below_alloc _ _)⟩, Kp.of_below (below_alloc _ _)⟩
  · clear hn0
    go_enter Tryd.func18, Tryd.ntmps18
    go_wp2
    exact bodyPost_ret (v := .tuple #[vC zC, .bool false]) (results_c2 (ad := ⟨w.heap.size, 0, none⟩) rfl rfl hr rfl) rfl ⟨rfl, ⟨_, _, _, HX.out.keep (below_alloc _ _)⟩, Kp.of_below (below_alloc _ _)⟩
end Go.Proofs.YtlelecnafdddhaaDoor
