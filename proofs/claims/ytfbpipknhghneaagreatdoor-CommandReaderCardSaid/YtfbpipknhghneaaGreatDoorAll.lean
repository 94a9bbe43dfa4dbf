/- The reference's All, and sameAll, NewReader. -/
import Derived.Test.YtfbpipknhghneaaGreatDoorRdec
import Derived.Test.YtfbpipknhghneaaGreatDoorPcs
import Derived.Test.YtfbpipknhghneaaGreatDoorStb
import Derived.Test.YtfbpipknhghneaaGreatDoorLaw304
namespace Go.Proofs.YtfbpipknhghneaaGreatDoor
open Go.RowKit
theorem underRs : Tryz.prog.underlying 32 = some (.slice 49) := Tryz.underlying32
theorem rowRm : (Tryz.prog.info? 49).map (fun i => (i.zero.map (·.cells.size), i.size, i.bytes)) = some (some 39, 39, 104) := by kernel_rfl
@[go_sem ↓] theorem bsRs (n : Nat) (parts : Array (Nat × Value)) : Instr.buildSlice 32 n parts = bsA 32 n parts := rfl
theorem run_bsRs (w : World) (xs : List Cm) (h : xs.length ≤ 100) : (bsA 32 xs.length (xs.zipIdx.map fun x => (x.2, vC x.1)).toArray).run Tryz.prog w = .ok (.slice (some ⟨w.heap.size, 0, none⟩) xs.length xs.length) (w.alloc (.cells (aCs xs) 49)) := by
  obtain ⟨i, z, h1, h2, h3⟩ := info_of rowRm
  exact run_bsA w vC 32 49 i z 39 Tryz.underlying32 h1 h2 h3 (fun c => cC_length c) xs (by omega)
@[go_sem] theorem run_bsRs_1 (w : World) (c : Cm) : (bsA 32 1 #[(0, vC c)]).run Tryz.prog w = .ok (.slice (some ⟨w.heap.size, 0, none⟩) 1 1) (w.alloc (.cells (aCs [c]) 49)) := run_bsRs w [c] (by simp)
theorem newReader5 (w : World) : Calls Tryz.prog 5 #[] w fun e w' => e = .returned (.pointer (some ⟨w.heap.size, 0, none⟩)) ∧ RdAt w.heap.size ⟨#[]⟩ 0 w' ∧ Below w.heap.size w w' := by
  go_enter Tryz.func5, Tryz.ntmps5
  go_wp2
  go_ret
  exact ⟨rfl, Row.new w _ _, below_alloc _ _⟩
def strZ : Value → Nat
  | .string s => s.size
  | _ => 0
set_option maxRecDepth 100000 in
set_option maxHeartbeats 3200000 in
theorem refAll9 (s : ByteArray) (w : World) (hs : s.size ≤ 1000000) :
    Calls Tryz.prog 9 #[.string s] w fun e w' => ∃ (A : Option Addr) (c : Nat) (cs : List Cm) (rest : List UInt8) (fl : Int),
      e = .returned (.tuple #[.slice A cs.length c, .int .i64 rest.length, .int .i64 fl]) ∧ feedL (bl s) = (cs, rest, fl) ∧ Sl w' cC A cs ∧ Below w.heap.size w w' := by
  go_enter Tryz.func9, Tryz.ntmps9
  go_wp2
  go_loopw [0, 5] (fun sv v wr => ∃ (cs : List Cm) (ct : ByteArray) (f : Nat), sv = .string ct ∧ Own wr w.heap.size 49 39 cC v cs ∧ Below w.heap.size w wr ∧ feedG f (bl ct) cs = feedL (bl s) ∧ ct.size < f ∧ cs.length + ct.size ≤ 1000000) (fun sv _ _ => strZ sv)
  case atStart => exact ⟨[], s, s.size + 1, rfl, Own.nil _ _ _ _ _, Below.refl _ _, by unfold feedL; rw [bl_length], by omega, by simp only [List.length_nil]; omega⟩
  case round =>
    obtain ⟨cs, ct, f, rfl, hO, h1, hF, hlt, hsz⟩ := hrel
    obtain ⟨f, rfl⟩ : ∃ g, f = g + 1 := ⟨f - 1, by omega⟩
    obtain ⟨A8, c8, rfl, hc8, hs8⟩ := Own.sl hO
    have hbl := bl_length ct
    have HW := Lib.hid (And.intro hO h1)
    obtain ⟨⟨dc, dn, de⟩, hd⟩ : ∃ d, decL (bl ct) = d := ⟨_, rfl⟩
    have H12 := Lib.hid (refDecode13 ct wr (by omega))
    unfold RdecP at H12
    rw [hd] at H12
    dsimp only at H12
    clear hO h1 hs8
    have hwr : w.heap.size ≤ wr.heap.size := HW.out.2.size
    by_cases h0 : de = 0
    · subst h0
      have hl := dec_len (bl ct) (by rw [hd])
      rw [hd, bl_length] at hl
      dsimp only at hl
      rw [feedG_ok hd] at hF
      have HF := Lib.hid hF
      clear hF hd
      have q1 : (0 : Int) ≤ (dn : Int) := by omega
      have q2 : (dn : Int) ≤ (ct.size : Int) := by omega
      go_wp2_with (first
        | (go_at_call 15; refine H12.out.mono ?_; rintro e w2 ⟨rfl, hb2⟩; obtain ⟨g3, hg3⟩ : ∃ g3, w2.heap.size = g3 := ⟨_, rfl⟩; obtain ⟨W3, hW3⟩ : ∃ W3, w2.alloc (.cells (aC dc) 49) = W3 := ⟨_, rfl⟩; have H3 := Lib.hid (And.intro (show Row W3 g3 (cC dc) 49 from (by rw [← hW3, ← hg3]; exact Row.new w2 (cC dc) 49)) (show Below wr.heap.size wr W3 from (by rw [← hW3]; exact Below.step hb2 (below_alloc _ _)))); clear hb2; have rr1 := (Row.okw H3.out.1 (cC_length dc)).1; have rr2 := (show rdA W3 ⟨g3, 0, none⟩ 39 = vC dc from (Row.okw H3.out.1 (cC_length dc)).2))
        | (at_builtin; refine wpList_append_sl _ rfl (.tmp 24) (.tmp 26) 32 rfl w.heap.size 49 39 104 cC underRs rowRm (by decide) cC_length cC_one (.slice A8 cs.length c8) cs rfl ((Own.keep HW.out.1 H3.out.2).keep (below_alloc W3 (.cells (aCs [dc]) 49))) (some ⟨W3.heap.size, 0, none⟩) 1 1 [dc] rfl rfl (fun _ => ⟨_, rfl, at_new W3 ([dc].flatMap cC) 49 _ (by simp)⟩) (by omega) (by omega) (Nat.le_trans hwr (Nat.le_trans H3.out.2.size (below_alloc W3 (.cells (aCs [dc]) 49)).size)) ?_))
      intro v' w' hO' hg'
      have h1' : Below w.heap.size w w' := Own.grew ((Own.keep HW.out.1 H3.out.2).keep (below_alloc W3 (.cells (aCs [dc]) 49))) hg' (Below.step HW.out.2 (Below.step H3.out.2 (below_alloc W3 (.cells (aCs [dc]) 49)))) (Nat.le_refl _) (Nat.le_trans hwr (Nat.le_trans H3.out.2.size (below_alloc W3 (.cells (aCs [dc]) 49)).size))
      have HX := Lib.hid (And.intro hO' h1')
      clear hO' hg' h1' rr1 rr2 hW3
      go_wp2
      go_roundw
      case rel => exact ⟨cs ++ [dc], ct.extract dn ct.size, f, rfl, HX.out.1, HX.out.2, by rw [bl_rest]; exact HF.out, by rw [ByteArray.size_extract]; omega, by rw [ByteArray.size_extract, List.length_append, List.length_singleton]; omega⟩
      case measure =>
        simp only [strZ, ByteArray.size_extract]
        omega
    · by_cases h4 : de = 4
      · subst h4
        rw [feedG_short hd] at hF
        have HF := Lib.hid hF
        clear hF hd
        go_wp2_with (go_at_call 15; refine H12.out.mono ?_; rintro e w2 ⟨rfl, hb2⟩; have H3 := Lib.hid hb2; clear hb2)
        go_ret3
        exact ⟨A8, c8, cs, bl ct, 0, by rw [bl_length]; rfl, HF.out.symm, Sl.keep (by obtain ⟨A, c, e, _, h⟩ := Own.sl HW.out.1; cases e; exact h) (Below.step H3.out (below_alloc _ _)), Below.step HW.out.2 (Below.step H3.out (below_alloc _ _))⟩
      · rw [feedG_err hd h0 h4] at hF
        have HF := Lib.hid hF
        have q1 : (de == 0) = false := beq_eq_false_iff_ne.2 h0
        have q2 : (de == 4) = false := beq_eq_false_iff_ne.2 h4
        clear hF hd h0 h4
        go_wp2_with (go_at_call 15; refine H12.out.mono ?_; rintro e w2 ⟨rfl, hb2⟩; have H3 := Lib.hid hb2; clear hb2)
        go_ret3
        exact ⟨A8, c8, cs, [], de, rfl, HF.out.symm, Sl.keep (by obtain ⟨A, c, e, _, h⟩ := Own.sl HW.out.1; cases e; exact h) (Below.step H3.out (below_alloc _ _)), Below.step HW.out.2 (Below.step H3.out (below_alloc _ _))⟩
end Go.Proofs.YtfbpipknhghneaaGreatDoor
