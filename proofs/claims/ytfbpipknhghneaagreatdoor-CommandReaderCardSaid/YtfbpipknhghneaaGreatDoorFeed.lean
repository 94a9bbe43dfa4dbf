/- command.Reader: what Feed, Rest, Reset and Failed return and what they make of the reader. -/
import Derived.Test.YtfbpipknhghneaaGreatDoorDcA
namespace Go.Proofs.YtfbpipknhghneaaGreatDoor
open Go.RowKit
/-! ### commands out of bytes -/
def feedG : Nat → List UInt8 → List Cm → List Cm × List UInt8 × Int
  | 0, l, acc => (acc, l, 0)
  | f + 1, l, acc => if (decL l).2.2 = 0 then feedG f (l.drop (decL l).2.1) (acc ++ [(decL l).1]) else if (decL l).2.2 = 4 then (acc, l, 0) else (acc, [], (decL l).2.2)
def feedL (l : List UInt8) : List Cm × List UInt8 × Int := feedG (l.length + 1) l []
theorem dec_len (l : List UInt8) (h : (decL l).2.2 = 0) : 1 ≤ (decL l).2.1 ∧ (decL l).2.1 ≤ l.length := by
  by_cases hi : Lib.indexByte l 10 = -1
  · rw [dec_no l hi] at h
    split at h <;> cases h
  · obtain ⟨k, hk, hlt⟩ := index_nat l 10 hi
    have hu := unL_le (l.drop (k + 1))
    rw [List.length_drop] at hu
    unfold decL at h ⊢
    rw [hk, if_neg (by omega), Int.toNat_natCast] at h ⊢
    split at h
    · cases h
    rename_i n1
    rw [if_neg n1]
    split at h
    · cases h
    rename_i n2
    rw [if_neg n2]
    split at h
    · cases h
    rename_i n3
    rw [if_neg n3]
    split at h
    · rename_i n4
      rw [if_pos n4]
      exact ⟨by simp, by simp only; omega⟩
    rename_i n4
    rw [if_neg n4]
    split at h
    · exact absurd h (by assumption)
    rename_i n5
    rw [if_neg n5]
    split at h
    · exact absurd h (by assumption)
    rename_i n6
    rw [if_neg n6]
    exact ⟨by simp only; omega, by simp only; omega⟩
theorem feedG_ok {f : Nat} {l : List UInt8} {acc : List Cm} {c : Cm} {n : Nat} (h : decL l = (c, n, 0)) : feedG (f + 1) l acc = feedG f (l.drop n) (acc ++ [c]) := by
  rw [feedG, h, if_pos rfl]
theorem feedG_short {f : Nat} {l : List UInt8} {acc : List Cm} {c : Cm} {n : Nat} (h : decL l = (c, n, 4)) : feedG (f + 1) l acc = (acc, l, 0) := by
  rw [feedG, h, if_neg (by simp), if_pos rfl]
theorem feedG_err {f : Nat} {l : List UInt8} {acc : List Cm} {c : Cm} {n : Nat} {e : Int} (h : decL l = (c, n, e)) (h0 : e ≠ 0) (h4 : e ≠ 4) : feedG (f + 1) l acc = (acc, [], e) := by
  rw [feedG, h, if_neg h0, if_neg h4]
theorem feedG_fuel : ∀ (f g : Nat) (l : List UInt8) (acc : List Cm), l.length < f → l.length < g → feedG f l acc = feedG g l acc := by
  intro f
  induction f with
  | zero => intro g l acc h; omega
  | succ f ih =>
    intro g l acc h1 h2
    cases g with
    | zero => omega
    | succ g =>
      obtain ⟨⟨c, n, e⟩, hd⟩ : ∃ d, decL l = d := ⟨_, rfl⟩
      by_cases h0 : e = 0
      · subst h0
        have hl := dec_len l (by rw [hd])
        rw [hd] at hl
        dsimp only at hl
        rw [feedG_ok hd, feedG_ok hd]
        exact ih g _ _ (by rw [List.length_drop]; omega) (by rw [List.length_drop]; omega)
      · by_cases h4 : e = 4
        · subst h4
          rw [feedG_short hd, feedG_short hd]
        · rw [feedG_err hd h0 h4, feedG_err hd h0 h4]
theorem feedG_acc : ∀ (f : Nat) (l : List UInt8) (acc : List Cm), feedG f l acc = (acc ++ (feedG f l []).1, (feedG f l []).2.1, (feedG f l []).2.2) := by
  intro f
  induction f with
  | zero => intro l acc; simp [feedG]
  | succ f ih =>
    intro l acc
    obtain ⟨⟨c, n, e⟩, hd⟩ : ∃ d, decL l = d := ⟨_, rfl⟩
    by_cases h0 : e = 0
    · subst h0
      rw [feedG_ok hd, feedG_ok hd, ih _ (acc ++ [c]), ih _ ([] ++ [c])]
      simp
    · by_cases h4 : e = 4
      · subst h4
        rw [feedG_short hd, feedG_short hd]
        simp
      · rw [feedG_err hd h0 h4, feedG_err hd h0 h4]
        simp
theorem feedL_ok {l : List UInt8} {c : Cm} {n : Nat} (h : decL l = (c, n, 0)) : feedL l = (c :: (feedL (l.drop n)).1, (feedL (l.drop n)).2.1, (feedL (l.drop n)).2.2) := by
  have hl := dec_len l (by rw [h])
  rw [h] at hl
  unfold feedL
  rw [feedG_ok h, feedG_acc, feedG_fuel l.length ((l.drop n).length + 1) _ _ (by rw [List.length_drop]; simp only at hl; omega) (by omega)]
  rfl
theorem feedL_short {l : List UInt8} {c : Cm} {n : Nat} (h : decL l = (c, n, 4)) : feedL l = ([], l, 0) := feedG_short h
theorem feedL_err {l : List UInt8} {c : Cm} {n : Nat} {e : Int} (h : decL l = (c, n, e)) (h0 : e ≠ 0) (h4 : e ≠ 4) : feedL l = ([], [], e) := feedG_err h h0 h4
theorem bl_rest (s : ByteArray) (n : Nat) : bl (s.extract n s.size) = (bl s).drop n := by
  rw [bl_seg s n s.size (Nat.le_refl _)]
  unfold seg
  rw [List.take_of_length_le (by rw [List.length_drop, bl_length]; exact Nat.le_refl _)]
/-! ### slices of commands -/
theorem underCs : Tryz.prog.underlying 26 = some (.slice 39) := Tryz.underlying26
theorem rowCm : (Tryz.prog.info? 39).map (fun i => (i.zero.map (·.cells.size), i.size, i.bytes)) = some (some 39, 39, 104) := by kernel_rfl
def aCs (xs : List Cm) : Array Value := (xs.flatMap cC).toArray
@[go_sem ↓] theorem bsCs (n : Nat) (parts : Array (Nat × Value)) : Instr.buildSlice 26 n parts = bsA 26 n parts := rfl
theorem run_bsCs (w : World) (xs : List Cm) (h : xs.length ≤ 100) : (bsA 26 xs.length (xs.zipIdx.map fun x => (x.2, vC x.1)).toArray).run Tryz.prog w = .ok (.slice (some ⟨w.heap.size, 0, none⟩) xs.length xs.length) (w.alloc (.cells (aCs xs) 39)) := by
  obtain ⟨i, z, h1, h2, h3⟩ := info_of rowCm
  exact run_bsA w vC 26 39 i z 39 Tryz.underlying26 h1 h2 h3 (fun c => cC_length c) xs (by omega)
@[go_sem] theorem run_bsCs_1 (w : World) (c : Cm) : (bsA 26 1 #[(0, vC c)]).run Tryz.prog w = .ok (.slice (some ⟨w.heap.size, 0, none⟩) 1 1) (w.alloc (.cells (aCs [c]) 39)) := run_bsCs w [c] (by simp)
/-! ### the reader -/
def RdAt (r : Nat) (s : ByteArray) (e : Int) (w : World) : Prop := Row w r [.string s, .int .i64 e] 47
def rdSize (r : Nat) (w : World) : Nat := match w.cell? ⟨r, 0, none⟩ with | some (.string s) => s.size | _ => 0
theorem RdAt.size {r : Nat} {s : ByteArray} {e : Int} {w : World} (h : RdAt r s e w) : rdSize r w = s.size := by
  unfold rdSize
  rw [show w.cell? ⟨r, 0, none⟩ = some (.string s) from Row.cell h 0]
theorem One.grown {g : Nat} {w w' : World} (h : One g w w') : w.grownBy w' (some g) := ⟨h.os, h.tape, h.output, h.size, fun k hk hn => h.out k hk (fun e => hn (by rw [e]))⟩
theorem One.grew {g : Nat} {w wr w2 : World} {v : Value} {α : Type} {e : TypeId} {s : Nat} {enc : α → List Value} {xs : List α} (h : One g w wr) (ho : Own wr w.heap.size e s enc v xs) (hg : wr.grownBy w2 v.ownBlock) : One g w w2 :=
  ⟨hg.os.trans h.os, hg.tape.trans h.tape, hg.output.trans h.output, Nat.le_trans h.size hg.size, fun k hk hk2 => (hg.block k (Nat.lt_of_lt_of_le hk h.size) (fun e => by have := (Own.lt ho k e.symm).1; omega)).trans (h.out k hk hk2)⟩
theorem Own.one {g : Nat} {w w' : World} {v : Value} {α : Type} {base : Nat} {e : TypeId} {s : Nat} {enc : α → List Value} {xs : List α} (ho : Own w base e s enc v xs) (h : One g w w') (hg : g < base) : Own w' base e s enc v xs :=
  World.ownsRow.kept ho h.grown (by
    rcases hv : v.ownBlock with _ | k
    · exact Or.inl rfl
    · refine Or.inr (fun e => ?_)
      have := (Own.lt ho k hv).1
      have := Option.some.inj e
      omega)
theorem One.toBelow {g : Nat} {w w' : World} {B : Nat} (w0 : World) (hb : Below B w0 w) (hB : B ≤ w0.heap.size) (hg : B ≤ g) (h : One g w w') : Below B w0 w' :=
  Below.trans hb (h.below hg (Nat.le_trans hB hb.size))
set_option maxRecDepth 100000 in
set_option maxHeartbeats 3200000 in
theorem feed25 (s : ByteArray) (w w0 : World) (r : Nat) (wt : ByteArray) (hb0 : Below w0.heap.size w0 w) (hr : RdAt r wt 0 w) (hr0 : w0.heap.size ≤ r) (hL : Laid w0) (hs : wt.size + s.size ≤ 1000000) :
    Calls Tryz.prog 6 #[.pointer (some ⟨r, 0, none⟩), .string s] w fun e w' => ∃ (v : Value) (cs : List Cm) (wt' : ByteArray) (fl : Int),
      e = .returned (.tuple #[v, .int .i64 fl]) ∧ feedL (bl wt ++ bl s) = (cs, bl wt', fl) ∧ Own w' w.heap.size 39 39 cC v cs ∧ RdAt r wt' fl w' ∧ One r w w' := by
  have hrl := Row.lt hr
  have c0 : w.cell? ⟨r, 0, none⟩ = some (.string wt) := Row.cell hr 0
  have c1 : w.cell? ⟨r, 1, none⟩ = some (.int .i64 0) := Row.cell hr 1
  have f0 := Row.fz hr 0
  have HR := Lib.hid hr
  have HL := Lib.hid (show ∀ wr, One r w wr → Laid wr from fun wr h => hL.keep (One.toBelow w0 hb0 (Nat.le_refl _) hr0 h))
  have hss : (wt ++ s).size = wt.size + s.size := by simp [ByteArray.size_append]
  have hbb : bl (wt ++ s) = bl wt ++ bl s := by simp [bl]
  clear hL hb0 hr
  go_enter Tryz.func6, Tryz.ntmps6
  go_wp2
  go_loopw [6] (fun v wr => ∃ (cs : List Cm) (ct : ByteArray) (f : Nat), Own wr w.heap.size 39 39 cC v cs ∧ RdAt r ct 0 wr ∧ One r w wr ∧ feedG f (bl ct) cs = feedL (bl wt ++ bl s) ∧ ct.size < f ∧ cs.length + ct.size ≤ 1000000) (fun _ wr => rdSize r wr)
  case atStart => exact ⟨[], wt ++ s, (wt ++ s).size + 1, Own.nil _ _ _ _ _, Row.set HR.out 0 _, One.set 0 _, by unfold feedL; rw [← hbb, bl_length], by omega, by simp only [List.length_nil]; omega⟩
  case round =>
    obtain ⟨cs, ct, f, hO, hR, h1, hF, hlt, hsz⟩ := hrel
    obtain ⟨f, rfl⟩ : ∃ g, f = g + 1 := ⟨f - 1, by omega⟩
    have d0 : wr.cell? ⟨r, 0, none⟩ = some (.string ct) := Row.cell hR 0
    have g0 := Row.fz hR 0
    have g1 := Row.fz hR 1
    have hrs := RdAt.size hR
    obtain ⟨A8, c8, rfl, hc8, hs8⟩ := Own.sl hO
    have hbl := bl_length ct
    have HW := Lib.hid (And.intro hO (And.intro hR h1))
    obtain ⟨⟨dc, dn, de⟩, hd⟩ : ∃ d, decL (bl ct) = d := ⟨_, rfl⟩
    have H12 := Lib.hid (decode12 ct wr (by omega) (HL.out wr h1))
    rw [hd] at H12
    dsimp only at H12
    clear hO hR h1 hs8
    have hwr : w.heap.size ≤ wr.heap.size := HW.out.2.2.size
    by_cases h0 : de = 0
    · subst h0
      have hl := dec_len (bl ct) (by rw [hd])
      rw [hd, bl_length] at hl
      dsimp only at hl
      rw [feedG_ok hd] at hF
      have HF := Lib.hid hF
      clear hF hd
      have q1 : (0 : Int) ≤ (dn : Int) := by omega
      have q2 : (dn : Int) ≤ (ct.size : Int) := by omega
      go_wp2_with (first
        | (go_at_call 13; refine H12.out.mono ?_; rintro e w2 ⟨rfl, hb2⟩; obtain ⟨g3, hg3⟩ : ∃ g3, w2.heap.size = g3 := ⟨_, rfl⟩; obtain ⟨W3, hW3⟩ : ∃ W3, w2.alloc (.cells (aC dc) 39) = W3 := ⟨_, rfl⟩; have H3 := Lib.hid (And.intro (show Row W3 g3 (cC dc) 39 from (by rw [← hW3, ← hg3]; exact Row.new w2 (cC dc) 39)) (show Below wr.heap.size wr W3 from (by rw [← hW3]; exact Below.step hb2 (below_alloc _ _)))); clear hb2; have rr1 := (Row.okw H3.out.1 (cC_length dc)).1; have rr2 := (show rdA W3 ⟨g3, 0, none⟩ 39 = vC dc from (Row.okw H3.out.1 (cC_length dc)).2))
        | (at_builtin; refine wpList_append_sl _ rfl (.tmp 50) (.tmp 52) 26 rfl w.heap.size 39 39 104 cC underCs rowCm (by decide) cC_length cC_one (.slice A8 cs.length c8) cs rfl ((Own.keep HW.out.1 H3.out.2).keep (below_alloc W3 (.cells (aCs [dc]) 39))) (some ⟨W3.heap.size, 0, none⟩) 1 1 [dc] rfl rfl (fun _ => ⟨_, rfl, at_new W3 ([dc].flatMap cC) 39 _ (by simp)⟩) (by omega) (by omega) (Nat.le_trans hwr (Nat.le_trans H3.out.2.size (below_alloc W3 (.cells (aCs [dc]) 39)).size)) ?_))
      intro v' w' hO' hg'
      have h1' : One r w w' := One.grew (One.trans HW.out.2.2 (One.of_below (Below.step H3.out.2 (below_alloc W3 (.cells (aCs [dc]) 39))))) ((Own.keep HW.out.1 H3.out.2).keep (below_alloc W3 (.cells (aCs [dc]) 39))) hg'
      have hR' : RdAt r ct 0 w' := Row.same (Row.keep (Row.keep HW.out.2.1 H3.out.2) (below_alloc W3 (.cells (aCs [dc]) 39))) (hg'.block r (Nat.lt_of_lt_of_le hrl (Nat.le_trans hwr (Nat.le_trans H3.out.2.size (below_alloc W3 (.cells (aCs [dc]) 39)).size))) (fun e => by have := (Own.lt ((Own.keep HW.out.1 H3.out.2).keep (below_alloc W3 (.cells (aCs [dc]) 39))) r e.symm).1; omega))
      have k0 : w'.cell? ⟨r, 0, none⟩ = some (.string ct) := Row.cell hR' 0
      have k1 := Row.fz hR' 0
      have HX := Lib.hid (And.intro hO' (And.intro hR' h1'))
      clear hO' hg' h1' hR' rr1 rr2 hW3
      go_wp2
      go_roundw
      case rel => exact ⟨cs ++ [dc], ct.extract dn ct.size, f, Own.one HX.out.1 (One.set 0 _) hrl, Row.set HX.out.2.1 0 _, One.trans HX.out.2.2 (One.set 0 _), by rw [bl_rest]; exact HF.out, by rw [ByteArray.size_extract]; omega, by rw [ByteArray.size_extract, List.length_append, List.length_singleton]; omega⟩
      case measure =>
        rw [hrs, RdAt.size (Row.set HX.out.2.1 0 _)]
        rw [ByteArray.size_extract]
        omega
    · by_cases h4 : de = 4
      · subst h4
        rw [feedG_short hd] at hF
        have HF := Lib.hid hF
        clear hF hd
        go_wp2_with (go_at_call 13; refine H12.out.mono ?_; rintro e w2 ⟨rfl, hb2⟩; have H3 := Lib.hid hb2; clear hb2)
        go_ret2
        exact ⟨_, cs, ct, 0, rfl, HF.out.symm, (Own.keep HW.out.1 (Below.step H3.out (below_alloc _ _))), Row.keep HW.out.2.1 (Below.step H3.out (below_alloc _ _)), One.trans HW.out.2.2 (One.of_below (Below.step H3.out (below_alloc _ _)))⟩
      · rw [feedG_err hd h0 h4] at hF
        have HF := Lib.hid hF
        have q1 : (de == 0) = false := beq_eq_false_iff_ne.2 h0
        have q2 : (de == 4) = false := beq_eq_false_iff_ne.2 h4
        clear hF hd h0 h4
        go_wp2_with (go_at_call 13; refine H12.out.mono ?_; rintro e w2 ⟨rfl, hb2⟩; obtain ⟨W3, hW3⟩ : ∃ W3, w2.alloc (.cells (aC dc) 39) = W3 := ⟨_, rfl⟩; have H3 := Lib.hid (show Below wr.heap.size wr W3 from (by rw [← hW3]; exact Below.step hb2 (below_alloc _ _))); have k0 := Row.fz (Row.keep HW.out.2.1 H3.out) 0; have k1 := Row.fz (Row.keep HW.out.2.1 H3.out) 1; have k2 := Row.cell (Row.keep HW.out.2.1 H3.out) 0; have k3 := Row.cell (Row.keep HW.out.2.1 H3.out) 1; clear hb2)
        go_ret2
        have HO := Lib.hid (One.trans (One.set (g := r) (w := W3) 0 (.string ⟨#[]⟩)) (One.set 1 (.int .i64 de)))
        exact ⟨_, cs, ⟨#[]⟩, de, rfl, HF.out.symm, Own.one (Own.keep HW.out.1 H3.out) HO.out hrl, Row.set (Row.set (Row.keep HW.out.2.1 H3.out) 0 _) 1 _, One.trans HW.out.2.2 (One.trans (One.of_below H3.out) HO.out)⟩
set_option maxRecDepth 100000 in
/-- Feed of a reader that failed before. -/
theorem feed25_failed (s : ByteArray) (w : World) (r : Nat) (wt : ByteArray) (n : Int) (hn : n ≠ 0) (hr : RdAt r wt n w) :
    Calls Tryz.prog 6 #[.pointer (some ⟨r, 0, none⟩), .string s] w fun e w' => e = .returned (.tuple #[.slice none 0 0, .int .i64 n]) ∧ Below w.heap.size w w' := by
  have c1 : w.cell? ⟨r, 1, none⟩ = some (.int .i64 n) := Row.cell hr 1
  have q1 : (n == 0) = false := beq_eq_false_iff_ne.2 hn
  go_enter Tryz.func6, Tryz.ntmps6
  go_wp2
  go_quiet (fail)
  go_wp2
  go_ret2
  exact ⟨rfl, below_drewN _ _⟩
set_option maxRecDepth 100000 in
theorem feed25_nil (s : ByteArray) (w : World) : Calls Tryz.prog 6 #[.pointer none, .string s] w fun e w' => e = .returned (.tuple #[.slice none 0 0, .int .i64 1]) ∧ Below w.heap.size w w' := by
  go_enter Tryz.func6, Tryz.ntmps6
  go_wp2
  go_ret2
  exact ⟨rfl, Below.refl _ _⟩
theorem rest26 (w : World) (r : Nat) (wt : ByteArray) (n : Int) (hr : RdAt r wt n w) : Calls Tryz.prog 8 #[.pointer (some ⟨r, 0, none⟩)] w fun e w' => e = .returned (.int .i64 wt.size) ∧ Below w.heap.size w w' := by
  have c0 : w.cell? ⟨r, 0, none⟩ = some (.string wt) := Row.cell hr 0
  go_enter Tryz.func8, Tryz.ntmps8
  go_wp2
  go_ret
  exact ⟨rfl, Below.refl _ _⟩
theorem rest26_nil (w : World) : Calls Tryz.prog 8 #[.pointer none] w fun e w' => e = .returned (.int .i64 0) ∧ Below w.heap.size w w' := by
  go_enter Tryz.func8, Tryz.ntmps8
  go_wp2
  go_ret
  exact ⟨rfl, Below.refl _ _⟩
theorem failed28 (w : World) (r : Nat) (wt : ByteArray) (n : Int) (hr : RdAt r wt n w) : Calls Tryz.prog 7 #[.pointer (some ⟨r, 0, none⟩)] w fun e w' => e = .returned (.int .i64 n) ∧ Below w.heap.size w w' := by
  have c1 : w.cell? ⟨r, 1, none⟩ = some (.int .i64 n) := Row.cell hr 1
  go_enter Tryz.func7, Tryz.ntmps7
  go_wp2
  go_ret
  exact ⟨rfl, Below.refl _ _⟩
theorem failed28_nil (w : World) : Calls Tryz.prog 7 #[.pointer none] w fun e w' => e = .returned (.int .i64 1) ∧ Below w.heap.size w w' := by
  go_enter Tryz.func7, Tryz.ntmps7
  go_wp2
  go_ret
  exact ⟨rfl, Below.refl _ _⟩
theorem reset27_nil (w : World) : Calls Tryz.prog 11 #[.pointer none] w fun e w' => e = .returned (.tuple #[]) ∧ Below w.heap.size w w' := by
  go_enter Tryz.func11, Tryz.ntmps11
  go_wp2
  go_end0
  exact ⟨rfl, Below.refl _ _⟩
theorem reset27 (w : World) (r : Nat) (wt : ByteArray) (n : Int) (hr : RdAt r wt n w) : Calls Tryz.prog 11 #[.pointer (some ⟨r, 0, none⟩)] w fun e w' => e = .returned (.tuple #[]) ∧ RdAt r ⟨#[]⟩ 0 w' ∧ One r w w' := by
  have c0 : w.cell? ⟨r, 0, none⟩ = some (.string wt) := Row.cell hr 0
  have c1 : w.cell? ⟨r, 1, none⟩ = some (.int .i64 n) := Row.cell hr 1
  have f0 := Row.fz hr 0
  have f1 := Row.fz hr 1
  have HR := Lib.hid hr
  clear hr
  go_enter Tryz.func11, Tryz.ntmps11
  go_wp2
  go_end0
  exact ⟨rfl, Row.set (Row.set HR.out 0 _) 1 _, One.trans (One.set 0 _) (One.set 1 _)⟩
end Go.Proofs.YtfbpipknhghneaaGreatDoor
