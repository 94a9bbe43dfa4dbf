/- The types of the commands at this translation: identities, commands, and the small structs; loaded, stored, boxed, built as whole values. command: the fields that are present. -/
import Derived.Test.YtibelollgdnidaaGreatDoorMRow
import Derived.Test.YtibelollgdnidaaGreatDoorProg
import Derived.Deep.CutBlock
import Derived.BigQuiet
namespace Go.Proofs.YtibelollgdnidaaGreatDoor
section
open Go.RowKit
theorem cons_of {n : Nat} (l : List UInt8) (h : l.length = n + 1) : ∃ a r, l = a :: r ∧ r.length = n := by
 cases l with
 | nil => cases h
 | cons a r => exact ⟨a, r, rfl, by simpa using h⟩
theorem Id.cases {P : Id → Prop} (h : ∀ a0 a1 a2 a3 a4 a5 a6 a7 a8 a9 a10 a11 a12 a13 a14 a15 a16 a17 a18 a19 a20 a21 a22 a23 a24 a25 a26 a27 a28 a29 a30 a31 : UInt8, P ⟨[a0, a1, a2, a3, a4, a5, a6, a7, a8, a9, a10, a11, a12, a13, a14, a15, a16, a17, a18, a19, a20, a21, a22, a23, a24, a25, a26, a27, a28, a29, a30, a31], rfl⟩) (x : Id) : P x := by
 obtain ⟨l0, hl⟩ := x
 obtain ⟨a0, l1, rfl, h0⟩ := cons_of l0 hl
 obtain ⟨a1, l2, rfl, h1⟩ := cons_of l1 h0
 obtain ⟨a2, l3, rfl, h2⟩ := cons_of l2 h1
 obtain ⟨a3, l4, rfl, h3⟩ := cons_of l3 h2
 obtain ⟨a4, l5, rfl, h4⟩ := cons_of l4 h3
 obtain ⟨a5, l6, rfl, h5⟩ := cons_of l5 h4
 obtain ⟨a6, l7, rfl, h6⟩ := cons_of l6 h5
 obtain ⟨a7, l8, rfl, h7⟩ := cons_of l7 h6
 obtain ⟨a8, l9, rfl, h8⟩ := cons_of l8 h7
 obtain ⟨a9, l10, rfl, h9⟩ := cons_of l9 h8
 obtain ⟨a10, l11, rfl, h10⟩ := cons_of l10 h9
 obtain ⟨a11, l12, rfl, h11⟩ := cons_of l11 h10
 obtain ⟨a12, l13, rfl, h12⟩ := cons_of l12 h11
 obtain ⟨a13, l14, rfl, h13⟩ := cons_of l13 h12
 obtain ⟨a14, l15, rfl, h14⟩ := cons_of l14 h13
 obtain ⟨a15, l16, rfl, h15⟩ := cons_of l15 h14
 obtain ⟨a16, l17, rfl, h16⟩ := cons_of l16 h15
 obtain ⟨a17, l18, rfl, h17⟩ := cons_of l17 h16
 obtain ⟨a18, l19, rfl, h18⟩ := cons_of l18 h17
 obtain ⟨a19, l20, rfl, h19⟩ := cons_of l19 h18
 obtain ⟨a20, l21, rfl, h20⟩ := cons_of l20 h19
 obtain ⟨a21, l22, rfl, h21⟩ := cons_of l21 h20
 obtain ⟨a22, l23, rfl, h22⟩ := cons_of l22 h21
 obtain ⟨a23, l24, rfl, h23⟩ := cons_of l23 h22
 obtain ⟨a24, l25, rfl, h24⟩ := cons_of l24 h23
 obtain ⟨a25, l26, rfl, h25⟩ := cons_of l25 h24
 obtain ⟨a26, l27, rfl, h26⟩ := cons_of l26 h25
 obtain ⟨a27, l28, rfl, h27⟩ := cons_of l27 h26
 obtain ⟨a28, l29, rfl, h28⟩ := cons_of l28 h27
 obtain ⟨a29, l30, rfl, h29⟩ := cons_of l29 h28
 obtain ⟨a30, l31, rfl, h30⟩ := cons_of l30 h29
 obtain ⟨a31, l32, rfl, h31⟩ := cons_of l31 h30
 obtain rfl : l32 = [] := List.eq_nil_of_length_eq_zero h31
 exact h a0 a1 a2 a3 a4 a5 a6 a7 a8 a9 a10 a11 a12 a13 a14 a15 a16 a17 a18 a19 a20 a21 a22 a23 a24 a25 a26 a27 a28 a29 a30 a31
def zI : Id := ⟨List.replicate 32 0, by simp⟩
structure Cm where
 verb : Int
 name : ByteArray
 id : Id
 size : Int
 from_ : Int
 count : Int
 code : Int
 text : ByteArray
def cC (c : Cm) : List Value := .int .i64 c.verb :: .string c.name :: (cI c.id ++ [.int .i64 c.size, .int .i64 c.from_, .int .i64 c.count, .int .i64 c.code, .string c.text])
def vC (c : Cm) : Value := .agg (cC c).toArray
def aI (x : Id) : Array Value := (cI x).toArray
def aC (c : Cm) : Array Value := (cC c).toArray
theorem cC_length (c : Cm) : (cC c).length = 39 := by simp [cC, cI_length]
abbrev Pr := Bool × Int
abbrev Fm := ByteArray × Int × Int
abbrev Rg := Int × Int × Int × Int
abbrev Wd := Int × ByteArray
def cP (x : Pr) : List Value := [.bool x.1, .int .i64 x.2]
def cF (x : Fm) : List Value := [.string x.1, .int .i64 x.2.1, .int .i64 x.2.2]
def cG (x : Rg) : List Value := [.int .i64 x.1, .int .i64 x.2.1, .int .i64 x.2.2.1, .int .i64 x.2.2.2]
def cW (x : Wd) : List Value := [.int .i64 x.1, .string x.2]
def aP (x : Pr) : Array Value := (cP x).toArray
def aF (x : Fm) : Array Value := (cF x).toArray
def aG (x : Rg) : Array Value := (cG x).toArray
def aW (x : Wd) : Array Value := (cW x).toArray
section
variable (w : World) (v : Value)
theorem size34 : (Tryz.prog.info? 34).map (·.size) = some 32 := by kernel_rfl
@[go_sem ↓] theorem load34 : Instr.loadAt 34 v = ldA 34 v := rfl
@[go_sem] theorem run_ld34 (ad : Addr) : (ldA 34 (.pointer (some ad))).run Tryz.prog w = if okA w ad 32 = true then .ok (rdA w ad 32) w else (ldB 34 (.pointer (some ad))).run Tryz.prog w := run_ldA_if w 34 ad 32 _ Tryz.underlying34 rfl size34
@[go_sem ↓] theorem blt34 (parts : Array (Nat × Value)) : Instr.build 34 parts = blA 34 parts := rfl
@[go_sem ↓] theorem box34 : Instr.box 34 v = bxA 34 v := rfl
@[go_sem] theorem run_bx34 (x : Id) : (bxA 34 (vI x)).run Tryz.prog w = .ok (.pointer (some ⟨w.heap.size, 0, none⟩)) (w.alloc (.cells (aI x) 34)) := run_bxA w 34 _
@[go_sem ↓] theorem alloc34 (h : Bool) : Instr.alloc 34 h v = alA 34 h v := rfl
@[go_sem ↓] theorem store34 (u : Value) : Instr.storeAt 34 v u = stA 34 v u := rfl
@[go_sem] theorem run_st34 (g : Nat) (x : Id) : (stA 34 (.pointer (some ⟨g, 0, none⟩)) (vI x)).run Tryz.prog w = if rowOk w g 32 = true then .ok () (w.setRow g (aI x)) else (stB 34 (.pointer (some ⟨g, 0, none⟩)) (vI x)).run Tryz.prog w := run_stA_if w 34 g _ 32 size34 (by simp [cI_length]) (by simpa using cI_one x)
@[go_sem] theorem run_al34 : (alA 34 true (.tuple #[])).run Tryz.prog w = .ok (.pointer (some ⟨w.heap.size, 0, none⟩)) (w.alloc (.cells (aI zI) 34)) := by kernel_rfl
@[go_sem] theorem bl34_0 : (blA 34 #[]).run Tryz.prog w = .ok (vI zI) w := by kernel_rfl
theorem size33 : (Tryz.prog.info? 33).map (·.size) = some 32 := by kernel_rfl
@[go_sem ↓] theorem load33 : Instr.loadAt 33 v = ldA 33 v := rfl
@[go_sem] theorem run_ld33 (ad : Addr) : (ldA 33 (.pointer (some ad))).run Tryz.prog w = if okA w ad 32 = true then .ok (rdA w ad 32) w else (ldB 33 (.pointer (some ad))).run Tryz.prog w := run_ldA_if w 33 ad 32 _ Tryz.underlying33 rfl size33
@[go_sem ↓] theorem blt33 (parts : Array (Nat × Value)) : Instr.build 33 parts = blA 33 parts := rfl
@[go_sem ↓] theorem box33 : Instr.box 33 v = bxA 33 v := rfl
@[go_sem] theorem run_bx33 (x : Id) : (bxA 33 (vI x)).run Tryz.prog w = .ok (.pointer (some ⟨w.heap.size, 0, none⟩)) (w.alloc (.cells (aI x) 33)) := run_bxA w 33 _
@[go_sem ↓] theorem alloc33 (h : Bool) : Instr.alloc 33 h v = alA 33 h v := rfl
@[go_sem ↓] theorem store33 (u : Value) : Instr.storeAt 33 v u = stA 33 v u := rfl
@[go_sem] theorem run_st33 (g : Nat) (x : Id) : (stA 33 (.pointer (some ⟨g, 0, none⟩)) (vI x)).run Tryz.prog w = if rowOk w g 32 = true then .ok () (w.setRow g (aI x)) else (stB 33 (.pointer (some ⟨g, 0, none⟩)) (vI x)).run Tryz.prog w := run_stA_if w 33 g _ 32 size33 (by simp [cI_length]) (by simpa using cI_one x)
@[go_sem] theorem run_al33 : (alA 33 true (.tuple #[])).run Tryz.prog w = .ok (.pointer (some ⟨w.heap.size, 0, none⟩)) (w.alloc (.cells (aI zI) 33)) := by kernel_rfl
@[go_sem] theorem bl33_0 : (blA 33 #[]).run Tryz.prog w = .ok (vI zI) w := by kernel_rfl
@[go_sem] theorem rowOk_nC (c : Cm) (ty : TypeId) (g : Nat) (hg : g = w.heap.size) : rowOk (w.alloc (.cells (aC c) ty)) g 39 = true := rowOk_new w _ ty g 39 hg (by simp [aC, cC_length])
@[go_sem] theorem okA_nC (c : Cm) (ty : TypeId) (g : Nat) (hg : g = w.heap.size) : okA (w.alloc (.cells (aC c) ty)) ⟨g, 0, none⟩ 39 = true := okA_new w _ ty g 39 hg (cC_length c)
@[go_sem] theorem rdA_nC (c : Cm) (ty : TypeId) (g : Nat) (hg : g = w.heap.size) : rdA (w.alloc (.cells (aC c) ty)) ⟨g, 0, none⟩ 39 = vC c := rdA_new w _ ty g 39 hg (cC_length c)
@[go_sem] theorem rowOk_nI (x : Id) (ty : TypeId) (g : Nat) (hg : g = w.heap.size) : rowOk (w.alloc (.cells (aI x) ty)) g 32 = true := rowOk_new w _ ty g 32 hg (by simp [aI, cI_length])
@[go_sem] theorem okA_nI (x : Id) (ty : TypeId) (g : Nat) (hg : g = w.heap.size) : okA (w.alloc (.cells (aI x) ty)) ⟨g, 0, none⟩ 32 = true := okA_new w _ ty g 32 hg (cI_length x)
@[go_sem] theorem rdA_nI (x : Id) (ty : TypeId) (g : Nat) (hg : g = w.heap.size) : rdA (w.alloc (.cells (aI x) ty)) ⟨g, 0, none⟩ 32 = vI x := rdA_new w _ ty g 32 hg (cI_length x)
@[go_sem] theorem aP_0 (x : Pr) : (aP x)[0]? = some (.bool x.1) := rfl
@[go_sem] theorem aP_1 (x : Pr) : (aP x)[1]? = some (.int .i64 x.2) := rfl
@[go_sem] theorem aF_0 (x : Fm) : (aF x)[0]? = some (.string x.1) := rfl
@[go_sem] theorem aF_1 (x : Fm) : (aF x)[1]? = some (.int .i64 x.2.1) := rfl
@[go_sem] theorem aF_2 (x : Fm) : (aF x)[2]? = some (.int .i64 x.2.2) := rfl
@[go_sem] theorem aG_0 (x : Rg) : (aG x)[0]? = some (.int .i64 x.1) := rfl
@[go_sem] theorem aG_1 (x : Rg) : (aG x)[1]? = some (.int .i64 x.2.1) := rfl
@[go_sem] theorem aG_2 (x : Rg) : (aG x)[2]? = some (.int .i64 x.2.2.1) := rfl
@[go_sem] theorem aG_3 (x : Rg) : (aG x)[3]? = some (.int .i64 x.2.2.2) := rfl
@[go_sem] theorem aW_0 (x : Wd) : (aW x)[0]? = some (.int .i64 x.1) := rfl
@[go_sem] theorem aW_1 (x : Wd) : (aW x)[1]? = some (.string x.2) := rfl
end
attribute [go_sem] okA_drew rdA_drew okA_drewN rdA_drewN okA_alloc rdA_alloc rowOk_drew rowOk_drewN rowOk_alloc setRow_new setRow_alloc setRow_drew setRow_drewN
theorem info5 : ∃ i, Tryz.prog.info? 5 = some i ∧ i.size = 1 := by
 have h : (Tryz.prog.info? 5).map (·.size) = some 1 := by kernel_rfl
 cases hq : Tryz.prog.info? 5 with
 | none => rw [hq] at h; cases h
 | some i => exact ⟨i, rfl, by simpa [hq] using h⟩
section
variable (w : World)
@[go_sem] theorem eql34 (a b : Id) : (binOp .eql 34 (vI a) (vI b)).run Tryz.prog w = .ok (.bool (decide (a = b))) w := by
 obtain ⟨i, h1, h2⟩ := info5
 unfold vI cI
 rw [run_eql_bytes w 32 34 5 i a.1 b.1 Tryz.underlying34 Tryz.underlying5 h1 h2 a.2 b.2]
 simp [Subtype.ext_iff]
@[go_sem] theorem neq34 (a b : Id) : (binOp .neq 34 (vI a) (vI b)).run Tryz.prog w = .ok (.bool (!decide (a = b))) w := by
 obtain ⟨i, h1, h2⟩ := info5
 unfold vI cI
 rw [run_neq_bytes w 32 34 5 i a.1 b.1 Tryz.underlying34 Tryz.underlying5 h1 h2 a.2 b.2]
 simp [Subtype.ext_iff]
theorem guard34 : Tryz.prog.eqGuardType Tryz.prog.depth 34 = false := by kernel_rfl
@[go_sem] theorem eqGuard34 (op : BinOp) (x y : Operand) (a b : Id) : (eqGuard op 34 x y (vI a) (vI b)).run Tryz.prog w = .ok () w := run_eqGuard_agg w op 34 x y _ _ guard34
@[go_sem] theorem eql33 (a b : Id) : (binOp .eql 33 (vI a) (vI b)).run Tryz.prog w = .ok (.bool (decide (a = b))) w := by
 obtain ⟨i, h1, h2⟩ := info5
 unfold vI cI
 rw [run_eql_bytes w 32 33 5 i a.1 b.1 Tryz.underlying33 Tryz.underlying5 h1 h2 a.2 b.2]
 simp [Subtype.ext_iff]
@[go_sem] theorem neq33 (a b : Id) : (binOp .neq 33 (vI a) (vI b)).run Tryz.prog w = .ok (.bool (!decide (a = b))) w := by
 obtain ⟨i, h1, h2⟩ := info5
 unfold vI cI
 rw [run_neq_bytes w 32 33 5 i a.1 b.1 Tryz.underlying33 Tryz.underlying5 h1 h2 a.2 b.2]
 simp [Subtype.ext_iff]
theorem guard33 : Tryz.prog.eqGuardType Tryz.prog.depth 33 = false := by kernel_rfl
@[go_sem] theorem eqGuard33 (op : BinOp) (x y : Operand) (a b : Id) : (eqGuard op 33 x y (vI a) (vI b)).run Tryz.prog w = .ok () w := run_eqGuard_agg w op 33 x y _ _ guard33
@[go_sem] theorem aC_0 (c : Cm) : (aC c)[0]? = some (.int .i64 c.verb) := rfl
@[go_sem] theorem aC_1 (c : Cm) : (aC c)[1]? = some (.string c.name) := rfl
theorem aC_hi (c : Cm) (k : Nat) : (aC c)[34 + k]? = [Value.int .i64 c.size, .int .i64 c.from_, .int .i64 c.count, .int .i64 c.code, .string c.text][k]? := by
 unfold aC cC
 rw [List.getElem?_toArray, show 34 + k = (32 + k) + 1 + 1 by omega, List.getElem?_cons_succ, List.getElem?_cons_succ, List.getElem?_append_right (by rw [cI_length]; omega), cI_length, show 32 + k - 32 = k by omega]
@[go_sem] theorem aC_34 (c : Cm) : (aC c)[34]? = some (.int .i64 c.size) := aC_hi c 0
@[go_sem] theorem aC_35 (c : Cm) : (aC c)[35]? = some (.int .i64 c.from_) := aC_hi c 1
@[go_sem] theorem aC_36 (c : Cm) : (aC c)[36]? = some (.int .i64 c.count) := aC_hi c 2
@[go_sem] theorem aC_37 (c : Cm) : (aC c)[37]? = some (.int .i64 c.code) := aC_hi c 3
@[go_sem] theorem aC_38 (c : Cm) : (aC c)[38]? = some (.string c.text) := aC_hi c 4
theorem at_off {w : World} {g k n : Nat} {cs ds : List Value} {ty : TypeId} (hg : g = w.heap.size) (hd : (cs.drop k).take n = ds) : At (w.alloc (.cells cs.toArray ty)) ⟨g, k, none⟩ ds := by
 subst hg
 exact (Row.new w cs ty).at_ hd
theorem cC_id (c : Cm) : ((cC c).drop 2).take 32 = cI c.id := by
 unfold cC
 rw [List.drop_succ_cons, List.drop_succ_cons, List.drop_zero, List.take_append_of_le_length (by rw [cI_length]; omega), List.take_of_length_le (by rw [cI_length]; omega)]
@[go_sem] theorem okA_Cid (c : Cm) (ty : TypeId) (g : Nat) (hg : g = w.heap.size) : okA (w.alloc (.cells (aC c) ty)) ⟨g, 2, none⟩ 32 = true := by
 have h := (at_off (w := w) (ty := ty) hg (cC_id c)).ok
 rwa [cI_length] at h
@[go_sem] theorem rdA_Cid (c : Cm) (ty : TypeId) (g : Nat) (hg : g = w.heap.size) : rdA (w.alloc (.cells (aC c) ty)) ⟨g, 2, none⟩ 32 = vI c.id := by
 have h := (at_off (w := w) (ty := ty) hg (cC_id c)).rd
 rwa [cI_length] at h
end
theorem cell_below {w w' : World} {a : Addr} {v : Value} (h : w.cell? a = some v) (hb : Below w.heap.size w w') : w'.cell? a = some v := by
 refine (World.cell?_of_block (hb.block _ ?_)).trans h
 unfold World.cell? at h
 split at h
 ·rename_i hh
  exact (Array.getElem?_eq_some_iff.1 hh).1
 ·cases h
end
end Go.Proofs.YtibelollgdnidaaGreatDoor
