/- The types of the commands at this translation: identities, commands, and the small structs; loaded, stored, boxed, built as whole values. command: the fields that are present. -/
import Derived.Test.YtfbpipknhghneaaGreatDoorRow
import Derived.Test.YtfbpipknhghneaaGreatDoorProg
import Derived.Test.YtfbpipknhghneaaGreatDoorShelf
import Derived.Deep.CutBlock
import Derived.BigQuiet
namespace Go.Proofs.YtfbpipknhghneaaGreatDoor
section
open Go.RowKit
theorem cons_of {n : Nat} (l : List UInt8) (h : l.length = n + 1) : ∃ a r, l = a :: r ∧ r.length = n := by
  cases l with
  | nil => cases h
  | cons a r => exact ⟨a, r, rfl, by simpa using h⟩
theorem Id.cases {P : Id → Prop} (h : ∀ a0 a1 a2 a3 a4 a5 a6 a7 a8 a9 a10 a11 a12 a13 a14 a15 a16 a17 a18 a19 a20 a21 a22 a23 a24 a25 a26 a27 a28 a29 a30 a31 : UInt8, P ⟨[a0, a1, a2, a3, a4, a5, a6, a7, a8, a9, a10, a11, a12, a13, a14, a15, a16, a17, a18, a19, a20, a21, a22, a23, a24, a25, a26, a27, a28, a29, a30, a31], rfl⟩) (x : Id) : P x := by
  obtain ⟨l0, hl⟩ := x
  obtain ⟨a0, l1, rfl, h0⟩ := cons_of l0 hl
  obtain ⟨a1, l2, rfl, h1⟩ := cons_of l1 h0
  obtain ⟨a2, l3, rfl, h2⟩ := cons_of l2 h1
  obtain ⟨a3, l4, rfl, h3⟩ := cons_of l3 h2
  obtain ⟨a4, l5, rfl, h4⟩ := cons_of l4 h3
  obtain ⟨a5, l6, rfl, h5⟩ := cons_of l5 h4
  obtain ⟨a6, l7, rfl, h6⟩ := cons_of l6 h5
  obtain ⟨a7, l8, rfl, h7⟩ := cons_of l7 h6
  obtain ⟨a8, l9, rfl, h8⟩ := cons_of l8 h7
  obtain ⟨a9, l10, rfl, h9⟩ := cons_of l9 h8
  obtain ⟨a10, l11, rfl, h10⟩ := cons_of l10 h9
  obtain ⟨a11, l12, rfl, h11⟩ := cons_of l11 h10
  obtain ⟨a12, l13, rfl, h12⟩ := cons_of l12 h11
  obtain ⟨a13, l14, rfl, h13⟩ := cons_of l13 h12
  obtain ⟨a14, l15, rfl, h14⟩ := cons_of l14 h13
  obtain ⟨a15, l16, rfl, h15⟩ := cons_of l15 h14
  obtain ⟨a16, l17, rfl, h16⟩ := cons_of l16 h15
  obtain ⟨a17, l18, rfl, h17⟩ := cons_of l17 h16
  obtain ⟨a18, l19, rfl, h18⟩ := cons_of l18 h17
  obtain ⟨a19, l20, rfl, h19⟩ := cons_of l19 h18
  obtain ⟨a20, l21, rfl, h20⟩ := cons_of l20 h19
  obtain ⟨a21, l22, rfl, h21⟩ := cons_of l21 h20
  obtain ⟨a22, l23, rfl, h22⟩ := cons_of l22 h21
  obtain ⟨a23, l24, rfl, h23⟩ := cons_of l23 h22
  obtain ⟨a24, l25, rfl, h24⟩ := cons_of l24 h23
  obtain ⟨a25, l26, rfl, h25⟩ := cons_of l25 h24
  obtain ⟨a26, l27, rfl, h26⟩ := cons_of l26 h25
  obtain ⟨a27, l28, rfl, h27⟩ := cons_of l27 h26
  obtain ⟨a28, l29, rfl, h28⟩ := cons_of l28 h27
  obtain ⟨a29, l30, rfl, h29⟩ := cons_of l29 h28
  obtain ⟨a30, l31, rfl, h30⟩ := cons_of l30 h29
  obtain ⟨a31, l32, rfl, h31⟩ := cons_of l31 h30
  obtain rfl : l32 = [] := List.eq_nil_of_length_eq_zero h31
  exact h a0 a1 a2 a3 a4 a5 a6 a7 a8 a9 a10 a11 a12 a13 a14 a15 a16 a17 a18 a19 a20 a21 a22 a23 a24 a25 a26 a27 a28 a29 a30 a31
/-- The zero identity. -/
def zI : Id := ⟨List.replicate 32 0, by simp⟩
structure Cm where
  verb : Int
  name : ByteArray
  id : Id
  size : Int
  from_ : Int
  count : Int
  code : Int
  text : ByteArray
def cC (c : Cm) : List Value := .int .i64 c.verb :: .string c.name :: (cI c.id ++ [.int .i64 c.size, .int .i64 c.from_, .int .i64 c.count, .int .i64 c.code, .string c.text])
def zC : Cm := ⟨0, ⟨#[]⟩, zI, 0, 0, 0, 0, ⟨#[]⟩⟩
def vC (c : Cm) : Value := .agg (cC c).toArray
/-- The cells as a block holds them. -/
def aI (x : Id) : Array Value := (cI x).toArray
def aC (c : Cm) : Array Value := (cC c).toArray
theorem cC_length (c : Cm) : (cC c).length = 39 := by simp [cC, cI_length]
theorem cC_one (c : Cm) : ∀ u ∈ cC c, u.oneCell' = true := by
  intro u hu
  simp only [cC, List.mem_cons, List.mem_append, List.not_mem_nil, or_false] at hu
  rcases hu with rfl | rfl | h | rfl | rfl | rfl | rfl | rfl
  · rfl
  · rfl
  · exact cI_one _ u h
  all_goals rfl
/-- Pairs of a bool and a number; a form; a range of a field; a field's word: small structs as whole values. -/
abbrev Pr := Bool × Int
abbrev Fm := ByteArray × Int × Int
abbrev Rg := Int × Int × Int × Int
abbrev Wd := Int × ByteArray
def cP (x : Pr) : List Value := [.bool x.1, .int .i64 x.2]
def cF (x : Fm) : List Value := [.string x.1, .int .i64 x.2.1, .int .i64 x.2.2]
def cG (x : Rg) : List Value := [.int .i64 x.1, .int .i64 x.2.1, .int .i64 x.2.2.1, .int .i64 x.2.2.2]
def cW (x : Wd) : List Value := [.int .i64 x.1, .string x.2]
def vP (x : Pr) : Value := .agg (cP x).toArray
def vF (x : Fm) : Value := .agg (cF x).toArray
def vG (x : Rg) : Value := .agg (cG x).toArray
def vW (x : Wd) : Value := .agg (cW x).toArray
def aP (x : Pr) : Array Value := (cP x).toArray
def aF (x : Fm) : Array Value := (cF x).toArray
def aG (x : Rg) : Array Value := (cG x).toArray
def aW (x : Wd) : Array Value := (cW x).toArray
section
variable (w : World) (v : Value)
theorem under37 : ∃ d, Tryz.prog.underlying 37 = some d ∧ (match d with | .struct _ | .array _ _ => true | _ => false) = true := ⟨_, Tryz.underlying37, rfl⟩
theorem size37 : (Tryz.prog.info? 37).map (·.size) = some 32 := by kernel_rfl
@[go_sem ↓] theorem load37 : Instr.loadAt 37 v = ldA 37 v := rfl
@[go_sem] theorem run_ld37 (ad : Addr) : (ldA 37 (.pointer (some ad))).run Tryz.prog w = if okA w ad 32 = true then .ok (rdA w ad 32) w else (ldB 37 (.pointer (some ad))).run Tryz.prog w := run_ldA_if w 37 ad 32 _ Tryz.underlying37 rfl size37
@[go_sem ↓] theorem blt37 (parts : Array (Nat × Value)) : Instr.build 37 parts = blA 37 parts := rfl
@[go_sem ↓] theorem box37 : Instr.box 37 v = bxA 37 v := rfl
@[go_sem] theorem run_bx37 (x : Id) : (bxA 37 (vI x)).run Tryz.prog w = .ok (.pointer (some ⟨w.heap.size, 0, none⟩)) (w.alloc (.cells (aI x) 37)) := run_bxA w 37 _
@[go_sem ↓] theorem alloc37 (h : Bool) : Instr.alloc 37 h v = alA 37 h v := rfl
@[go_sem ↓] theorem store37 (u : Value) : Instr.storeAt 37 v u = stA 37 v u := rfl
@[go_sem] theorem run_st37 (g : Nat) (x : Id) : (stA 37 (.pointer (some ⟨g, 0, none⟩)) (vI x)).run Tryz.prog w = if rowOk w g 32 = true then .ok () (w.setRow g (aI x)) else (stB 37 (.pointer (some ⟨g, 0, none⟩)) (vI x)).run Tryz.prog w := run_stA_if w 37 g _ 32 size37 (by simp [cI_length]) (by simpa using cI_one x)
@[go_sem] theorem run_al37 : (alA 37 true (.tuple #[])).run Tryz.prog w = .ok (.pointer (some ⟨w.heap.size, 0, none⟩)) (w.alloc (.cells (aI zI) 37)) := by kernel_rfl
@[go_sem] theorem bl37_0 : (blA 37 #[]).run Tryz.prog w = .ok (vI zI) w := by kernel_rfl
theorem under36 : ∃ d, Tryz.prog.underlying 36 = some d ∧ (match d with | .struct _ | .array _ _ => true | _ => false) = true := ⟨_, Tryz.underlying36, rfl⟩
theorem size36 : (Tryz.prog.info? 36).map (·.size) = some 32 := by kernel_rfl
@[go_sem ↓] theorem load36 : Instr.loadAt 36 v = ldA 36 v := rfl
@[go_sem] theorem run_ld36 (ad : Addr) : (ldA 36 (.pointer (some ad))).run Tryz.prog w = if okA w ad 32 = true then .ok (rdA w ad 32) w else (ldB 36 (.pointer (some ad))).run Tryz.prog w := run_ldA_if w 36 ad 32 _ Tryz.underlying36 rfl size36
@[go_sem ↓] theorem blt36 (parts : Array (Nat × Value)) : Instr.build 36 parts = blA 36 parts := rfl
@[go_sem ↓] theorem box36 : Instr.box 36 v = bxA 36 v := rfl
@[go_sem] theorem run_bx36 (x : Id) : (bxA 36 (vI x)).run Tryz.prog w = .ok (.pointer (some ⟨w.heap.size, 0, none⟩)) (w.alloc (.cells (aI x) 36)) := run_bxA w 36 _
@[go_sem ↓] theorem alloc36 (h : Bool) : Instr.alloc 36 h v = alA 36 h v := rfl
@[go_sem ↓] theorem store36 (u : Value) : Instr.storeAt 36 v u = stA 36 v u := rfl
@[go_sem] theorem run_st36 (g : Nat) (x : Id) : (stA 36 (.pointer (some ⟨g, 0, none⟩)) (vI x)).run Tryz.prog w = if rowOk w g 32 = true then .ok () (w.setRow g (aI x)) else (stB 36 (.pointer (some ⟨g, 0, none⟩)) (vI x)).run Tryz.prog w := run_stA_if w 36 g _ 32 size36 (by simp [cI_length]) (by simpa using cI_one x)
@[go_sem] theorem run_al36 : (alA 36 true (.tuple #[])).run Tryz.prog w = .ok (.pointer (some ⟨w.heap.size, 0, none⟩)) (w.alloc (.cells (aI zI) 36)) := by kernel_rfl
@[go_sem] theorem bl36_0 : (blA 36 #[]).run Tryz.prog w = .ok (vI zI) w := by kernel_rfl
theorem under104 : ∃ d, Tryz.prog.underlying 104 = some d ∧ (match d with | .struct _ | .array _ _ => true | _ => false) = true := ⟨_, Tryz.underlying104, rfl⟩
theorem size104 : (Tryz.prog.info? 104).map (·.size) = some 32 := by kernel_rfl
@[go_sem ↓] theorem load104 : Instr.loadAt 104 v = ldA 104 v := rfl
@[go_sem] theorem run_ld104 (ad : Addr) : (ldA 104 (.pointer (some ad))).run Tryz.prog w = if okA w ad 32 = true then .ok (rdA w ad 32) w else (ldB 104 (.pointer (some ad))).run Tryz.prog w := run_ldA_if w 104 ad 32 _ Tryz.underlying104 rfl size104
@[go_sem ↓] theorem blt104 (parts : Array (Nat × Value)) : Instr.build 104 parts = blA 104 parts := rfl
@[go_sem ↓] theorem box104 : Instr.box 104 v = bxA 104 v := rfl
@[go_sem] theorem run_bx104 (x : Id) : (bxA 104 (vI x)).run Tryz.prog w = .ok (.pointer (some ⟨w.heap.size, 0, none⟩)) (w.alloc (.cells (aI x) 104)) := run_bxA w 104 _
@[go_sem ↓] theorem alloc104 (h : Bool) : Instr.alloc 104 h v = alA 104 h v := rfl
@[go_sem ↓] theorem store104 (u : Value) : Instr.storeAt 104 v u = stA 104 v u := rfl
@[go_sem] theorem run_st104 (g : Nat) (x : Id) : (stA 104 (.pointer (some ⟨g, 0, none⟩)) (vI x)).run Tryz.prog w = if rowOk w g 32 = true then .ok () (w.setRow g (aI x)) else (stB 104 (.pointer (some ⟨g, 0, none⟩)) (vI x)).run Tryz.prog w := run_stA_if w 104 g _ 32 size104 (by simp [cI_length]) (by simpa using cI_one x)
@[go_sem] theorem run_al104 : (alA 104 true (.tuple #[])).run Tryz.prog w = .ok (.pointer (some ⟨w.heap.size, 0, none⟩)) (w.alloc (.cells (aI zI) 104)) := by kernel_rfl
@[go_sem] theorem bl104_0 : (blA 104 #[]).run Tryz.prog w = .ok (vI zI) w := by kernel_rfl
theorem under39 : ∃ d, Tryz.prog.underlying 39 = some d ∧ (match d with | .struct _ | .array _ _ => true | _ => false) = true := ⟨_, Tryz.underlying39, rfl⟩
theorem size39 : (Tryz.prog.info? 39).map (·.size) = some 39 := by kernel_rfl
@[go_sem ↓] theorem load39 : Instr.loadAt 39 v = ldA 39 v := rfl
@[go_sem] theorem run_ld39 (ad : Addr) : (ldA 39 (.pointer (some ad))).run Tryz.prog w = if okA w ad 39 = true then .ok (rdA w ad 39) w else (ldB 39 (.pointer (some ad))).run Tryz.prog w := run_ldA_if w 39 ad 39 _ Tryz.underlying39 rfl size39
@[go_sem ↓] theorem blt39 (parts : Array (Nat × Value)) : Instr.build 39 parts = blA 39 parts := rfl
@[go_sem ↓] theorem box39 : Instr.box 39 v = bxA 39 v := rfl
@[go_sem] theorem run_bx39 (c : Cm) : (bxA 39 (vC c)).run Tryz.prog w = .ok (.pointer (some ⟨w.heap.size, 0, none⟩)) (w.alloc (.cells (aC c) 39)) := run_bxA w 39 _
@[go_sem ↓] theorem alloc39 (h : Bool) : Instr.alloc 39 h v = alA 39 h v := rfl
@[go_sem ↓] theorem store39 (u : Value) : Instr.storeAt 39 v u = stA 39 v u := rfl
@[go_sem] theorem run_st39 (g : Nat) (c : Cm) : (stA 39 (.pointer (some ⟨g, 0, none⟩)) (vC c)).run Tryz.prog w = if rowOk w g 39 = true then .ok () (w.setRow g (aC c)) else (stB 39 (.pointer (some ⟨g, 0, none⟩)) (vC c)).run Tryz.prog w := run_stA_if w 39 g _ 39 size39 (by simp [cC_length]) (by simpa using cC_one c)
@[go_sem] theorem run_al39 : (alA 39 true (.tuple #[])).run Tryz.prog w = .ok (.pointer (some ⟨w.heap.size, 0, none⟩)) (w.alloc (.cells (aC zC) 39)) := by kernel_rfl
@[go_sem] theorem bl39_0 : (blA 39 #[]).run Tryz.prog w = .ok (vC zC) w := by kernel_rfl
theorem under49 : ∃ d, Tryz.prog.underlying 49 = some d ∧ (match d with | .struct _ | .array _ _ => true | _ => false) = true := ⟨_, Tryz.underlying49, rfl⟩
theorem size49 : (Tryz.prog.info? 49).map (·.size) = some 39 := by kernel_rfl
@[go_sem ↓] theorem load49 : Instr.loadAt 49 v = ldA 49 v := rfl
@[go_sem] theorem run_ld49 (ad : Addr) : (ldA 49 (.pointer (some ad))).run Tryz.prog w = if okA w ad 39 = true then .ok (rdA w ad 39) w else (ldB 49 (.pointer (some ad))).run Tryz.prog w := run_ldA_if w 49 ad 39 _ Tryz.underlying49 rfl size49
@[go_sem ↓] theorem blt49 (parts : Array (Nat × Value)) : Instr.build 49 parts = blA 49 parts := rfl
@[go_sem ↓] theorem box49 : Instr.box 49 v = bxA 49 v := rfl
@[go_sem] theorem run_bx49 (c : Cm) : (bxA 49 (vC c)).run Tryz.prog w = .ok (.pointer (some ⟨w.heap.size, 0, none⟩)) (w.alloc (.cells (aC c) 49)) := run_bxA w 49 _
@[go_sem ↓] theorem alloc49 (h : Bool) : Instr.alloc 49 h v = alA 49 h v := rfl
@[go_sem ↓] theorem store49 (u : Value) : Instr.storeAt 49 v u = stA 49 v u := rfl
@[go_sem] theorem run_st49 (g : Nat) (c : Cm) : (stA 49 (.pointer (some ⟨g, 0, none⟩)) (vC c)).run Tryz.prog w = if rowOk w g 39 = true then .ok () (w.setRow g (aC c)) else (stB 49 (.pointer (some ⟨g, 0, none⟩)) (vC c)).run Tryz.prog w := run_stA_if w 49 g _ 39 size49 (by simp [cC_length]) (by simpa using cC_one c)
@[go_sem] theorem run_al49 : (alA 49 true (.tuple #[])).run Tryz.prog w = .ok (.pointer (some ⟨w.heap.size, 0, none⟩)) (w.alloc (.cells (aC zC) 49)) := by kernel_rfl
@[go_sem] theorem bl49_0 : (blA 49 #[]).run Tryz.prog w = .ok (vC zC) w := by kernel_rfl
@[go_sem] theorem rowOk_nC (c : Cm) (ty : TypeId) (g : Nat) (hg : g = w.heap.size) : rowOk (w.alloc (.cells (aC c) ty)) g 39 = true := rowOk_new w _ ty g 39 hg (by simp [aC, cC_length])
@[go_sem] theorem okA_nC (c : Cm) (ty : TypeId) (g : Nat) (hg : g = w.heap.size) : okA (w.alloc (.cells (aC c) ty)) ⟨g, 0, none⟩ 39 = true := okA_new w _ ty g 39 hg (cC_length c)
@[go_sem] theorem rdA_nC (c : Cm) (ty : TypeId) (g : Nat) (hg : g = w.heap.size) : rdA (w.alloc (.cells (aC c) ty)) ⟨g, 0, none⟩ 39 = vC c := rdA_new w _ ty g 39 hg (cC_length c)
@[go_sem] theorem rowOk_nI (x : Id) (ty : TypeId) (g : Nat) (hg : g = w.heap.size) : rowOk (w.alloc (.cells (aI x) ty)) g 32 = true := rowOk_new w _ ty g 32 hg (by simp [aI, cI_length])
@[go_sem] theorem okA_nI (x : Id) (ty : TypeId) (g : Nat) (hg : g = w.heap.size) : okA (w.alloc (.cells (aI x) ty)) ⟨g, 0, none⟩ 32 = true := okA_new w _ ty g 32 hg (cI_length x)
@[go_sem] theorem rdA_nI (x : Id) (ty : TypeId) (g : Nat) (hg : g = w.heap.size) : rdA (w.alloc (.cells (aI x) ty)) ⟨g, 0, none⟩ 32 = vI x := rdA_new w _ ty g 32 hg (cI_length x)
@[go_sem] theorem blR_1 (n : Int) : (blA 49 #[(0, .int .i64 n)]).run Tryz.prog w = .ok (vC ⟨n, ⟨#[]⟩, zI, 0, 0, 0, 0, ⟨#[]⟩⟩) w := by kernel_rfl
@[go_sem] theorem blC_hello (n m : Int) (s : ByteArray) : (blA 39 #[(0, .int .i64 n), (1, .string s), (5, .int .i64 m)]).run Tryz.prog w = .ok (vC ⟨n, s, zI, 0, 0, m, 0, ⟨#[]⟩⟩) w := by kernel_rfl
@[go_sem] theorem blC_all (n a b d e : Int) (s t : ByteArray) (x : Id) : (blA 39 #[(0, .int .i64 n), (1, .string s), (2, vI x), (3, .int .i64 a), (4, .int .i64 b), (5, .int .i64 d), (6, .int .i64 e), (7, .string t)]).run Tryz.prog w = .ok (vC ⟨n, s, x, a, b, d, e, t⟩) w := by
  revert x
  refine Id.cases fun a0 a1 a2 a3 a4 a5 a6 a7 a8 a9 a10 a11 a12 a13 a14 a15 a16 a17 a18 a19 a20 a21 a22 a23 a24 a25 a26 a27 a28 a29 a30 a31 => ?_
  kernel_rfl
@[go_sem] theorem blC_data (n : Int) (t : ByteArray) (x : Id) : (blA 39 #[(0, .int .i64 n), (2, vI x), (7, .string t)]).run Tryz.prog w = .ok (vC ⟨n, ⟨#[]⟩, x, 0, 0, 0, 0, t⟩) w := by
  revert x
  refine Id.cases fun a0 a1 a2 a3 a4 a5 a6 a7 a8 a9 a10 a11 a12 a13 a14 a15 a16 a17 a18 a19 a20 a21 a22 a23 a24 a25 a26 a27 a28 a29 a30 a31 => ?_
  kernel_rfl
theorem cP_length (x : Pr) : (cP x).length = 2 := rfl
theorem cP_one (x : Pr) : ∀ u ∈ cP x, u.oneCell' = true := by
  intro u hu
  simp only [cP, List.mem_cons, List.not_mem_nil, or_false] at hu
  rcases hu with rfl | rfl <;> rfl
theorem size111 : (Tryz.prog.info? 111).map (·.size) = some 2 := by kernel_rfl
@[go_sem ↓] theorem load111 : Instr.loadAt 111 v = ldA 111 v := rfl
@[go_sem] theorem run_ld111 (ad : Addr) : (ldA 111 (.pointer (some ad))).run Tryz.prog w = if okA w ad 2 = true then .ok (rdA w ad 2) w else (ldB 111 (.pointer (some ad))).run Tryz.prog w := run_ldA_if w 111 ad 2 _ Tryz.underlying111 rfl size111
@[go_sem ↓] theorem blt111 (parts : Array (Nat × Value)) : Instr.build 111 parts = blA 111 parts := rfl
@[go_sem ↓] theorem alloc111 (h : Bool) : Instr.alloc 111 h v = alA 111 h v := rfl
@[go_sem ↓] theorem store111 (u : Value) : Instr.storeAt 111 v u = stA 111 v u := rfl
@[go_sem] theorem run_st111 (g : Nat) (x : Pr) : (stA 111 (.pointer (some ⟨g, 0, none⟩)) (vP x)).run Tryz.prog w = if rowOk w g 2 = true then .ok () (w.setRow g (aP x)) else (stB 111 (.pointer (some ⟨g, 0, none⟩)) (vP x)).run Tryz.prog w := run_stA_if w 111 g _ 2 size111 rfl (by simpa using cP_one x)
@[go_sem] theorem rowOk_n111 (x : Pr) (ty : TypeId) (g : Nat) (hg : g = w.heap.size) : rowOk (w.alloc (.cells (aP x) ty)) g 2 = true := rowOk_new w _ ty g 2 hg rfl
@[go_sem] theorem okA_n111 (x : Pr) (ty : TypeId) (g : Nat) (hg : g = w.heap.size) : okA (w.alloc (.cells (aP x) ty)) ⟨g, 0, none⟩ 2 = true := okA_new w _ ty g 2 hg rfl
@[go_sem] theorem rdA_n111 (x : Pr) (ty : TypeId) (g : Nat) (hg : g = w.heap.size) : rdA (w.alloc (.cells (aP x) ty)) ⟨g, 0, none⟩ 2 = vP x := rdA_new w _ ty g 2 hg rfl
@[go_sem] theorem run_al111 : (alA 111 true (.tuple #[])).run Tryz.prog w = .ok (.pointer (some ⟨w.heap.size, 0, none⟩)) (w.alloc (.cells (aP (false, 0)) 111)) := by kernel_rfl
def aPs (xs : List Pr) : Array Value := (xs.flatMap cP).toArray
@[go_sem ↓] theorem bs112 (n : Nat) (parts : Array (Nat × Value)) : Instr.buildSlice 112 n parts = bsA 112 n parts := rfl
theorem run_bs112 (xs : List Pr) (h : xs.length ≤ 100) : (bsA 112 xs.length (xs.zipIdx.map fun x => (x.2, vP x.1)).toArray).run Tryz.prog w = .ok (.slice (some ⟨w.heap.size, 0, none⟩) xs.length xs.length) (w.alloc (.cells (aPs xs) 111)) := by
  obtain ⟨i, z, h1, h2, h3⟩ := info_of (show (Tryz.prog.info? 111).map (fun i => (i.zero.map (·.cells.size), i.size, i.bytes)) = some (some 2, 2, 16) by kernel_rfl)
  exact run_bsA w vP 112 111 i z 2 Tryz.underlying112 h1 h2 h3 (fun _ => rfl) xs (by omega)
theorem cF_length (x : Fm) : (cF x).length = 3 := rfl
theorem cF_one (x : Fm) : ∀ u ∈ cF x, u.oneCell' = true := by
  intro u hu
  simp only [cF, List.mem_cons, List.not_mem_nil, or_false] at hu
  rcases hu with rfl | rfl | rfl <;> rfl
theorem size54 : (Tryz.prog.info? 54).map (·.size) = some 3 := by kernel_rfl
@[go_sem ↓] theorem load54 : Instr.loadAt 54 v = ldA 54 v := rfl
@[go_sem] theorem run_ld54 (ad : Addr) : (ldA 54 (.pointer (some ad))).run Tryz.prog w = if okA w ad 3 = true then .ok (rdA w ad 3) w else (ldB 54 (.pointer (some ad))).run Tryz.prog w := run_ldA_if w 54 ad 3 _ Tryz.underlying54 rfl size54
@[go_sem ↓] theorem blt54 (parts : Array (Nat × Value)) : Instr.build 54 parts = blA 54 parts := rfl
@[go_sem ↓] theorem alloc54 (h : Bool) : Instr.alloc 54 h v = alA 54 h v := rfl
@[go_sem ↓] theorem store54 (u : Value) : Instr.storeAt 54 v u = stA 54 v u := rfl
@[go_sem] theorem run_st54 (g : Nat) (x : Fm) : (stA 54 (.pointer (some ⟨g, 0, none⟩)) (vF x)).run Tryz.prog w = if rowOk w g 3 = true then .ok () (w.setRow g (aF x)) else (stB 54 (.pointer (some ⟨g, 0, none⟩)) (vF x)).run Tryz.prog w := run_stA_if w 54 g _ 3 size54 rfl (by simpa using cF_one x)
@[go_sem] theorem rowOk_n54 (x : Fm) (ty : TypeId) (g : Nat) (hg : g = w.heap.size) : rowOk (w.alloc (.cells (aF x) ty)) g 3 = true := rowOk_new w _ ty g 3 hg rfl
@[go_sem] theorem okA_n54 (x : Fm) (ty : TypeId) (g : Nat) (hg : g = w.heap.size) : okA (w.alloc (.cells (aF x) ty)) ⟨g, 0, none⟩ 3 = true := okA_new w _ ty g 3 hg rfl
@[go_sem] theorem rdA_n54 (x : Fm) (ty : TypeId) (g : Nat) (hg : g = w.heap.size) : rdA (w.alloc (.cells (aF x) ty)) ⟨g, 0, none⟩ 3 = vF x := rdA_new w _ ty g 3 hg rfl
@[go_sem] theorem run_al54 : (alA 54 true (.tuple #[])).run Tryz.prog w = .ok (.pointer (some ⟨w.heap.size, 0, none⟩)) (w.alloc (.cells (aF (⟨#[]⟩, 0, 0)) 54)) := by kernel_rfl
theorem cG_length (x : Rg) : (cG x).length = 4 := rfl
theorem cG_one (x : Rg) : ∀ u ∈ cG x, u.oneCell' = true := by
  intro u hu
  simp only [cG, List.mem_cons, List.not_mem_nil, or_false] at hu
  rcases hu with rfl | rfl | rfl | rfl <;> rfl
theorem size87 : (Tryz.prog.info? 87).map (·.size) = some 4 := by kernel_rfl
@[go_sem ↓] theorem load87 : Instr.loadAt 87 v = ldA 87 v := rfl
@[go_sem] theorem run_ld87 (ad : Addr) : (ldA 87 (.pointer (some ad))).run Tryz.prog w = if okA w ad 4 = true then .ok (rdA w ad 4) w else (ldB 87 (.pointer (some ad))).run Tryz.prog w := run_ldA_if w 87 ad 4 _ Tryz.underlying87 rfl size87
@[go_sem ↓] theorem blt87 (parts : Array (Nat × Value)) : Instr.build 87 parts = blA 87 parts := rfl
@[go_sem ↓] theorem alloc87 (h : Bool) : Instr.alloc 87 h v = alA 87 h v := rfl
@[go_sem ↓] theorem store87 (u : Value) : Instr.storeAt 87 v u = stA 87 v u := rfl
@[go_sem] theorem run_st87 (g : Nat) (x : Rg) : (stA 87 (.pointer (some ⟨g, 0, none⟩)) (vG x)).run Tryz.prog w = if rowOk w g 4 = true then .ok () (w.setRow g (aG x)) else (stB 87 (.pointer (some ⟨g, 0, none⟩)) (vG x)).run Tryz.prog w := run_stA_if w 87 g _ 4 size87 rfl (by simpa using cG_one x)
@[go_sem] theorem rowOk_n87 (x : Rg) (ty : TypeId) (g : Nat) (hg : g = w.heap.size) : rowOk (w.alloc (.cells (aG x) ty)) g 4 = true := rowOk_new w _ ty g 4 hg rfl
@[go_sem] theorem okA_n87 (x : Rg) (ty : TypeId) (g : Nat) (hg : g = w.heap.size) : okA (w.alloc (.cells (aG x) ty)) ⟨g, 0, none⟩ 4 = true := okA_new w _ ty g 4 hg rfl
@[go_sem] theorem rdA_n87 (x : Rg) (ty : TypeId) (g : Nat) (hg : g = w.heap.size) : rdA (w.alloc (.cells (aG x) ty)) ⟨g, 0, none⟩ 4 = vG x := rdA_new w _ ty g 4 hg rfl
@[go_sem] theorem run_al87 : (alA 87 true (.tuple #[])).run Tryz.prog w = .ok (.pointer (some ⟨w.heap.size, 0, none⟩)) (w.alloc (.cells (aG (0, 0, 0, 0)) 87)) := by kernel_rfl
def aGs (xs : List Rg) : Array Value := (xs.flatMap cG).toArray
@[go_sem ↓] theorem bs88 (n : Nat) (parts : Array (Nat × Value)) : Instr.buildSlice 88 n parts = bsA 88 n parts := rfl
theorem run_bs88 (xs : List Rg) (h : xs.length ≤ 100) : (bsA 88 xs.length (xs.zipIdx.map fun x => (x.2, vG x.1)).toArray).run Tryz.prog w = .ok (.slice (some ⟨w.heap.size, 0, none⟩) xs.length xs.length) (w.alloc (.cells (aGs xs) 87)) := by
  obtain ⟨i, z, h1, h2, h3⟩ := info_of (show (Tryz.prog.info? 87).map (fun i => (i.zero.map (·.cells.size), i.size, i.bytes)) = some (some 4, 4, 32) by kernel_rfl)
  exact run_bsA w vG 88 87 i z 4 Tryz.underlying88 h1 h2 h3 (fun _ => rfl) xs (by omega)
theorem cW_length (x : Wd) : (cW x).length = 2 := rfl
theorem cW_one (x : Wd) : ∀ u ∈ cW x, u.oneCell' = true := by
  intro u hu
  simp only [cW, List.mem_cons, List.not_mem_nil, or_false] at hu
  rcases hu with rfl | rfl <;> rfl
theorem size56 : (Tryz.prog.info? 56).map (·.size) = some 2 := by kernel_rfl
@[go_sem ↓] theorem load56 : Instr.loadAt 56 v = ldA 56 v := rfl
@[go_sem] theorem run_ld56 (ad : Addr) : (ldA 56 (.pointer (some ad))).run Tryz.prog w = if okA w ad 2 = true then .ok (rdA w ad 2) w else (ldB 56 (.pointer (some ad))).run Tryz.prog w := run_ldA_if w 56 ad 2 _ Tryz.underlying56 rfl size56
@[go_sem ↓] theorem blt56 (parts : Array (Nat × Value)) : Instr.build 56 parts = blA 56 parts := rfl
@[go_sem ↓] theorem alloc56 (h : Bool) : Instr.alloc 56 h v = alA 56 h v := rfl
@[go_sem ↓] theorem store56 (u : Value) : Instr.storeAt 56 v u = stA 56 v u := rfl
@[go_sem] theorem run_st56 (g : Nat) (x : Wd) : (stA 56 (.pointer (some ⟨g, 0, none⟩)) (vW x)).run Tryz.prog w = if rowOk w g 2 = true then .ok () (w.setRow g (aW x)) else (stB 56 (.pointer (some ⟨g, 0, none⟩)) (vW x)).run Tryz.prog w := run_stA_if w 56 g _ 2 size56 rfl (by simpa using cW_one x)
@[go_sem] theorem rowOk_n56 (x : Wd) (ty : TypeId) (g : Nat) (hg : g = w.heap.size) : rowOk (w.alloc (.cells (aW x) ty)) g 2 = true := rowOk_new w _ ty g 2 hg rfl
@[go_sem] theorem okA_n56 (x : Wd) (ty : TypeId) (g : Nat) (hg : g = w.heap.size) : okA (w.alloc (.cells (aW x) ty)) ⟨g, 0, none⟩ 2 = true := okA_new w _ ty g 2 hg rfl
@[go_sem] theorem rdA_n56 (x : Wd) (ty : TypeId) (g : Nat) (hg : g = w.heap.size) : rdA (w.alloc (.cells (aW x) ty)) ⟨g, 0, none⟩ 2 = vW x := rdA_new w _ ty g 2 hg rfl
@[go_sem] theorem run_al56 : (alA 56 true (.tuple #[])).run Tryz.prog w = .ok (.pointer (some ⟨w.heap.size, 0, none⟩)) (w.alloc (.cells (aW (0, ⟨#[]⟩)) 56)) := by kernel_rfl
def aWs (xs : List Wd) : Array Value := (xs.flatMap cW).toArray
@[go_sem ↓] theorem bs59 (n : Nat) (parts : Array (Nat × Value)) : Instr.buildSlice 59 n parts = bsA 59 n parts := rfl
theorem run_bs59 (xs : List Wd) (h : xs.length ≤ 100) : (bsA 59 xs.length (xs.zipIdx.map fun x => (x.2, vW x.1)).toArray).run Tryz.prog w = .ok (.slice (some ⟨w.heap.size, 0, none⟩) xs.length xs.length) (w.alloc (.cells (aWs xs) 56)) := by
  obtain ⟨i, z, h1, h2, h3⟩ := info_of (show (Tryz.prog.info? 56).map (fun i => (i.zero.map (·.cells.size), i.size, i.bytes)) = some (some 2, 2, 24) by kernel_rfl)
  exact run_bsA w vW 59 56 i z 2 Tryz.underlying59 h1 h2 h3 (fun _ => rfl) xs (by omega)
@[go_sem] theorem aP_0 (x : Pr) : (aP x)[0]? = some (.bool x.1) := rfl
@[go_sem] theorem aP_1 (x : Pr) : (aP x)[1]? = some (.int .i64 x.2) := rfl
@[go_sem] theorem aF_0 (x : Fm) : (aF x)[0]? = some (.string x.1) := rfl
@[go_sem] theorem aF_1 (x : Fm) : (aF x)[1]? = some (.int .i64 x.2.1) := rfl
@[go_sem] theorem aF_2 (x : Fm) : (aF x)[2]? = some (.int .i64 x.2.2) := rfl
@[go_sem] theorem aG_0 (x : Rg) : (aG x)[0]? = some (.int .i64 x.1) := rfl
@[go_sem] theorem aG_1 (x : Rg) : (aG x)[1]? = some (.int .i64 x.2.1) := rfl
@[go_sem] theorem aG_2 (x : Rg) : (aG x)[2]? = some (.int .i64 x.2.2.1) := rfl
@[go_sem] theorem aG_3 (x : Rg) : (aG x)[3]? = some (.int .i64 x.2.2.2) := rfl
@[go_sem] theorem aW_0 (x : Wd) : (aW x)[0]? = some (.int .i64 x.1) := rfl
@[go_sem] theorem aW_1 (x : Wd) : (aW x)[1]? = some (.string x.2) := rfl
@[go_sem] theorem blP (b : Bool) (n : Int) : (blA 111 #[(0, .bool b), (1, .int .i64 n)]).run Tryz.prog w = .ok (vP (b, n)) w := by kernel_rfl
@[go_sem] theorem blG (a b c d : Int) : (blA 87 #[(0, .int .i64 a), (1, .int .i64 b), (2, .int .i64 c), (3, .int .i64 d)]).run Tryz.prog w = .ok (vG (a, b, c, d)) w := by kernel_rfl
@[go_sem] theorem blW (a : Int) (s : ByteArray) : (blA 56 #[(0, .int .i64 a), (1, .string s)]).run Tryz.prog w = .ok (vW (a, s)) w := by kernel_rfl
@[go_sem] theorem run_bsP_7 (a b c d e f g : Pr) : (bsA 112 7 #[(0, vP a), (1, vP b), (2, vP c), (3, vP d), (4, vP e), (5, vP f), (6, vP g)]).run Tryz.prog w = .ok (.slice (some ⟨w.heap.size, 0, none⟩) 7 7) (w.alloc (.cells (aPs [a, b, c, d, e, f, g]) 111)) := run_bs112 w [a, b, c, d, e, f, g] (by simp)
@[go_sem] theorem run_bsG_4 (a b c d : Rg) : (bsA 88 4 #[(0, vG a), (1, vG b), (2, vG c), (3, vG d)]).run Tryz.prog w = .ok (.slice (some ⟨w.heap.size, 0, none⟩) 4 4) (w.alloc (.cells (aGs [a, b, c, d]) 87)) := run_bs88 w [a, b, c, d] (by simp)
@[go_sem] theorem run_bsW_6 (a b c d e f : Wd) : (bsA 59 6 #[(0, vW a), (1, vW b), (2, vW c), (3, vW d), (4, vW e), (5, vW f)]).run Tryz.prog w = .ok (.slice (some ⟨w.heap.size, 0, none⟩) 6 6) (w.alloc (.cells (aWs [a, b, c, d, e, f]) 56)) := run_bs59 w [a, b, c, d, e, f] (by simp)
end
attribute [go_sem] okA_drew rdA_drew okA_drewN rdA_drewN okA_alloc rdA_alloc rowOk_drew rowOk_drewN rowOk_alloc setRow_new setRow_alloc setRow_drew setRow_drewN
theorem info5 : ∃ i, Tryz.prog.info? 5 = some i ∧ i.size = 1 := by
  have h : (Tryz.prog.info? 5).map (·.size) = some 1 := by kernel_rfl
  cases hq : Tryz.prog.info? 5 with
  | none => rw [hq] at h; cases h
  | some i => exact ⟨i, rfl, by simpa [hq] using h⟩
section
variable (w : World)
@[go_sem] theorem eql37 (a b : Id) : (binOp .eql 37 (vI a) (vI b)).run Tryz.prog w = .ok (.bool (decide (a = b))) w := by
  obtain ⟨i, h1, h2⟩ := info5
  unfold vI cI
  rw [run_eql_bytes w 32 37 5 i a.1 b.1 Tryz.underlying37 Tryz.underlying5 h1 h2 a.2 b.2]
  simp [Subtype.ext_iff]
@[go_sem] theorem neq37 (a b : Id) : (binOp .neq 37 (vI a) (vI b)).run Tryz.prog w = .ok (.bool (!decide (a = b))) w := by
  obtain ⟨i, h1, h2⟩ := info5
  unfold vI cI
  rw [run_neq_bytes w 32 37 5 i a.1 b.1 Tryz.underlying37 Tryz.underlying5 h1 h2 a.2 b.2]
  simp [Subtype.ext_iff]
theorem guard37 : Tryz.prog.eqGuardType Tryz.prog.depth 37 = false := by kernel_rfl
@[go_sem] theorem eqGuard37 (op : BinOp) (x y : Operand) (a b : Id) : (eqGuard op 37 x y (vI a) (vI b)).run Tryz.prog w = .ok () w := run_eqGuard_agg w op 37 x y _ _ guard37
@[go_sem] theorem eql36 (a b : Id) : (binOp .eql 36 (vI a) (vI b)).run Tryz.prog w = .ok (.bool (decide (a = b))) w := by
  obtain ⟨i, h1, h2⟩ := info5
  unfold vI cI
  rw [run_eql_bytes w 32 36 5 i a.1 b.1 Tryz.underlying36 Tryz.underlying5 h1 h2 a.2 b.2]
  simp [Subtype.ext_iff]
@[go_sem] theorem neq36 (a b : Id) : (binOp .neq 36 (vI a) (vI b)).run Tryz.prog w = .ok (.bool (!decide (a = b))) w := by
  obtain ⟨i, h1, h2⟩ := info5
  unfold vI cI
  rw [run_neq_bytes w 32 36 5 i a.1 b.1 Tryz.underlying36 Tryz.underlying5 h1 h2 a.2 b.2]
  simp [Subtype.ext_iff]
theorem guard36 : Tryz.prog.eqGuardType Tryz.prog.depth 36 = false := by kernel_rfl
@[go_sem] theorem eqGuard36 (op : BinOp) (x y : Operand) (a b : Id) : (eqGuard op 36 x y (vI a) (vI b)).run Tryz.prog w = .ok () w := run_eqGuard_agg w op 36 x y _ _ guard36
@[go_sem] theorem aC_0 (c : Cm) : (aC c)[0]? = some (.int .i64 c.verb) := rfl
@[go_sem] theorem aC_1 (c : Cm) : (aC c)[1]? = some (.string c.name) := rfl
theorem aC_hi (c : Cm) (k : Nat) : (aC c)[34 + k]? = [Value.int .i64 c.size, .int .i64 c.from_, .int .i64 c.count, .int .i64 c.code, .string c.text][k]? := by
  unfold aC cC
  rw [List.getElem?_toArray, show 34 + k = (32 + k) + 1 + 1 by omega, List.getElem?_cons_succ, List.getElem?_cons_succ, List.getElem?_append_right (by rw [cI_length]; omega), cI_length, show 32 + k - 32 = k by omega]
@[go_sem] theorem aC_34 (c : Cm) : (aC c)[34]? = some (.int .i64 c.size) := aC_hi c 0
@[go_sem] theorem aC_35 (c : Cm) : (aC c)[35]? = some (.int .i64 c.from_) := aC_hi c 1
@[go_sem] theorem aC_36 (c : Cm) : (aC c)[36]? = some (.int .i64 c.count) := aC_hi c 2
@[go_sem] theorem aC_37 (c : Cm) : (aC c)[37]? = some (.int .i64 c.code) := aC_hi c 3
@[go_sem] theorem aC_38 (c : Cm) : (aC c)[38]? = some (.string c.text) := aC_hi c 4
theorem at_off {w : World} {g k n : Nat} {cs ds : List Value} {ty : TypeId} (hg : g = w.heap.size) (hd : (cs.drop k).take n = ds) : At (w.alloc (.cells cs.toArray ty)) ⟨g, k, none⟩ ds := by
  subst hg
  exact (Row.new w cs ty).at_ hd
theorem cC_id (c : Cm) : ((cC c).drop 2).take 32 = cI c.id := by
  unfold cC
  rw [List.drop_succ_cons, List.drop_succ_cons, List.drop_zero, List.take_append_of_le_length (by rw [cI_length]; omega), List.take_of_length_le (by rw [cI_length]; omega)]
@[go_sem] theorem okA_Cid (c : Cm) (ty : TypeId) (g : Nat) (hg : g = w.heap.size) : okA (w.alloc (.cells (aC c) ty)) ⟨g, 2, none⟩ 32 = true := by
  have h := (at_off (w := w) (ty := ty) hg (cC_id c)).ok
  rwa [cI_length] at h
@[go_sem] theorem rdA_Cid (c : Cm) (ty : TypeId) (g : Nat) (hg : g = w.heap.size) : rdA (w.alloc (.cells (aC c) ty)) ⟨g, 2, none⟩ 32 = vI c.id := by
  have h := (at_off (w := w) (ty := ty) hg (cC_id c)).rd
  rwa [cI_length] at h
end
theorem cC_at {c : Cm} {k : Nat} {v : Value} (h : (aC c)[k]? = some v) : (cC c)[k]? = some v := by
  unfold aC at h
  rwa [List.getElem?_toArray] at h
theorem okA_below {w w' : World} {ad : Addr} {n : Nat} (h : okA w ad n = true) (hlt : ad.block < w.heap.size) (hb : Below w.heap.size w w') : okA w' ad n = true ∧ rdA w' ad n = rdA w ad n := by
  have hc : ∀ j, w'.cell? (ad.add j) = w.cell? (ad.add j) := fun j => hb.cell (by rw [block_of_add]; exact hlt)
  have hp : okA w' ad n = okA w ad n := by
    unfold okA
    simp only [hc]
  refine ⟨hp.trans h, ?_⟩
  unfold rdA
  simp only [hc]
theorem cell_below {w w' : World} {a : Addr} {v : Value} (h : w.cell? a = some v) (hb : Below w.heap.size w w') : w'.cell? a = some v := by
  refine (World.cell?_of_block (hb.block _ ?_)).trans h
  unfold World.cell? at h
  split at h
  · rename_i hh
    exact (Array.getElem?_eq_some_iff.1 hh).1
  · cases h
theorem Row.okw {w : World} {b n : Nat} {cs : List Value} {t : TypeId} (h : Row w b cs t) (hn : cs.length = n) : okA w ⟨b, 0, none⟩ n = true ∧ rdA w ⟨b, 0, none⟩ n = .agg cs.toArray := by
  have h1 := h.at_ (k := 0) (n := n) (ds := cs) (by rw [List.drop_zero, List.take_of_length_le (by omega)])
  have h2 := h1.ok
  have h3 := h1.rd
  rw [hn] at h2 h3
  exact ⟨h2, h3⟩
theorem Row.idC {w : World} {b : Nat} {c : Cm} {t : TypeId} (h : Row w b (cC c) t) : okA w ⟨b, 2, none⟩ 32 = true ∧ rdA w ⟨b, 2, none⟩ 32 = vI c.id := by
  have := h.at_ (cC_id c)
  have h1 := this.ok
  have h2 := this.rd
  rw [cI_length] at h1 h2
  exact ⟨h1, h2⟩
end
section
open Go.RowKit
set_option maxRecDepth 100000 in
set_option maxHeartbeats 400000 in
theorem isZero38 (x : Id) (w : World) : Calls Tryz.prog 36 #[vI x] w fun e w' => e = .returned (.bool (decide (x = zI))) ∧ Below w.heap.size w w' := by
  go_enter Tryz.func36, Tryz.ntmps36
  go_wp2
  go_ret
  exact ⟨rfl, below_alloc _ _⟩
set_option maxRecDepth 100000 in
set_option maxHeartbeats 400000 in
theorem isVerb35 (n : Int) (w : World) (h1 : 1 ≤ n) (h2 : n ≤ 11) : Calls Tryz.prog 33 #[.int .i64 n] w fun e w' => e = .returned (.bool true) ∧ w' = w := by
  go_enter Tryz.func33, Tryz.ntmps33
  go_wp2
  go_ret
  exact ⟨congrArg (fun b => Ending.returned (.bool b)) (by simp), rfl⟩
set_option maxRecDepth 100000 in
set_option maxHeartbeats 400000 in
theorem isVerb35_no (n : Int) (w : World) (h : n < 1 ∨ 11 < n) : Calls Tryz.prog 33 #[.int .i64 n] w fun e w' => e = .returned (.bool false) ∧ w' = w := by
  rcases h with h | h
  · go_enter Tryz.func33, Tryz.ntmps33
    go_wp2
    go_ret
    exact ⟨congrArg (fun b => Ending.returned (.bool b)) (by simp <;> omega), rfl⟩
  · have h1 : 1 ≤ n := by omega
    go_enter Tryz.func33, Tryz.ntmps33
    go_wp2
    go_ret
    exact ⟨congrArg (fun b => Ending.returned (.bool b)) (by simp <;> omega), rfl⟩
def psL (b1 b2 b3 b4 b5 b6 b7 : Bool) : List Pr := [(b1, 1), (b2, 2), (b3, 4), (b4, 8), (b5, 16), (b6, 32), (b7, 64)]
def isSlP (xs : List Pr) : Value → World → Prop := fun v w => ∃ A c, v = .slice A 7 c ∧ 7 ≤ c ∧ Sl w cP A xs
theorem Mono.slP (xs : List Pr) : Mono (isSlP xs) := fun _ _ _ hb ⟨A, c, h1, h2, h3⟩ => ⟨A, c, h1, h2, h3.keep hb⟩
theorem isSlP.mk (u : World) (b1 b2 b3 b4 b5 b6 b7 : Bool) : isSlP (psL b1 b2 b3 b4 b5 b6 b7) (.slice (some ⟨u.heap.size, 0, none⟩) 7 7) (u.alloc (.cells (aPs [(b1, 1), (b2, 2), (b3, 4), (b4, 8), (b5, 16), (b6, 32), (b7, 64)]) 111)) :=
  ⟨_, _, rfl, Nat.le_refl _, fun _ => ⟨_, rfl, at_new u _ 111 _ rfl⟩⟩
/-- The fields that are present. -/
def orL (l : List Pr) : Int := l.foldl (fun n p => if p.1 = true then bits BinOp.or .i64 n p.2 else n) 0
theorem orL_snoc (l : List Pr) (p : Pr) : orL (l ++ [p]) = if p.1 = true then bits BinOp.or .i64 (orL l) p.2 else orL l := by unfold orL; rw [List.foldl_append]; rfl
theorem psL_length (b1 b2 b3 b4 b5 b6 b7 : Bool) : (psL b1 b2 b3 b4 b5 b6 b7).length = 7 := rfl
theorem Sl.pr {w : World} {A : Option Addr} {xs : List Pr} (h : Sl w cP A xs) {k : Nat} (hk : k < xs.length) : ∃ ad, A = some ad ∧ okA w (ad.add (k * 2)) 2 = true ∧ rdA w (ad.add (k * 2)) 2 = vP xs[k] := by
  obtain ⟨ad, rfl, hat⟩ := Sl.at_ cP_length h hk
  have h1 := hat.ok
  have h2 := hat.rd
  rw [cP_length] at h1 h2
  exact ⟨ad, rfl, h1, h2⟩
set_option maxRecDepth 100000 in
set_option maxHeartbeats 3200000 in
theorem present36 (c : Cm) (w : World) (b1 b2 b3 b4 b5 b6 b7 : Bool) (hb : (c.name.toList.isEmpty = !b1) ∧ (decide (c.id = zI) = !b2) ∧ ((c.size != 0) = b3) ∧ ((c.from_ != 0) = b4) ∧ ((c.count != 0) = b5) ∧ ((c.code != 0) = b6) ∧ (c.text.toList.isEmpty = !b7)) :
    Calls Tryz.prog 34 #[vC c] w fun e w' => e = .returned (.int .i64 (orL (psL b1 b2 b3 b4 b5 b6 b7))) ∧ Below w.heap.size w w' := by
  have HB := Lib.hid hb
  clear hb
  have hR := Row.new w (cC c) 39
  have k1 : (w.alloc (.cells (aC c) 39)).cell? ⟨w.heap.size, 1, none⟩ = some (.string c.name) := hR.cell 1
  have k34 : (w.alloc (.cells (aC c) 39)).cell? ⟨w.heap.size, 34, none⟩ = _ := (hR.cell 34).trans (cC_at (aC_34 c))
  have k35 : (w.alloc (.cells (aC c) 39)).cell? ⟨w.heap.size, 35, none⟩ = _ := (hR.cell 35).trans (cC_at (aC_35 c))
  have k36 : (w.alloc (.cells (aC c) 39)).cell? ⟨w.heap.size, 36, none⟩ = _ := (hR.cell 36).trans (cC_at (aC_36 c))
  have k37 : (w.alloc (.cells (aC c) 39)).cell? ⟨w.heap.size, 37, none⟩ = _ := (hR.cell 37).trans (cC_at (aC_37 c))
  have k38 : (w.alloc (.cells (aC c) 39)).cell? ⟨w.heap.size, 38, none⟩ = _ := (hR.cell 38).trans (cC_at (aC_38 c))
  have k2 := okA_Cid w c 39 w.heap.size rfl
  have k2' := rdA_Cid w c 39 w.heap.size rfl
  have hsz : w.heap.size < (w.alloc (.cells (aC c) 39)).heap.size := by simp
  have hB1 := below_alloc w (.cells (aC c) 39)
  clear hR
  go_enter Tryz.func34, Tryz.ntmps34
  go_wp2
  change Code.wp _ _ _ _ (w.alloc (.cells (aC c) 39))
  generalize hW1 : w.alloc (.cells (aC c) 39) = W1 at k1 k34 k35 k36 k37 k38 k2 k2' hsz hB1 ⊢
  refine AnyO.wp_any (by kernel_rfl) (by kernel_rfl) (pstP [isV (.pointer (some ⟨w.heap.size, 1, none⟩)), isV (.string c.name), isV (.bool b1), isV (vP (b1, 1)), isV (.pointer (some ⟨w.heap.size, 2, none⟩)), isV (vI c.id), isV (.bool (!b2)), isV (.bool b2), isV (vP (b2, 2)), isV (.pointer (some ⟨w.heap.size, 34, none⟩)), isV (.int .i64 c.size), isV (.bool b3), isV (vP (b3, 4)), isV (.pointer (some ⟨w.heap.size, 35, none⟩)), isV (.int .i64 c.from_), isV (.bool b4), isV (vP (b4, 8)), isV (.pointer (some ⟨w.heap.size, 36, none⟩)), isV (.int .i64 c.count), isV (.bool b5), isV (vP (b5, 16)), isV (.pointer (some ⟨w.heap.size, 37, none⟩)), isV (.int .i64 c.code), isV (.bool b6), isV (vP (b6, 32)), isV (.pointer (some ⟨w.heap.size, 38, none⟩)), isV (.string c.text), isV (.bool b7), isV (vP (b7, 64)), isSlP (psL b1 b2 b3 b4 b5 b6 b7), isV (.int .i64 7), isV (Value.int IntKind.i64 0)]) (MonoL.cons (Mono.v _) (MonoL.cons (Mono.v _) (MonoL.cons (Mono.v _) (MonoL.cons (Mono.v _) (MonoL.cons (Mono.v _) (MonoL.cons (Mono.v _) (MonoL.cons (Mono.v _) (MonoL.cons (Mono.v _) (MonoL.cons (Mono.v _) (MonoL.cons (Mono.v _) (MonoL.cons (Mono.v _) (MonoL.cons (Mono.v _) (MonoL.cons (Mono.v _) (MonoL.cons (Mono.v _) (MonoL.cons (Mono.v _) (MonoL.cons (Mono.v _) (MonoL.cons (Mono.v _) (MonoL.cons (Mono.v _) (MonoL.cons (Mono.v _) (MonoL.cons (Mono.v _) (MonoL.cons (Mono.v _) (MonoL.cons (Mono.v _) (MonoL.cons (Mono.v _) (MonoL.cons (Mono.v _) (MonoL.cons (Mono.v _) (MonoL.cons (Mono.v _) (MonoL.cons (Mono.v _) (MonoL.cons (Mono.v _) (MonoL.cons (Mono.v _) (MonoL.cons (Mono.slP _) (MonoL.cons (Mono.v _) (MonoL.cons (Mono.v _) MonoL.nil)))))))))))))))))))))))))))))))) ?_ ?_
  · intro i hi
    have hi2 : i = 0 ∨ i = 1 ∨ i = 2 ∨ i = 3 ∨ i = 4 ∨ i = 5 ∨ i = 6 ∨ i = 7 ∨ i = 8 ∨ i = 9 ∨ i = 10 ∨ i = 11 ∨ i = 12 ∨ i = 13 ∨ i = 14 ∨ i = 15 ∨ i = 16 ∨ i = 17 ∨ i = 18 ∨ i = 19 ∨ i = 20 ∨ i = 21 ∨ i = 22 ∨ i = 23 ∨ i = 24 ∨ i = 25 ∨ i = 26 ∨ i = 27 ∨ i = 28 ∨ i = 29 ∨ i = 30 ∨ i = 31 := by simp only [List.size_toArray, List.length_cons, List.length_nil] at hi; omega
    clear hi
    rcases hi2 with rfl | rfl | rfl | rfl | rfl | rfl | rfl | rfl | rfl | rfl | rfl | rfl | rfl | rfl | rfl | rfl | rfl | rfl | rfl | rfl | rfl | rfl | rfl | rfl | rfl | rfl | rfl | rfl | rfl | rfl | rfl | rfl
    · -- 0: Op.fieldAddr 27 (Operand.tmp 1) 1
      refine AnyO.Step.mk rfl [] (by kernel_rfl) ?_
      intro vs u hE hp ac hb K hK
      have s1 : ac.tmps[1]?.getD undef = .pointer (some ⟨w.heap.size, 0, none⟩) := by rw [hb]; kernel_rfl
      rw [if_pos (AnyO.wanted_none rfl)]
      clear hb hp
      go_simp
      exact hK _ _ (Below.refl _ _) rfl
    · -- 1: Op.load 9 (Operand.tmp 6)
      refine AnyO.Step.mk rfl [0] (by kernel_rfl) ?_
      intro vs u hE hp ac hb K hK
      have s6 : ac.tmps[6]?.getD undef = .pointer (some ⟨w.heap.size, 1, none⟩) := by rw [hb]; exact (show _ = vs 0 by kernel_rfl).trans (hp 0 (by decide))
      rw [if_pos (AnyO.wanted_none rfl)]
      clear hb hp
      have rr := cell_below k1 (Below.step (below_drew _) hE)
      go_simp
      exact hK _ _ (Below.refl _ _) rfl
    · -- 2: Op.binOp BinOp.neq 9 (Operand.tmp 7) (Operand.const (Value.s
      refine AnyO.Step.mk rfl [1] (by kernel_rfl) ?_
      intro vs u hE hp ac hb K hK
      have s7 : ac.tmps[7]?.getD undef = .string c.name := by rw [hb]; exact (show _ = vs 1 by kernel_rfl).trans (hp 1 (by decide))
      rw [if_pos (AnyO.wanted_none rfl)]
      clear hb hp
      have rr := HB.out.1
      go_simp
      exact hK _ _ (Below.refl _ _) rfl
    · -- 3: Op.build 114 #[(0, Operand.tmp 8), (1, Operand.const (Value.
      refine AnyO.Step.mk rfl [2] (by kernel_rfl) ?_
      intro vs u hE hp ac hb K hK
      have s8 : ac.tmps[8]?.getD undef = .bool b1 := by rw [hb]; exact (show _ = vs 2 by kernel_rfl).trans (hp 2 (by decide))
      rw [if_pos (AnyO.wanted_none rfl)]
      clear hb hp
      go_simp
      exact hK _ _ (Below.refl _ _) rfl
    · -- 4: Op.fieldAddr 27 (Operand.tmp 1) 2
      refine AnyO.Step.mk rfl [] (by kernel_rfl) ?_
      intro vs u hE hp ac hb K hK
      have s1 : ac.tmps[1]?.getD undef = .pointer (some ⟨w.heap.size, 0, none⟩) := by rw [hb]; kernel_rfl
      rw [if_pos (AnyO.wanted_none rfl)]
      clear hb hp
      go_simp
      exact hK _ _ (Below.refl _ _) rfl
    · -- 5: Op.load 24 (Operand.tmp 10)
      refine AnyO.Step.mk rfl [4] (by kernel_rfl) ?_
      intro vs u hE hp ac hb K hK
      have s10 : ac.tmps[10]?.getD undef = .pointer (some ⟨w.heap.size, 2, none⟩) := by rw [hb]; exact (show _ = vs 4 by kernel_rfl).trans (hp 4 (by decide))
      rw [if_pos (AnyO.wanted_none rfl)]
      clear hb hp
      have rr := okA_below k2 hsz (Below.step (below_drew _) hE)
      rw [k2'] at rr
      obtain ⟨rr1, rr2⟩ := rr
      go_simp
      exact hK _ _ (Below.refl _ _) rfl
    · -- 6: Op.call { callee := Callee.value (Operand.func 38), args := 
      refine AnyO.Step.mk rfl [5] (by kernel_rfl) ?_
      intro vs u hE hp ac hb K hK
      have s11 : ac.tmps[11]?.getD undef = vI c.id := by rw [hb]; exact (show _ = vs 5 by kernel_rfl).trans (hp 5 (by decide))
      rw [if_pos (AnyO.wanted_none rfl)]
      clear hb hp
      go_simp
      go_at_call 36
      refine (isZero38 c.id u).mono ?_
      rintro e w2 ⟨rfl, hb2⟩
      rw [HB.out.2.1]
      exact hK _ _ hb2 rfl
    · -- 7: Op.unOp UnOp.not 4 (Operand.tmp 12)
      refine AnyO.Step.mk rfl [6] (by kernel_rfl) ?_
      intro vs u hE hp ac hb K hK
      have s12 : ac.tmps[12]?.getD undef = .bool (!b2) := by rw [hb]; exact (show _ = vs 6 by kernel_rfl).trans (hp 6 (by decide))
      rw [if_pos (AnyO.wanted_none rfl)]
      clear hb hp
      go_simp
      exact hK _ _ (Below.refl _ _) rfl
    · -- 8: Op.build 114 #[(0, Operand.tmp 13), (1, Operand.const (Value
      refine AnyO.Step.mk rfl [7] (by kernel_rfl) ?_
      intro vs u hE hp ac hb K hK
      have s13 : ac.tmps[13]?.getD undef = .bool b2 := by rw [hb]; exact (show _ = vs 7 by kernel_rfl).trans (hp 7 (by decide))
      rw [if_pos (AnyO.wanted_none rfl)]
      clear hb hp
      go_simp
      exact hK _ _ (Below.refl _ _) rfl
    · -- 9: Op.fieldAddr 27 (Operand.tmp 1) 3
      refine AnyO.Step.mk rfl [] (by kernel_rfl) ?_
      intro vs u hE hp ac hb K hK
      have s1 : ac.tmps[1]?.getD undef = .pointer (some ⟨w.heap.size, 0, none⟩) := by rw [hb]; kernel_rfl
      rw [if_pos (AnyO.wanted_none rfl)]
      clear hb hp
      go_simp
      exact hK _ _ (Below.refl _ _) rfl
    · -- 10: Op.load 3 (Operand.tmp 15)
      refine AnyO.Step.mk rfl [9] (by kernel_rfl) ?_
      intro vs u hE hp ac hb K hK
      have s15 : ac.tmps[15]?.getD undef = .pointer (some ⟨w.heap.size, 34, none⟩) := by rw [hb]; exact (show _ = vs 9 by kernel_rfl).trans (hp 9 (by decide))
      rw [if_pos (AnyO.wanted_none rfl)]
      clear hb hp
      have rr := cell_below k34 (Below.step (below_drew _) hE)
      go_simp
      exact hK _ _ (Below.refl _ _) rfl
    · -- 11: Op.binOp BinOp.neq 3 (Operand.tmp 16) (Operand.const (Value.
      refine AnyO.Step.mk rfl [10] (by kernel_rfl) ?_
      intro vs u hE hp ac hb K hK
      have s16 : ac.tmps[16]?.getD undef = .int .i64 c.size := by rw [hb]; exact (show _ = vs 10 by kernel_rfl).trans (hp 10 (by decide))
      rw [if_pos (AnyO.wanted_none rfl)]
      clear hb hp
      have rr := HB.out.2.2.1
      go_simp
      exact hK _ _ (Below.refl _ _) rfl
    · -- 12: Op.build 114 #[(0, Operand.tmp 17), (1, Operand.const (Value
      refine AnyO.Step.mk rfl [11] (by kernel_rfl) ?_
      intro vs u hE hp ac hb K hK
      have s17 : ac.tmps[17]?.getD undef = .bool b3 := by rw [hb]; exact (show _ = vs 11 by kernel_rfl).trans (hp 11 (by decide))
      rw [if_pos (AnyO.wanted_none rfl)]
      clear hb hp
      go_simp
      exact hK _ _ (Below.refl _ _) rfl
    · -- 13: Op.fieldAddr 27 (Operand.tmp 1) 4
      refine AnyO.Step.mk rfl [] (by kernel_rfl) ?_
      intro vs u hE hp ac hb K hK
      have s1 : ac.tmps[1]?.getD undef = .pointer (some ⟨w.heap.size, 0, none⟩) := by rw [hb]; kernel_rfl
      rw [if_pos (AnyO.wanted_none rfl)]
      clear hb hp
      go_simp
      exact hK _ _ (Below.refl _ _) rfl
    · -- 14: Op.load 3 (Operand.tmp 19)
      refine AnyO.Step.mk rfl [13] (by kernel_rfl) ?_
      intro vs u hE hp ac hb K hK
      have s19 : ac.tmps[19]?.getD undef = .pointer (some ⟨w.heap.size, 35, none⟩) := by rw [hb]; exact (show _ = vs 13 by kernel_rfl).trans (hp 13 (by decide))
      rw [if_pos (AnyO.wanted_none rfl)]
      clear hb hp
      have rr := cell_below k35 (Below.step (below_drew _) hE)
      go_simp
      exact hK _ _ (Below.refl _ _) rfl
    · -- 15: Op.binOp BinOp.neq 3 (Operand.tmp 20) (Operand.const (Value.
      refine AnyO.Step.mk rfl [14] (by kernel_rfl) ?_
      intro vs u hE hp ac hb K hK
      have s20 : ac.tmps[20]?.getD undef = .int .i64 c.from_ := by rw [hb]; exact (show _ = vs 14 by kernel_rfl).trans (hp 14 (by decide))
      rw [if_pos (AnyO.wanted_none rfl)]
      clear hb hp
      have rr := HB.out.2.2.2.1
      go_simp
      exact hK _ _ (Below.refl _ _) rfl
    · -- 16: Op.build 114 #[(0, Operand.tmp 21), (1, Operand.const (Value
      refine AnyO.Step.mk rfl [15] (by kernel_rfl) ?_
      intro vs u hE hp ac hb K hK
      have s21 : ac.tmps[21]?.getD undef = .bool b4 := by rw [hb]; exact (show _ = vs 15 by kernel_rfl).trans (hp 15 (by decide))
      rw [if_pos (AnyO.wanted_none rfl)]
      clear hb hp
      go_simp
      exact hK _ _ (Below.refl _ _) rfl
    · -- 17: Op.fieldAddr 27 (Operand.tmp 1) 5
      refine AnyO.Step.mk rfl [] (by kernel_rfl) ?_
      intro vs u hE hp ac hb K hK
      have s1 : ac.tmps[1]?.getD undef = .pointer (some ⟨w.heap.size, 0, none⟩) := by rw [hb]; kernel_rfl
      rw [if_pos (AnyO.wanted_none rfl)]
      clear hb hp
      go_simp
      exact hK _ _ (Below.refl _ _) rfl
    · -- 18: Op.load 3 (Operand.tmp 23)
      refine AnyO.Step.mk rfl [17] (by kernel_rfl) ?_
      intro vs u hE hp ac hb K hK
      have s23 : ac.tmps[23]?.getD undef = .pointer (some ⟨w.heap.size, 36, none⟩) := by rw [hb]; exact (show _ = vs 17 by kernel_rfl).trans (hp 17 (by decide))
      rw [if_pos (AnyO.wanted_none rfl)]
      clear hb hp
      have rr := cell_below k36 (Below.step (below_drew _) hE)
      go_simp
      exact hK _ _ (Below.refl _ _) rfl
    · -- 19: Op.binOp BinOp.neq 3 (Operand.tmp 24) (Operand.const (Value.
      refine AnyO.Step.mk rfl [18] (by kernel_rfl) ?_
      intro vs u hE hp ac hb K hK
      have s24 : ac.tmps[24]?.getD undef = .int .i64 c.count := by rw [hb]; exact (show _ = vs 18 by kernel_rfl).trans (hp 18 (by decide))
      rw [if_pos (AnyO.wanted_none rfl)]
      clear hb hp
      have rr := HB.out.2.2.2.2.1
      go_simp
      exact hK _ _ (Below.refl _ _) rfl
    · -- 20: Op.build 114 #[(0, Operand.tmp 25), (1, Operand.const (Value
      refine AnyO.Step.mk rfl [19] (by kernel_rfl) ?_
      intro vs u hE hp ac hb K hK
      have s25 : ac.tmps[25]?.getD undef = .bool b5 := by rw [hb]; exact (show _ = vs 19 by kernel_rfl).trans (hp 19 (by decide))
      rw [if_pos (AnyO.wanted_none rfl)]
      clear hb hp
      go_simp
      exact hK _ _ (Below.refl _ _) rfl
    · -- 21: Op.fieldAddr 27 (Operand.tmp 1) 6
      refine AnyO.Step.mk rfl [] (by kernel_rfl) ?_
      intro vs u hE hp ac hb K hK
      have s1 : ac.tmps[1]?.getD undef = .pointer (some ⟨w.heap.size, 0, none⟩) := by rw [hb]; kernel_rfl
      rw [if_pos (AnyO.wanted_none rfl)]
      clear hb hp
      go_simp
      exact hK _ _ (Below.refl _ _) rfl
    · -- 22: Op.load 25 (Operand.tmp 27)
      refine AnyO.Step.mk rfl [21] (by kernel_rfl) ?_
      intro vs u hE hp ac hb K hK
      have s27 : ac.tmps[27]?.getD undef = .pointer (some ⟨w.heap.size, 37, none⟩) := by rw [hb]; exact (show _ = vs 21 by kernel_rfl).trans (hp 21 (by decide))
      rw [if_pos (AnyO.wanted_none rfl)]
      clear hb hp
      have rr := cell_below k37 (Below.step (below_drew _) hE)
      go_simp
      exact hK _ _ (Below.refl _ _) rfl
    · -- 23: Op.binOp BinOp.neq 25 (Operand.tmp 28) (Operand.const (Value
      refine AnyO.Step.mk rfl [22] (by kernel_rfl) ?_
      intro vs u hE hp ac hb K hK
      have s28 : ac.tmps[28]?.getD undef = .int .i64 c.code := by rw [hb]; exact (show _ = vs 22 by kernel_rfl).trans (hp 22 (by decide))
      rw [if_pos (AnyO.wanted_none rfl)]
      clear hb hp
      have rr := HB.out.2.2.2.2.2.1
      go_simp
      exact hK _ _ (Below.refl _ _) rfl
    · -- 24: Op.build 114 #[(0, Operand.tmp 29), (1, Operand.const (Value
      refine AnyO.Step.mk rfl [23] (by kernel_rfl) ?_
      intro vs u hE hp ac hb K hK
      have s29 : ac.tmps[29]?.getD undef = .bool b6 := by rw [hb]; exact (show _ = vs 23 by kernel_rfl).trans (hp 23 (by decide))
      rw [if_pos (AnyO.wanted_none rfl)]
      clear hb hp
      go_simp
      exact hK _ _ (Below.refl _ _) rfl
    · -- 25: Op.fieldAddr 27 (Operand.tmp 1) 7
      refine AnyO.Step.mk rfl [] (by kernel_rfl) ?_
      intro vs u hE hp ac hb K hK
      have s1 : ac.tmps[1]?.getD undef = .pointer (some ⟨w.heap.size, 0, none⟩) := by rw [hb]; kernel_rfl
      rw [if_pos (AnyO.wanted_none rfl)]
      clear hb hp
      go_simp
      exact hK _ _ (Below.refl _ _) rfl
    · -- 26: Op.load 9 (Operand.tmp 31)
      refine AnyO.Step.mk rfl [25] (by kernel_rfl) ?_
      intro vs u hE hp ac hb K hK
      have s31 : ac.tmps[31]?.getD undef = .pointer (some ⟨w.heap.size, 38, none⟩) := by rw [hb]; exact (show _ = vs 25 by kernel_rfl).trans (hp 25 (by decide))
      rw [if_pos (AnyO.wanted_none rfl)]
      clear hb hp
      have rr := cell_below k38 (Below.step (below_drew _) hE)
      go_simp
      exact hK _ _ (Below.refl _ _) rfl
    · -- 27: Op.binOp BinOp.neq 9 (Operand.tmp 32) (Operand.const (Value.
      refine AnyO.Step.mk rfl [26] (by kernel_rfl) ?_
      intro vs u hE hp ac hb K hK
      have s32 : ac.tmps[32]?.getD undef = .string c.text := by rw [hb]; exact (show _ = vs 26 by kernel_rfl).trans (hp 26 (by decide))
      rw [if_pos (AnyO.wanted_none rfl)]
      clear hb hp
      have rr := HB.out.2.2.2.2.2.2
      go_simp
      exact hK _ _ (Below.refl _ _) rfl
    · -- 28: Op.build 114 #[(0, Operand.tmp 33), (1, Operand.const (Value
      refine AnyO.Step.mk rfl [27] (by kernel_rfl) ?_
      intro vs u hE hp ac hb K hK
      have s33 : ac.tmps[33]?.getD undef = .bool b7 := by rw [hb]; exact (show _ = vs 27 by kernel_rfl).trans (hp 27 (by decide))
      rw [if_pos (AnyO.wanted_none rfl)]
      clear hb hp
      go_simp
      exact hK _ _ (Below.refl _ _) rfl
    · -- 29: Op.buildSlice 115 7 #[(0, Operand.tmp 9), (1, Operand.tmp 14
      refine AnyO.Step.mk rfl [3, 8, 12, 16, 20, 24, 28] (by kernel_rfl) ?_
      intro vs u hE hp ac hb K hK
      have s9 : ac.tmps[9]?.getD undef = vP (b1, 1) := by rw [hb]; exact (show _ = vs 3 by kernel_rfl).trans (hp 3 (by decide))
      have s14 : ac.tmps[14]?.getD undef = vP (b2, 2) := by rw [hb]; exact (show _ = vs 8 by kernel_rfl).trans (hp 8 (by decide))
      have s18 : ac.tmps[18]?.getD undef = vP (b3, 4) := by rw [hb]; exact (show _ = vs 12 by kernel_rfl).trans (hp 12 (by decide))
      have s22 : ac.tmps[22]?.getD undef = vP (b4, 8) := by rw [hb]; exact (show _ = vs 16 by kernel_rfl).trans (hp 16 (by decide))
      have s26 : ac.tmps[26]?.getD undef = vP (b5, 16) := by rw [hb]; exact (show _ = vs 20 by kernel_rfl).trans (hp 20 (by decide))
      have s30 : ac.tmps[30]?.getD undef = vP (b6, 32) := by rw [hb]; exact (show _ = vs 24 by kernel_rfl).trans (hp 24 (by decide))
      have s34 : ac.tmps[34]?.getD undef = vP (b7, 64) := by rw [hb]; exact (show _ = vs 28 by kernel_rfl).trans (hp 28 (by decide))
      rw [if_pos (AnyO.wanted_none rfl)]
      clear hb hp
      go_simp
      exact hK _ _ (below_alloc _ _) (isSlP.mk u _ _ _ _ _ _ _)
    · -- 30: Op.call { callee := Callee.builtin Builtin.len, args := #[Op
      refine AnyO.Step.mk rfl [29] (by kernel_rfl) ?_
      intro vs u hE hp ac hb K hK
      obtain ⟨A35, c35, e35, h35⟩ := hp 29 (by decide)
      have s35 : ac.tmps[35]?.getD undef = .slice A35 7 c35 := by rw [hb]; exact (show _ = vs 29 by kernel_rfl).trans e35
      clear e35
      rw [if_pos (AnyO.wanted_none rfl)]
      clear hb hp
      go_simp
      exact hK _ _ (Below.refl _ _) rfl
    · -- 31: Op.move (Operand.const (Value.int IntKind.i64 0))
      refine AnyO.Step.mk rfl [] (by kernel_rfl) ?_
      intro vs u hE hp ac hb K hK
      rw [if_pos (AnyO.wanted_none rfl)]
      clear hb hp
      go_simp
      exact hK _ _ (Below.refl _ _) rfl
  · intro vs u hE hp
    have e0 : vs 0 = .pointer (some ⟨w.heap.size, 1, none⟩) := hp 0 (by decide)
    have e1 : vs 1 = .string c.name := hp 1 (by decide)
    have e2 : vs 2 = .bool b1 := hp 2 (by decide)
    have e3 : vs 3 = vP (b1, 1) := hp 3 (by decide)
    have e4 : vs 4 = .pointer (some ⟨w.heap.size, 2, none⟩) := hp 4 (by decide)
    have e5 : vs 5 = vI c.id := hp 5 (by decide)
    have e6 : vs 6 = .bool (!b2) := hp 6 (by decide)
    have e7 : vs 7 = .bool b2 := hp 7 (by decide)
    have e8 : vs 8 = vP (b2, 2) := hp 8 (by decide)
    have e9 : vs 9 = .pointer (some ⟨w.heap.size, 34, none⟩) := hp 9 (by decide)
    have e10 : vs 10 = .int .i64 c.size := hp 10 (by decide)
    have e11 : vs 11 = .bool b3 := hp 11 (by decide)
    have e12 : vs 12 = vP (b3, 4) := hp 12 (by decide)
    have e13 : vs 13 = .pointer (some ⟨w.heap.size, 35, none⟩) := hp 13 (by decide)
    have e14 : vs 14 = .int .i64 c.from_ := hp 14 (by decide)
    have e15 : vs 15 = .bool b4 := hp 15 (by decide)
    have e16 : vs 16 = vP (b4, 8) := hp 16 (by decide)
    have e17 : vs 17 = .pointer (some ⟨w.heap.size, 36, none⟩) := hp 17 (by decide)
    have e18 : vs 18 = .int .i64 c.count := hp 18 (by decide)
    have e19 : vs 19 = .bool b5 := hp 19 (by decide)
    have e20 : vs 20 = vP (b5, 16) := hp 20 (by decide)
    have e21 : vs 21 = .pointer (some ⟨w.heap.size, 37, none⟩) := hp 21 (by decide)
    have e22 : vs 22 = .int .i64 c.code := hp 22 (by decide)
    have e23 : vs 23 = .bool b6 := hp 23 (by decide)
    have e24 : vs 24 = vP (b6, 32) := hp 24 (by decide)
    have e25 : vs 25 = .pointer (some ⟨w.heap.size, 38, none⟩) := hp 25 (by decide)
    have e26 : vs 26 = .string c.text := hp 26 (by decide)
    have e27 : vs 27 = .bool b7 := hp 27 (by decide)
    have e28 : vs 28 = vP (b7, 64) := hp 28 (by decide)
    obtain ⟨A_29, c_29, e29, h_29⟩ := show isSlP (psL b1 b2 b3 b4 b5 b6 b7) (vs 29) u from hp 29 (by decide)
    have e30 : vs 30 = .int .i64 7 := hp 30 (by decide)
    have e31 : vs 31 = Value.int IntKind.i64 0 := hp 31 (by decide)
    clear hp
    have HE := Lib.hid (And.intro hE h_29)
    clear hE h_29
    rw [puts_range [some 6, some 7, some 8, some 9, some 10, some 11, some 12, some 13, some 14, some 15, some 16, some 17, some 18, some 19, some 20, some 21, some 22, some 23, some 24, some 25, some 26, some 27, some 28, some 29, some 30, some 31, some 32, some 33, some 34, some 35, some 36, some 37] (by kernel_rfl)]
    simp only [putL, Nat.reduceAdd, e0, e1, e2, e3, e4, e5, e6, e7, e8, e9, e10, e11, e12, e13, e14, e15, e16, e17, e18, e19, e20, e21, e22, e23, e24, e25, e26, e27, e28, e29, e30, e31]
    clear e0 e1 e2 e3 e4 e5 e6 e7 e8 e9 e10 e11 e12 e13 e14 e15 e16 e17 e18 e19 e20 e21 e22 e23 e24 e25 e26 e27 e28 e29 e30 e31
    go_simp
    generalize hxs : psL b1 b2 b3 b4 b5 b6 b7 = xs at HE ⊢
    have hl7 : xs.length = 7 := by rw [← hxs]; rfl
    have HL := Lib.hid hxs
    clear hxs
    go_wp2
    go_loopw [3, 37] (fun v i wr => ∃ k : Nat, k ≤ 7 ∧ i = .int .i64 k ∧ v = .int .i64 (orL (xs.take k)) ∧ Below u.heap.size u wr) (fun _ i _ => 7 - (intOf i).toNat)
    case atStart => exact ⟨0, by omega, rfl, rfl, Below.refl _ _⟩
    case round =>
      obtain ⟨k, hk, rfl, rfl, hb⟩ := hrel
      have HB2 := Lib.hid hb
      by_cases hlt : k < 7
      · obtain ⟨ad, rfl, hok, hrd⟩ := Sl.pr (HE.out.2.2.keep hb) (show k < xs.length by omega)
        have HT := Lib.hid (show orL (xs.take (k + 1)) = _ by rw [List.take_succ_eq_append_getElem (show k < xs.length by omega), orL_snoc])
        have hlk : (k : Int) < 7 := by omega
        generalize xs[k] = p at hok hrd HT
        obtain ⟨b, n⟩ := p
        clear hb
        cases b with
        | true =>
          go_wp2
          go_roundw
          case rel => exact ⟨k + 1, hlt, by go_num, by rw [HT.out]; rfl, Below.step HB2.out (below_alloc _ _)⟩
          case measure => simp [intOf] <;> omega
        | false =>
          go_wp2
          go_roundw
          case rel => exact ⟨k + 1, hlt, by go_num, by rw [HT.out]; rfl, Below.step HB2.out (below_alloc _ _)⟩
          case measure => simp [intOf] <;> omega
      · have hk7 : k = 7 := by omega
        subst hk7
        go_wp2
        go_ret
        exact ⟨by rw [List.take_of_length_le (by omega), HL.out]; rfl, Below.step hB1 (Below.step HE.out.1 HB2.out)⟩
end
end Go.Proofs.YtfbpipknhghneaaGreatDoor
