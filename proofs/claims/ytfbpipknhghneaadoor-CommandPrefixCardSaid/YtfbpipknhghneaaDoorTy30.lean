/- The types of the commands at this translation: identities, commands, and the small structs; loaded, stored, boxed, built as whole values. -/
import Derived.Test.YtfbpipknhghneaaDoorRow
import Derived.Test.YtfbpipknhghneaaDoorProg
import Derived.Test.YtfbpipknhghneaaDoorShelf
import Derived.Deep.CutBlock
namespace Go.Proofs.YtfbpipknhghneaaDoor
open Go.RowKit
theorem cons_of {n : Nat} (l : List UInt8) (h : l.length = n + 1) : ∃ a r, l = a :: r ∧ r.length = n := by
  cases l with
  | nil => cases h
  | cons a r => exact ⟨a, r, rfl, by simpa using h⟩
theorem Id.cases {P : Id → Prop} (h : ∀ a0 a1 a2 a3 a4 a5 a6 a7 a8 a9 a10 a11 a12 a13 a14 a15 a16 a17 a18 a19 a20 a21 a22 a23 a24 a25 a26 a27 a28 a29 a30 a31 : UInt8, P ⟨[a0, a1, a2, a3, a4, a5, a6, a7, a8, a9, a10, a11, a12, a13, a14, a15, a16, a17, a18, a19, a20, a21, a22, a23, a24, a25, a26, a27, a28, a29, a30, a31], rfl⟩) (x : Id) : P x := by
  obtain ⟨l0, hl⟩ := x
  obtain ⟨a0, l1, rfl, h0⟩ := cons_of l0 hl
  obtain ⟨a1, l2, rfl, h1⟩ := cons_of l1 h0
  obtain ⟨a2, l3, rfl, h2⟩ := cons_of l2 h1
  obtain ⟨a3, l4, rfl, h3⟩ := cons_of l3 h2
  obtain ⟨a4, l5, rfl, h4⟩ := cons_of l4 h3
  obtain ⟨a5, l6, rfl, h5⟩ := cons_of l5 h4
  obtain ⟨a6, l7, rfl, h6⟩ := cons_of l6 h5
  obtain ⟨a7, l8, rfl, h7⟩ := cons_of l7 h6
  obtain ⟨a8, l9, rfl, h8⟩ := cons_of l8 h7
  obtain ⟨a9, l10, rfl, h9⟩ := cons_of l9 h8
  obtain ⟨a10, l11, rfl, h10⟩ := cons_of l10 h9
  obtain ⟨a11, l12, rfl, h11⟩ := cons_of l11 h10
  obtain ⟨a12, l13, rfl, h12⟩ := cons_of l12 h11
  obtain ⟨a13, l14, rfl, h13⟩ := cons_of l13 h12
  obtain ⟨a14, l15, rfl, h14⟩ := cons_of l14 h13
  obtain ⟨a15, l16, rfl, h15⟩ := cons_of l15 h14
  obtain ⟨a16, l17, rfl, h16⟩ := cons_of l16 h15
  obtain ⟨a17, l18, rfl, h17⟩ := cons_of l17 h16
  obtain ⟨a18, l19, rfl, h18⟩ := cons_of l18 h17
  obtain ⟨a19, l20, rfl, h19⟩ := cons_of l19 h18
  obtain ⟨a20, l21, rfl, h20⟩ := cons_of l20 h19
  obtain ⟨a21, l22, rfl, h21⟩ := cons_of l21 h20
  obtain ⟨a22, l23, rfl, h22⟩ := cons_of l22 h21
  obtain ⟨a23, l24, rfl, h23⟩ := cons_of l23 h22
  obtain ⟨a24, l25, rfl, h24⟩ := cons_of l24 h23
  obtain ⟨a25, l26, rfl, h25⟩ := cons_of l25 h24
  obtain ⟨a26, l27, rfl, h26⟩ := cons_of l26 h25
  obtain ⟨a27, l28, rfl, h27⟩ := cons_of l27 h26
  obtain ⟨a28, l29, rfl, h28⟩ := cons_of l28 h27
  obtain ⟨a29, l30, rfl, h29⟩ := cons_of l29 h28
  obtain ⟨a30, l31, rfl, h30⟩ := cons_of l30 h29
  obtain ⟨a31, l32, rfl, h31⟩ := cons_of l31 h30
  obtain rfl : l32 = [] := List.eq_nil_of_length_eq_zero h31
  exact h a0 a1 a2 a3 a4 a5 a6 a7 a8 a9 a10 a11 a12 a13 a14 a15 a16 a17 a18 a19 a20 a21 a22 a23 a24 a25 a26 a27 a28 a29 a30 a31
/-- The zero identity. -/
def zI : Id := ⟨List.replicate 32 0, by simp⟩
structure Cm where
  verb : Int
  name : ByteArray
  id : Id
  size : Int
  from_ : Int
  count : Int
  code : Int
  text : ByteArray
def cC (c : Cm) : List Value := .int .i64 c.verb :: .string c.name :: (cI c.id ++ [.int .i64 c.size, .int .i64 c.from_, .int .i64 c.count, .int .i64 c.code, .string c.text])
def zC : Cm := ⟨0, ⟨#[]⟩, zI, 0, 0, 0, 0, ⟨#[]⟩⟩
def vC (c : Cm) : Value := .agg (cC c).toArray
/-- The cells as a block holds them. -/
def aI (x : Id) : Array Value := (cI x).toArray
def aC (c : Cm) : Array Value := (cC c).toArray
theorem cC_length (c : Cm) : (cC c).length = 39 := by simp [cC, cI_length]
theorem cC_one (c : Cm) : ∀ u ∈ cC c, u.oneCell' = true := by
  intro u hu
  simp only [cC, List.mem_cons, List.mem_append, List.not_mem_nil, or_false] at hu
  rcases hu with rfl | rfl | h | rfl | rfl | rfl | rfl | rfl
  · rfl
  · rfl
  · exact cI_one _ u h
  all_goals rfl
/-- Pairs of a bool and a number; a form; a range of a field; a field's word: small structs as whole values. -/
abbrev Pr := Bool × Int
abbrev Fm := ByteArray × Int × Int
abbrev Rg := Int × Int × Int × Int
abbrev Wd := Int × ByteArray
def cP (x : Pr) : List Value := [.bool x.1, .int .i64 x.2]
def cF (x : Fm) : List Value := [.string x.1, .int .i64 x.2.1, .int .i64 x.2.2]
def cG (x : Rg) : List Value := [.int .i64 x.1, .int .i64 x.2.1, .int .i64 x.2.2.1, .int .i64 x.2.2.2]
def cW (x : Wd) : List Value := [.int .i64 x.1, .string x.2]
def vP (x : Pr) : Value := .agg (cP x).toArray
def vF (x : Fm) : Value := .agg (cF x).toArray
def vG (x : Rg) : Value := .agg (cG x).toArray
def vW (x : Wd) : Value := .agg (cW x).toArray
def aP (x : Pr) : Array Value := (cP x).toArray
def aF (x : Fm) : Array Value := (cF x).toArray
def aG (x : Rg) : Array Value := (cG x).toArray
def aW (x : Wd) : Array Value := (cW x).toArray
section
variable (w : World) (v : Value)
theorem under24 : ∃ d, Tryd.prog.underlying 24 = some d ∧ (match d with | .struct _ | .array _ _ => true | _ => false) = true := ⟨_, Tryd.underlying24, rfl⟩
theorem size24 : (Tryd.prog.info? 24).map (·.size) = some 32 := by kernel_rfl
@[go_sem ↓] theorem load24 : Instr.loadAt 24 v = ldA 24 v := rfl
@[go_sem] theorem run_ld24 (ad : Addr) : (ldA 24 (.pointer (some ad))).run Tryd.prog w = if okA w ad 32 = true then .ok (rdA w ad 32) w else (ldB 24 (.pointer (some ad))).run Tryd.prog w := run_ldA_if w 24 ad 32 _ Tryd.underlying24 rfl size24
@[go_sem ↓] theorem blt24 (parts : Array (Nat × Value)) : Instr.build 24 parts = blA 24 parts := rfl
@[go_sem ↓] theorem box24 : Instr.box 24 v = bxA 24 v := rfl
@[go_sem] theorem run_bx24 (x : Id) : (bxA 24 (vI x)).run Tryd.prog w = .ok (.pointer (some ⟨w.heap.size, 0, none⟩)) (w.alloc (.cells (aI x) 24)) := run_bxA w 24 _
@[go_sem ↓] theorem alloc24 (h : Bool) : Instr.alloc 24 h v = alA 24 h v := rfl
@[go_sem ↓] theorem store24 (u : Value) : Instr.storeAt 24 v u = stA 24 v u := rfl
@[go_sem] theorem run_st24 (g : Nat) (x : Id) : (stA 24 (.pointer (some ⟨g, 0, none⟩)) (vI x)).run Tryd.prog w = if rowOk w g 32 = true then .ok () (w.setRow g (aI x)) else (stB 24 (.pointer (some ⟨g, 0, none⟩)) (vI x)).run Tryd.prog w := run_stA_if w 24 g _ 32 size24 (by simp [cI_length]) (by simpa using cI_one x)
@[go_sem] theorem run_al24 : (alA 24 true (.tuple #[])).run Tryd.prog w = .ok (.pointer (some ⟨w.heap.size, 0, none⟩)) (w.alloc (.cells (aI zI) 24)) := by kernel_rfl
@[go_sem] theorem bl24_0 : (blA 24 #[]).run Tryd.prog w = .ok (vI zI) w := by kernel_rfl
theorem under23 : ∃ d, Tryd.prog.underlying 23 = some d ∧ (match d with | .struct _ | .array _ _ => true | _ => false) = true := ⟨_, Tryd.underlying23, rfl⟩
theorem size23 : (Tryd.prog.info? 23).map (·.size) = some 32 := by kernel_rfl
@[go_sem ↓] theorem load23 : Instr.loadAt 23 v = ldA 23 v := rfl
@[go_sem] theorem run_ld23 (ad : Addr) : (ldA 23 (.pointer (some ad))).run Tryd.prog w = if okA w ad 32 = true then .ok (rdA w ad 32) w else (ldB 23 (.pointer (some ad))).run Tryd.prog w := run_ldA_if w 23 ad 32 _ Tryd.underlying23 rfl size23
@[go_sem ↓] theorem blt23 (parts : Array (Nat × Value)) : Instr.build 23 parts = blA 23 parts := rfl
@[go_sem ↓] theorem box23 : Instr.box 23 v = bxA 23 v := rfl
@[go_sem] theorem run_bx23 (x : Id) : (bxA 23 (vI x)).run Tryd.prog w = .ok (.pointer (some ⟨w.heap.size, 0, none⟩)) (w.alloc (.cells (aI x) 23)) := run_bxA w 23 _
@[go_sem ↓] theorem alloc23 (h : Bool) : Instr.alloc 23 h v = alA 23 h v := rfl
@[go_sem ↓] theorem store23 (u : Value) : Instr.storeAt 23 v u = stA 23 v u := rfl
@[go_sem] theorem run_st23 (g : Nat) (x : Id) : (stA 23 (.pointer (some ⟨g, 0, none⟩)) (vI x)).run Tryd.prog w = if rowOk w g 32 = true then .ok () (w.setRow g (aI x)) else (stB 23 (.pointer (some ⟨g, 0, none⟩)) (vI x)).run Tryd.prog w := run_stA_if w 23 g _ 32 size23 (by simp [cI_length]) (by simpa using cI_one x)
@[go_sem] theorem run_al23 : (alA 23 true (.tuple #[])).run Tryd.prog w = .ok (.pointer (some ⟨w.heap.size, 0, none⟩)) (w.alloc (.cells (aI zI) 23)) := by kernel_rfl
@[go_sem] theorem bl23_0 : (blA 23 #[]).run Tryd.prog w = .ok (vI zI) w := by kernel_rfl
theorem under108 : ∃ d, Tryd.prog.underlying 108 = some d ∧ (match d with | .struct _ | .array _ _ => true | _ => false) = true := ⟨_, Tryd.underlying108, rfl⟩
theorem size108 : (Tryd.prog.info? 108).map (·.size) = some 32 := by kernel_rfl
@[go_sem ↓] theorem load108 : Instr.loadAt 108 v = ldA 108 v := rfl
@[go_sem] theorem run_ld108 (ad : Addr) : (ldA 108 (.pointer (some ad))).run Tryd.prog w = if okA w ad 32 = true then .ok (rdA w ad 32) w else (ldB 108 (.pointer (some ad))).run Tryd.prog w := run_ldA_if w 108 ad 32 _ Tryd.underlying108 rfl size108
@[go_sem ↓] theorem blt108 (parts : Array (Nat × Value)) : Instr.build 108 parts = blA 108 parts := rfl
@[go_sem ↓] theorem box108 : Instr.box 108 v = bxA 108 v := rfl
@[go_sem] theorem run_bx108 (x : Id) : (bxA 108 (vI x)).run Tryd.prog w = .ok (.pointer (some ⟨w.heap.size, 0, none⟩)) (w.alloc (.cells (aI x) 108)) := run_bxA w 108 _
@[go_sem ↓] theorem alloc108 (h : Bool) : Instr.alloc 108 h v = alA 108 h v := rfl
@[go_sem ↓] theorem store108 (u : Value) : Instr.storeAt 108 v u = stA 108 v u := rfl
@[go_sem] theorem run_st108 (g : Nat) (x : Id) : (stA 108 (.pointer (some ⟨g, 0, none⟩)) (vI x)).run Tryd.prog w = if rowOk w g 32 = true then .ok () (w.setRow g (aI x)) else (stB 108 (.pointer (some ⟨g, 0, none⟩)) (vI x)).run Tryd.prog w := run_stA_if w 108 g _ 32 size108 (by simp [cI_length]) (by simpa using cI_one x)
@[go_sem] theorem run_al108 : (alA 108 true (.tuple #[])).run Tryd.prog w = .ok (.pointer (some ⟨w.heap.size, 0, none⟩)) (w.alloc (.cells (aI zI) 108)) := by kernel_rfl
@[go_sem] theorem bl108_0 : (blA 108 #[]).run Tryd.prog w = .ok (vI zI) w := by kernel_rfl
theorem under27 : ∃ d, Tryd.prog.underlying 27 = some d ∧ (match d with | .struct _ | .array _ _ => true | _ => false) = true := ⟨_, Tryd.underlying27, rfl⟩
theorem size27 : (Tryd.prog.info? 27).map (·.size) = some 39 := by kernel_rfl
@[go_sem ↓] theorem load27 : Instr.loadAt 27 v = ldA 27 v := rfl
@[go_sem] theorem run_ld27 (ad : Addr) : (ldA 27 (.pointer (some ad))).run Tryd.prog w = if okA w ad 39 = true then .ok (rdA w ad 39) w else (ldB 27 (.pointer (some ad))).run Tryd.prog w := run_ldA_if w 27 ad 39 _ Tryd.underlying27 rfl size27
@[go_sem ↓] theorem blt27 (parts : Array (Nat × Value)) : Instr.build 27 parts = blA 27 parts := rfl
@[go_sem ↓] theorem box27 : Instr.box 27 v = bxA 27 v := rfl
@[go_sem] theorem run_bx27 (c : Cm) : (bxA 27 (vC c)).run Tryd.prog w = .ok (.pointer (some ⟨w.heap.size, 0, none⟩)) (w.alloc (.cells (aC c) 27)) := run_bxA w 27 _
@[go_sem ↓] theorem alloc27 (h : Bool) : Instr.alloc 27 h v = alA 27 h v := rfl
@[go_sem ↓] theorem store27 (u : Value) : Instr.storeAt 27 v u = stA 27 v u := rfl
@[go_sem] theorem run_st27 (g : Nat) (c : Cm) : (stA 27 (.pointer (some ⟨g, 0, none⟩)) (vC c)).run Tryd.prog w = if rowOk w g 39 = true then .ok () (w.setRow g (aC c)) else (stB 27 (.pointer (some ⟨g, 0, none⟩)) (vC c)).run Tryd.prog w := run_stA_if w 27 g _ 39 size27 (by simp [cC_length]) (by simpa using cC_one c)
@[go_sem] theorem run_al27 : (alA 27 true (.tuple #[])).run Tryd.prog w = .ok (.pointer (some ⟨w.heap.size, 0, none⟩)) (w.alloc (.cells (aC zC) 27)) := by kernel_rfl
@[go_sem] theorem bl27_0 : (blA 27 #[]).run Tryd.prog w = .ok (vC zC) w := by kernel_rfl
theorem under31 : ∃ d, Tryd.prog.underlying 31 = some d ∧ (match d with | .struct _ | .array _ _ => true | _ => false) = true := ⟨_, Tryd.underlying31, rfl⟩
theorem size31 : (Tryd.prog.info? 31).map (·.size) = some 39 := by kernel_rfl
@[go_sem ↓] theorem load31 : Instr.loadAt 31 v = ldA 31 v := rfl
@[go_sem] theorem run_ld31 (ad : Addr) : (ldA 31 (.pointer (some ad))).run Tryd.prog w = if okA w ad 39 = true then .ok (rdA w ad 39) w else (ldB 31 (.pointer (some ad))).run Tryd.prog w := run_ldA_if w 31 ad 39 _ Tryd.underlying31 rfl size31
@[go_sem ↓] theorem blt31 (parts : Array (Nat × Value)) : Instr.build 31 parts = blA 31 parts := rfl
@[go_sem ↓] theorem box31 : Instr.box 31 v = bxA 31 v := rfl
@[go_sem] theorem run_bx31 (c : Cm) : (bxA 31 (vC c)).run Tryd.prog w = .ok (.pointer (some ⟨w.heap.size, 0, none⟩)) (w.alloc (.cells (aC c) 31)) := run_bxA w 31 _
@[go_sem ↓] theorem alloc31 (h : Bool) : Instr.alloc 31 h v = alA 31 h v := rfl
@[go_sem ↓] theorem store31 (u : Value) : Instr.storeAt 31 v u = stA 31 v u := rfl
@[go_sem] theorem run_st31 (g : Nat) (c : Cm) : (stA 31 (.pointer (some ⟨g, 0, none⟩)) (vC c)).run Tryd.prog w = if rowOk w g 39 = true then .ok () (w.setRow g (aC c)) else (stB 31 (.pointer (some ⟨g, 0, none⟩)) (vC c)).run Tryd.prog w := run_stA_if w 31 g _ 39 size31 (by simp [cC_length]) (by simpa using cC_one c)
@[go_sem] theorem run_al31 : (alA 31 true (.tuple #[])).run Tryd.prog w = .ok (.pointer (some ⟨w.heap.size, 0, none⟩)) (w.alloc (.cells (aC zC) 31)) := by kernel_rfl
@[go_sem] theorem bl31_0 : (blA 31 #[]).run Tryd.prog w = .ok (vC zC) w := by kernel_rfl
@[go_sem] theorem rowOk_nC (c : Cm) (ty : TypeId) (g : Nat) (hg : g = w.heap.size) : rowOk (w.alloc (.cells (aC c) ty)) g 39 = true := rowOk_new w _ ty g 39 hg (by simp [aC, cC_length])
@[go_sem] theorem okA_nC (c : Cm) (ty : TypeId) (g : Nat) (hg : g = w.heap.size) : okA (w.alloc (.cells (aC c) ty)) ⟨g, 0, none⟩ 39 = true := okA_new w _ ty g 39 hg (cC_length c)
@[go_sem] theorem rdA_nC (c : Cm) (ty : TypeId) (g : Nat) (hg : g = w.heap.size) : rdA (w.alloc (.cells (aC c) ty)) ⟨g, 0, none⟩ 39 = vC c := rdA_new w _ ty g 39 hg (cC_length c)
@[go_sem] theorem rowOk_nI (x : Id) (ty : TypeId) (g : Nat) (hg : g = w.heap.size) : rowOk (w.alloc (.cells (aI x) ty)) g 32 = true := rowOk_new w _ ty g 32 hg (by simp [aI, cI_length])
@[go_sem] theorem okA_nI (x : Id) (ty : TypeId) (g : Nat) (hg : g = w.heap.size) : okA (w.alloc (.cells (aI x) ty)) ⟨g, 0, none⟩ 32 = true := okA_new w _ ty g 32 hg (cI_length x)
@[go_sem] theorem rdA_nI (x : Id) (ty : TypeId) (g : Nat) (hg : g = w.heap.size) : rdA (w.alloc (.cells (aI x) ty)) ⟨g, 0, none⟩ 32 = vI x := rdA_new w _ ty g 32 hg (cI_length x)
@[go_sem] theorem blR_1 (n : Int) : (blA 31 #[(0, .int .i64 n)]).run Tryd.prog w = .ok (vC ⟨n, ⟨#[]⟩, zI, 0, 0, 0, 0, ⟨#[]⟩⟩) w := by kernel_rfl
@[go_sem] theorem blC_hello (n m : Int) (s : ByteArray) : (blA 27 #[(0, .int .i64 n), (1, .string s), (5, .int .i64 m)]).run Tryd.prog w = .ok (vC ⟨n, s, zI, 0, 0, m, 0, ⟨#[]⟩⟩) w := by kernel_rfl
@[go_sem] theorem blC_all (n a b d e : Int) (s t : ByteArray) (x : Id) : (blA 27 #[(0, .int .i64 n), (1, .string s), (2, vI x), (3, .int .i64 a), (4, .int .i64 b), (5, .int .i64 d), (6, .int .i64 e), (7, .string t)]).run Tryd.prog w = .ok (vC ⟨n, s, x, a, b, d, e, t⟩) w := by
  revert x
  refine Id.cases fun a0 a1 a2 a3 a4 a5 a6 a7 a8 a9 a10 a11 a12 a13 a14 a15 a16 a17 a18 a19 a20 a21 a22 a23 a24 a25 a26 a27 a28 a29 a30 a31 => ?_
  kernel_rfl
@[go_sem] theorem blC_data (n : Int) (t : ByteArray) (x : Id) : (blA 27 #[(0, .int .i64 n), (2, vI x), (7, .string t)]).run Tryd.prog w = .ok (vC ⟨n, ⟨#[]⟩, x, 0, 0, 0, 0, t⟩) w := by
  revert x
  refine Id.cases fun a0 a1 a2 a3 a4 a5 a6 a7 a8 a9 a10 a11 a12 a13 a14 a15 a16 a17 a18 a19 a20 a21 a22 a23 a24 a25 a26 a27 a28 a29 a30 a31 => ?_
  kernel_rfl
theorem cP_length (x : Pr) : (cP x).length = 2 := rfl
theorem cP_one (x : Pr) : ∀ u ∈ cP x, u.oneCell' = true := by
  intro u hu
  simp only [cP, List.mem_cons, List.not_mem_nil, or_false] at hu
  rcases hu with rfl | rfl <;> rfl
theorem size114 : (Tryd.prog.info? 114).map (·.size) = some 2 := by kernel_rfl
@[go_sem ↓] theorem load114 : Instr.loadAt 114 v = ldA 114 v := rfl
@[go_sem] theorem run_ld114 (ad : Addr) : (ldA 114 (.pointer (some ad))).run Tryd.prog w = if okA w ad 2 = true then .ok (rdA w ad 2) w else (ldB 114 (.pointer (some ad))).run Tryd.prog w := run_ldA_if w 114 ad 2 _ Tryd.underlying114 rfl size114
@[go_sem ↓] theorem blt114 (parts : Array (Nat × Value)) : Instr.build 114 parts = blA 114 parts := rfl
@[go_sem ↓] theorem alloc114 (h : Bool) : Instr.alloc 114 h v = alA 114 h v := rfl
@[go_sem ↓] theorem store114 (u : Value) : Instr.storeAt 114 v u = stA 114 v u := rfl
@[go_sem] theorem run_st114 (g : Nat) (x : Pr) : (stA 114 (.pointer (some ⟨g, 0, none⟩)) (vP x)).run Tryd.prog w = if rowOk w g 2 = true then .ok () (w.setRow g (aP x)) else (stB 114 (.pointer (some ⟨g, 0, none⟩)) (vP x)).run Tryd.prog w := run_stA_if w 114 g _ 2 size114 rfl (by simpa using cP_one x)
@[go_sem] theorem rowOk_n114 (x : Pr) (ty : TypeId) (g : Nat) (hg : g = w.heap.size) : rowOk (w.alloc (.cells (aP x) ty)) g 2 = true := rowOk_new w _ ty g 2 hg rfl
@[go_sem] theorem okA_n114 (x : Pr) (ty : TypeId) (g : Nat) (hg : g = w.heap.size) : okA (w.alloc (.cells (aP x) ty)) ⟨g, 0, none⟩ 2 = true := okA_new w _ ty g 2 hg rfl
@[go_sem] theorem rdA_n114 (x : Pr) (ty : TypeId) (g : Nat) (hg : g = w.heap.size) : rdA (w.alloc (.cells (aP x) ty)) ⟨g, 0, none⟩ 2 = vP x := rdA_new w _ ty g 2 hg rfl
@[go_sem] theorem run_al114 : (alA 114 true (.tuple #[])).run Tryd.prog w = .ok (.pointer (some ⟨w.heap.size, 0, none⟩)) (w.alloc (.cells (aP (false, 0)) 114)) := by kernel_rfl
def aPs (xs : List Pr) : Array Value := (xs.flatMap cP).toArray
@[go_sem ↓] theorem bs115 (n : Nat) (parts : Array (Nat × Value)) : Instr.buildSlice 115 n parts = bsA 115 n parts := rfl
theorem run_bs115 (xs : List Pr) (h : xs.length ≤ 100) : (bsA 115 xs.length (xs.zipIdx.map fun x => (x.2, vP x.1)).toArray).run Tryd.prog w = .ok (.slice (some ⟨w.heap.size, 0, none⟩) xs.length xs.length) (w.alloc (.cells (aPs xs) 114)) := by
  obtain ⟨i, z, h1, h2, h3⟩ := info_of (show (Tryd.prog.info? 114).map (fun i => (i.zero.map (·.cells.size), i.size, i.bytes)) = some (some 2, 2, 16) by kernel_rfl)
  exact run_bsA w vP 115 114 i z 2 Tryd.underlying115 h1 h2 h3 (fun _ => rfl) xs (by omega)
theorem cF_length (x : Fm) : (cF x).length = 3 := rfl
theorem cF_one (x : Fm) : ∀ u ∈ cF x, u.oneCell' = true := by
  intro u hu
  simp only [cF, List.mem_cons, List.not_mem_nil, or_false] at hu
  rcases hu with rfl | rfl | rfl <;> rfl
theorem size68 : (Tryd.prog.info? 68).map (·.size) = some 3 := by kernel_rfl
@[go_sem ↓] theorem load68 : Instr.loadAt 68 v = ldA 68 v := rfl
@[go_sem] theorem run_ld68 (ad : Addr) : (ldA 68 (.pointer (some ad))).run Tryd.prog w = if okA w ad 3 = true then .ok (rdA w ad 3) w else (ldB 68 (.pointer (some ad))).run Tryd.prog w := run_ldA_if w 68 ad 3 _ Tryd.underlying68 rfl size68
@[go_sem ↓] theorem blt68 (parts : Array (Nat × Value)) : Instr.build 68 parts = blA 68 parts := rfl
@[go_sem ↓] theorem alloc68 (h : Bool) : Instr.alloc 68 h v = alA 68 h v := rfl
@[go_sem ↓] theorem store68 (u : Value) : Instr.storeAt 68 v u = stA 68 v u := rfl
@[go_sem] theorem run_st68 (g : Nat) (x : Fm) : (stA 68 (.pointer (some ⟨g, 0, none⟩)) (vF x)).run Tryd.prog w = if rowOk w g 3 = true then .ok () (w.setRow g (aF x)) else (stB 68 (.pointer (some ⟨g, 0, none⟩)) (vF x)).run Tryd.prog w := run_stA_if w 68 g _ 3 size68 rfl (by simpa using cF_one x)
@[go_sem] theorem rowOk_n68 (x : Fm) (ty : TypeId) (g : Nat) (hg : g = w.heap.size) : rowOk (w.alloc (.cells (aF x) ty)) g 3 = true := rowOk_new w _ ty g 3 hg rfl
@[go_sem] theorem okA_n68 (x : Fm) (ty : TypeId) (g : Nat) (hg : g = w.heap.size) : okA (w.alloc (.cells (aF x) ty)) ⟨g, 0, none⟩ 3 = true := okA_new w _ ty g 3 hg rfl
@[go_sem] theorem rdA_n68 (x : Fm) (ty : TypeId) (g : Nat) (hg : g = w.heap.size) : rdA (w.alloc (.cells (aF x) ty)) ⟨g, 0, none⟩ 3 = vF x := rdA_new w _ ty g 3 hg rfl
@[go_sem] theorem run_al68 : (alA 68 true (.tuple #[])).run Tryd.prog w = .ok (.pointer (some ⟨w.heap.size, 0, none⟩)) (w.alloc (.cells (aF (⟨#[]⟩, 0, 0)) 68)) := by kernel_rfl
theorem cG_length (x : Rg) : (cG x).length = 4 := rfl
theorem cG_one (x : Rg) : ∀ u ∈ cG x, u.oneCell' = true := by
  intro u hu
  simp only [cG, List.mem_cons, List.not_mem_nil, or_false] at hu
  rcases hu with rfl | rfl | rfl | rfl <;> rfl
theorem size81 : (Tryd.prog.info? 81).map (·.size) = some 4 := by kernel_rfl
@[go_sem ↓] theorem load81 : Instr.loadAt 81 v = ldA 81 v := rfl
@[go_sem] theorem run_ld81 (ad : Addr) : (ldA 81 (.pointer (some ad))).run Tryd.prog w = if okA w ad 4 = true then .ok (rdA w ad 4) w else (ldB 81 (.pointer (some ad))).run Tryd.prog w := run_ldA_if w 81 ad 4 _ Tryd.underlying81 rfl size81
@[go_sem ↓] theorem blt81 (parts : Array (Nat × Value)) : Instr.build 81 parts = blA 81 parts := rfl
@[go_sem ↓] theorem alloc81 (h : Bool) : Instr.alloc 81 h v = alA 81 h v := rfl
@[go_sem ↓] theorem store81 (u : Value) : Instr.storeAt 81 v u = stA 81 v u := rfl
@[go_sem] theorem run_st81 (g : Nat) (x : Rg) : (stA 81 (.pointer (some ⟨g, 0, none⟩)) (vG x)).run Tryd.prog w = if rowOk w g 4 = true then .ok () (w.setRow g (aG x)) else (stB 81 (.pointer (some ⟨g, 0, none⟩)) (vG x)).run Tryd.prog w := run_stA_if w 81 g _ 4 size81 rfl (by simpa using cG_one x)
@[go_sem] theorem rowOk_n81 (x : Rg) (ty : TypeId) (g : Nat) (hg : g = w.heap.size) : rowOk (w.alloc (.cells (aG x) ty)) g 4 = true := rowOk_new w _ ty g 4 hg rfl
@[go_sem] theorem okA_n81 (x : Rg) (ty : TypeId) (g : Nat) (hg : g = w.heap.size) : okA (w.alloc (.cells (aG x) ty)) ⟨g, 0, none⟩ 4 = true := okA_new w _ ty g 4 hg rfl
@[go_sem] theorem rdA_n81 (x : Rg) (ty : TypeId) (g : Nat) (hg : g = w.heap.size) : rdA (w.alloc (.cells (aG x) ty)) ⟨g, 0, none⟩ 4 = vG x := rdA_new w _ ty g 4 hg rfl
@[go_sem] theorem run_al81 : (alA 81 true (.tuple #[])).run Tryd.prog w = .ok (.pointer (some ⟨w.heap.size, 0, none⟩)) (w.alloc (.cells (aG (0, 0, 0, 0)) 81)) := by kernel_rfl
def aGs (xs : List Rg) : Array Value := (xs.flatMap cG).toArray
@[go_sem ↓] theorem bs82 (n : Nat) (parts : Array (Nat × Value)) : Instr.buildSlice 82 n parts = bsA 82 n parts := rfl
theorem run_bs82 (xs : List Rg) (h : xs.length ≤ 100) : (bsA 82 xs.length (xs.zipIdx.map fun x => (x.2, vG x.1)).toArray).run Tryd.prog w = .ok (.slice (some ⟨w.heap.size, 0, none⟩) xs.length xs.length) (w.alloc (.cells (aGs xs) 81)) := by
  obtain ⟨i, z, h1, h2, h3⟩ := info_of (show (Tryd.prog.info? 81).map (fun i => (i.zero.map (·.cells.size), i.size, i.bytes)) = some (some 4, 4, 32) by kernel_rfl)
  exact run_bsA w vG 82 81 i z 4 Tryd.underlying82 h1 h2 h3 (fun _ => rfl) xs (by omega)
theorem cW_length (x : Wd) : (cW x).length = 2 := rfl
theorem cW_one (x : Wd) : ∀ u ∈ cW x, u.oneCell' = true := by
  intro u hu
  simp only [cW, List.mem_cons, List.not_mem_nil, or_false] at hu
  rcases hu with rfl | rfl <;> rfl
theorem size73 : (Tryd.prog.info? 73).map (·.size) = some 2 := by kernel_rfl
@[go_sem ↓] theorem load73 : Instr.loadAt 73 v = ldA 73 v := rfl
@[go_sem] theorem run_ld73 (ad : Addr) : (ldA 73 (.pointer (some ad))).run Tryd.prog w = if okA w ad 2 = true then .ok (rdA w ad 2) w else (ldB 73 (.pointer (some ad))).run Tryd.prog w := run_ldA_if w 73 ad 2 _ Tryd.underlying73 rfl size73
@[go_sem ↓] theorem blt73 (parts : Array (Nat × Value)) : Instr.build 73 parts = blA 73 parts := rfl
@[go_sem ↓] theorem alloc73 (h : Bool) : Instr.alloc 73 h v = alA 73 h v := rfl
@[go_sem ↓] theorem store73 (u : Value) : Instr.storeAt 73 v u = stA 73 v u := rfl
@[go_sem] theorem run_st73 (g : Nat) (x : Wd) : (stA 73 (.pointer (some ⟨g, 0, none⟩)) (vW x)).run Tryd.prog w = if rowOk w g 2 = true then .ok () (w.setRow g (aW x)) else (stB 73 (.pointer (some ⟨g, 0, none⟩)) (vW x)).run Tryd.prog w := run_stA_if w 73 g _ 2 size73 rfl (by simpa using cW_one x)
@[go_sem] theorem rowOk_n73 (x : Wd) (ty : TypeId) (g : Nat) (hg : g = w.heap.size) : rowOk (w.alloc (.cells (aW x) ty)) g 2 = true := rowOk_new w _ ty g 2 hg rfl
@[go_sem] theorem okA_n73 (x : Wd) (ty : TypeId) (g : Nat) (hg : g = w.heap.size) : okA (w.alloc (.cells (aW x) ty)) ⟨g, 0, none⟩ 2 = true := okA_new w _ ty g 2 hg rfl
@[go_sem] theorem rdA_n73 (x : Wd) (ty : TypeId) (g : Nat) (hg : g = w.heap.size) : rdA (w.alloc (.cells (aW x) ty)) ⟨g, 0, none⟩ 2 = vW x := rdA_new w _ ty g 2 hg rfl
@[go_sem] theorem run_al73 : (alA 73 true (.tuple #[])).run Tryd.prog w = .ok (.pointer (some ⟨w.heap.size, 0, none⟩)) (w.alloc (.cells (aW (0, ⟨#[]⟩)) 73)) := by kernel_rfl
def aWs (xs : List Wd) : Array Value := (xs.flatMap cW).toArray
@[go_sem ↓] theorem bs75 (n : Nat) (parts : Array (Nat × Value)) : Instr.buildSlice 75 n parts = bsA 75 n parts := rfl
theorem run_bs75 (xs : List Wd) (h : xs.length ≤ 100) : (bsA 75 xs.length (xs.zipIdx.map fun x => (x.2, vW x.1)).toArray).run Tryd.prog w = .ok (.slice (some ⟨w.heap.size, 0, none⟩) xs.length xs.length) (w.alloc (.cells (aWs xs) 73)) := by
  obtain ⟨i, z, h1, h2, h3⟩ := info_of (show (Tryd.prog.info? 73).map (fun i => (i.zero.map (·.cells.size), i.size, i.bytes)) = some (some 2, 2, 24) by kernel_rfl)
  exact run_bsA w vW 75 73 i z 2 Tryd.underlying75 h1 h2 h3 (fun _ => rfl) xs (by omega)
@[go_sem] theorem aP_0 (x : Pr) : (aP x)[0]? = some (.bool x.1) := rfl
@[go_sem] theorem aP_1 (x : Pr) : (aP x)[1]? = some (.int .i64 x.2) := rfl
@[go_sem] theorem aF_0 (x : Fm) : (aF x)[0]? = some (.string x.1) := rfl
@[go_sem] theorem aF_1 (x : Fm) : (aF x)[1]? = some (.int .i64 x.2.1) := rfl
@[go_sem] theorem aF_2 (x : Fm) : (aF x)[2]? = some (.int .i64 x.2.2) := rfl
@[go_sem] theorem aG_0 (x : Rg) : (aG x)[0]? = some (.int .i64 x.1) := rfl
@[go_sem] theorem aG_1 (x : Rg) : (aG x)[1]? = some (.int .i64 x.2.1) := rfl
@[go_sem] theorem aG_2 (x : Rg) : (aG x)[2]? = some (.int .i64 x.2.2.1) := rfl
@[go_sem] theorem aG_3 (x : Rg) : (aG x)[3]? = some (.int .i64 x.2.2.2) := rfl
@[go_sem] theorem aW_0 (x : Wd) : (aW x)[0]? = some (.int .i64 x.1) := rfl
@[go_sem] theorem aW_1 (x : Wd) : (aW x)[1]? = some (.string x.2) := rfl
@[go_sem] theorem blP (b : Bool) (n : Int) : (blA 114 #[(0, .bool b), (1, .int .i64 n)]).run Tryd.prog w = .ok (vP (b, n)) w := by kernel_rfl
@[go_sem] theorem blG (a b c d : Int) : (blA 81 #[(0, .int .i64 a), (1, .int .i64 b), (2, .int .i64 c), (3, .int .i64 d)]).run Tryd.prog w = .ok (vG (a, b, c, d)) w := by kernel_rfl
@[go_sem] theorem blW (a : Int) (s : ByteArray) : (blA 73 #[(0, .int .i64 a), (1, .string s)]).run Tryd.prog w = .ok (vW (a, s)) w := by kernel_rfl
@[go_sem] theorem run_bsP_7 (a b c d e f g : Pr) : (bsA 115 7 #[(0, vP a), (1, vP b), (2, vP c), (3, vP d), (4, vP e), (5, vP f), (6, vP g)]).run Tryd.prog w = .ok (.slice (some ⟨w.heap.size, 0, none⟩) 7 7) (w.alloc (.cells (aPs [a, b, c, d, e, f, g]) 114)) := run_bs115 w [a, b, c, d, e, f, g] (by simp)
@[go_sem] theorem run_bsG_4 (a b c d : Rg) : (bsA 82 4 #[(0, vG a), (1, vG b), (2, vG c), (3, vG d)]).run Tryd.prog w = .ok (.slice (some ⟨w.heap.size, 0, none⟩) 4 4) (w.alloc (.cells (aGs [a, b, c, d]) 81)) := run_bs82 w [a, b, c, d] (by simp)
@[go_sem] theorem run_bsW_6 (a b c d e f : Wd) : (bsA 75 6 #[(0, vW a), (1, vW b), (2, vW c), (3, vW d), (4, vW e), (5, vW f)]).run Tryd.prog w = .ok (.slice (some ⟨w.heap.size, 0, none⟩) 6 6) (w.alloc (.cells (aWs [a, b, c, d, e, f]) 73)) := run_bs75 w [a, b, c, d, e, f] (by simp)
end
attribute [go_sem] okA_drew rdA_drew okA_drewN rdA_drewN okA_alloc rdA_alloc rowOk_drew rowOk_drewN rowOk_alloc setRow_new setRow_alloc setRow_drew setRow_drewN
theorem info5 : ∃ i, Tryd.prog.info? 5 = some i ∧ i.size = 1 := by
  have h : (Tryd.prog.info? 5).map (·.size) = some 1 := by kernel_rfl
  cases hq : Tryd.prog.info? 5 with
  | none => rw [hq] at h; cases h
  | some i => exact ⟨i, rfl, by simpa [hq] using h⟩
section
variable (w : World)
@[go_sem] theorem eql24 (a b : Id) : (binOp .eql 24 (vI a) (vI b)).run Tryd.prog w = .ok (.bool (decide (a = b))) w := by
  obtain ⟨i, h1, h2⟩ := info5
  unfold vI cI
  rw [run_eql_bytes w 32 24 5 i a.1 b.1 Tryd.underlying24 Tryd.underlying5 h1 h2 a.2 b.2]
  simp [Subtype.ext_iff]
@[go_sem] theorem neq24 (a b : Id) : (binOp .neq 24 (vI a) (vI b)).run Tryd.prog w = .ok (.bool (!decide (a = b))) w := by
  obtain ⟨i, h1, h2⟩ := info5
  unfold vI cI
  rw [run_neq_bytes w 32 24 5 i a.1 b.1 Tryd.underlying24 Tryd.underlying5 h1 h2 a.2 b.2]
  simp [Subtype.ext_iff]
theorem guard24 : Tryd.prog.eqGuardType Tryd.prog.depth 24 = false := by kernel_rfl
@[go_sem] theorem eqGuard24 (op : BinOp) (x y : Operand) (a b : Id) : (eqGuard op 24 x y (vI a) (vI b)).run Tryd.prog w = .ok () w := run_eqGuard_agg w op 24 x y _ _ guard24
@[go_sem] theorem eql23 (a b : Id) : (binOp .eql 23 (vI a) (vI b)).run Tryd.prog w = .ok (.bool (decide (a = b))) w := by
  obtain ⟨i, h1, h2⟩ := info5
  unfold vI cI
  rw [run_eql_bytes w 32 23 5 i a.1 b.1 Tryd.underlying23 Tryd.underlying5 h1 h2 a.2 b.2]
  simp [Subtype.ext_iff]
@[go_sem] theorem neq23 (a b : Id) : (binOp .neq 23 (vI a) (vI b)).run Tryd.prog w = .ok (.bool (!decide (a = b))) w := by
  obtain ⟨i, h1, h2⟩ := info5
  unfold vI cI
  rw [run_neq_bytes w 32 23 5 i a.1 b.1 Tryd.underlying23 Tryd.underlying5 h1 h2 a.2 b.2]
  simp [Subtype.ext_iff]
theorem guard23 : Tryd.prog.eqGuardType Tryd.prog.depth 23 = false := by kernel_rfl
@[go_sem] theorem eqGuard23 (op : BinOp) (x y : Operand) (a b : Id) : (eqGuard op 23 x y (vI a) (vI b)).run Tryd.prog w = .ok () w := run_eqGuard_agg w op 23 x y _ _ guard23
@[go_sem] theorem aC_0 (c : Cm) : (aC c)[0]? = some (.int .i64 c.verb) := rfl
@[go_sem] theorem aC_1 (c : Cm) : (aC c)[1]? = some (.string c.name) := rfl
theorem aC_hi (c : Cm) (k : Nat) : (aC c)[34 + k]? = [Value.int .i64 c.size, .int .i64 c.from_, .int .i64 c.count, .int .i64 c.code, .string c.text][k]? := by
  unfold aC cC
  rw [List.getElem?_toArray, show 34 + k = (32 + k) + 1 + 1 by omega, List.getElem?_cons_succ, List.getElem?_cons_succ, List.getElem?_append_right (by rw [cI_length]; omega), cI_length, show 32 + k - 32 = k by omega]
@[go_sem] theorem aC_34 (c : Cm) : (aC c)[34]? = some (.int .i64 c.size) := aC_hi c 0
@[go_sem] theorem aC_35 (c : Cm) : (aC c)[35]? = some (.int .i64 c.from_) := aC_hi c 1
@[go_sem] theorem aC_36 (c : Cm) : (aC c)[36]? = some (.int .i64 c.count) := aC_hi c 2
@[go_sem] theorem aC_37 (c : Cm) : (aC c)[37]? = some (.int .i64 c.code) := aC_hi c 3
@[go_sem] theorem aC_38 (c : Cm) : (aC c)[38]? = some (.string c.text) := aC_hi c 4
theorem at_off {w : World} {g k n : Nat} {cs ds : List Value} {ty : TypeId} (hg : g = w.heap.size) (hd : (cs.drop k).take n = ds) : At (w.alloc (.cells cs.toArray ty)) ⟨g, k, none⟩ ds := by
  subst hg
  exact (Row.new w cs ty).at_ hd
theorem cC_id (c : Cm) : ((cC c).drop 2).take 32 = cI c.id := by
  unfold cC
  rw [List.drop_succ_cons, List.drop_succ_cons, List.drop_zero, List.take_append_of_le_length (by rw [cI_length]; omega), List.take_of_length_le (by rw [cI_length]; omega)]
@[go_sem] theorem okA_Cid (c : Cm) (ty : TypeId) (g : Nat) (hg : g = w.heap.size) : okA (w.alloc (.cells (aC c) ty)) ⟨g, 2, none⟩ 32 = true := by
  have h := (at_off (w := w) (ty := ty) hg (cC_id c)).ok
  rwa [cI_length] at h
@[go_sem] theorem rdA_Cid (c : Cm) (ty : TypeId) (g : Nat) (hg : g = w.heap.size) : rdA (w.alloc (.cells (aC c) ty)) ⟨g, 2, none⟩ 32 = vI c.id := by
  have h := (at_off (w := w) (ty := ty) hg (cC_id c)).rd
  rwa [cI_length] at h
end
theorem cC_at {c : Cm} {k : Nat} {v : Value} (h : (aC c)[k]? = some v) : (cC c)[k]? = some v := by
  unfold aC at h
  rwa [List.getElem?_toArray] at h
theorem okA_below {w w' : World} {ad : Addr} {n : Nat} (h : okA w ad n = true) (hlt : ad.block < w.heap.size) (hb : Below w.heap.size w w') : okA w' ad n = true ∧ rdA w' ad n = rdA w ad n := by
  have hc : ∀ j, w'.cell? (ad.add j) = w.cell? (ad.add j) := fun j => hb.cell (by rw [block_of_add]; exact hlt)
  have hp : okA w' ad n = okA w ad n := by
    unfold okA
    simp only [hc]
  refine ⟨hp.trans h, ?_⟩
  unfold rdA
  simp only [hc]
theorem cell_below {w w' : World} {a : Addr} {v : Value} (h : w.cell? a = some v) (hb : Below w.heap.size w w') : w'.cell? a = some v := by
  refine (World.cell?_of_block (hb.block _ ?_)).trans h
  unfold World.cell? at h
  split at h
  · rename_i hh
    exact (Array.getElem?_eq_some_iff.1 hh).1
  · cases h
theorem Row.okw {w : World} {b n : Nat} {cs : List Value} {t : TypeId} (h : Row w b cs t) (hn : cs.length = n) : okA w ⟨b, 0, none⟩ n = true ∧ rdA w ⟨b, 0, none⟩ n = .agg cs.toArray := by
  have h1 := h.at_ (k := 0) (n := n) (ds := cs) (by rw [List.drop_zero, List.take_of_length_le (by omega)])
  have h2 := h1.ok
  have h3 := h1.rd
  rw [hn] at h2 h3
  exact ⟨h2, h3⟩
theorem Row.idC {w : World} {b : Nat} {c : Cm} {t : TypeId} (h : Row w b (cC c) t) : okA w ⟨b, 2, none⟩ 32 = true ∧ rdA w ⟨b, 2, none⟩ 32 = vI c.id := by
  have := h.at_ (cC_id c)
  have h1 := this.ok
  have h2 := this.rd
  rw [cI_length] at h1 h2
  exact ⟨h1, h2⟩
end Go.Proofs.YtfbpipknhghneaaDoor
