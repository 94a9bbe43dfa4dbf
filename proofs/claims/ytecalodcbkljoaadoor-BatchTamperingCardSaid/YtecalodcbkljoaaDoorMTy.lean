/- The types of batches and digests at this translation: loaded, stored, boxed, built as whole values. -/
import Derived.Test.YtecalodcbkljoaaDoorMRow
import Derived.Test.YtecalodcbkljoaaDoorMSha
import Derived.Deep.CutBlock
namespace Go.Proofs.YtecalodcbkljoaaDoor
open Go.RowKit
theorem cons_of {n : Nat} {α : Type} (l : List α) (h : l.length = n + 1) : ∃ a r, l = a :: r ∧ r.length = n := by
  cases l with
  | nil => cases h
  | cons a r => exact ⟨a, r, rfl, by simpa using h⟩
theorem Id.cases {P : Id → Prop} (h : ∀ a0 a1 a2 a3 a4 a5 a6 a7 a8 a9 a10 a11 a12 a13 a14 a15 a16 a17 a18 a19 a20 a21 a22 a23 a24 a25 a26 a27 a28 a29 a30 a31 : UInt8, P ⟨[a0, a1, a2, a3, a4, a5, a6, a7, a8, a9, a10, a11, a12, a13, a14, a15, a16, a17, a18, a19, a20, a21, a22, a23, a24, a25, a26, a27, a28, a29, a30, a31], rfl⟩) (x : Id) : P x := by
  obtain ⟨l0, hl⟩ := x
  obtain ⟨a0, l1, rfl, h0⟩ := cons_of l0 hl
  obtain ⟨a1, l2, rfl, h1⟩ := cons_of l1 h0
  obtain ⟨a2, l3, rfl, h2⟩ := cons_of l2 h1
  obtain ⟨a3, l4, rfl, h3⟩ := cons_of l3 h2
  obtain ⟨a4, l5, rfl, h4⟩ := cons_of l4 h3
  obtain ⟨a5, l6, rfl, h5⟩ := cons_of l5 h4
  obtain ⟨a6, l7, rfl, h6⟩ := cons_of l6 h5
  obtain ⟨a7, l8, rfl, h7⟩ := cons_of l7 h6
  obtain ⟨a8, l9, rfl, h8⟩ := cons_of l8 h7
  obtain ⟨a9, l10, rfl, h9⟩ := cons_of l9 h8
  obtain ⟨a10, l11, rfl, h10⟩ := cons_of l10 h9
  obtain ⟨a11, l12, rfl, h11⟩ := cons_of l11 h10
  obtain ⟨a12, l13, rfl, h12⟩ := cons_of l12 h11
  obtain ⟨a13, l14, rfl, h13⟩ := cons_of l13 h12
  obtain ⟨a14, l15, rfl, h14⟩ := cons_of l14 h13
  obtain ⟨a15, l16, rfl, h15⟩ := cons_of l15 h14
  obtain ⟨a16, l17, rfl, h16⟩ := cons_of l16 h15
  obtain ⟨a17, l18, rfl, h17⟩ := cons_of l17 h16
  obtain ⟨a18, l19, rfl, h18⟩ := cons_of l18 h17
  obtain ⟨a19, l20, rfl, h19⟩ := cons_of l19 h18
  obtain ⟨a20, l21, rfl, h20⟩ := cons_of l20 h19
  obtain ⟨a21, l22, rfl, h21⟩ := cons_of l21 h20
  obtain ⟨a22, l23, rfl, h22⟩ := cons_of l22 h21
  obtain ⟨a23, l24, rfl, h23⟩ := cons_of l23 h22
  obtain ⟨a24, l25, rfl, h24⟩ := cons_of l24 h23
  obtain ⟨a25, l26, rfl, h25⟩ := cons_of l25 h24
  obtain ⟨a26, l27, rfl, h26⟩ := cons_of l26 h25
  obtain ⟨a27, l28, rfl, h27⟩ := cons_of l27 h26
  obtain ⟨a28, l29, rfl, h28⟩ := cons_of l28 h27
  obtain ⟨a29, l30, rfl, h29⟩ := cons_of l29 h28
  obtain ⟨a30, l31, rfl, h30⟩ := cons_of l30 h29
  obtain ⟨a31, l32, rfl, h31⟩ := cons_of l31 h30
  obtain rfl : l32 = [] := List.eq_nil_of_length_eq_zero h31
  exact h a0 a1 a2 a3 a4 a5 a6 a7 a8 a9 a10 a11 a12 a13 a14 a15 a16 a17 a18 a19 a20 a21 a22 a23 a24 a25 a26 a27 a28 a29 a30 a31
/-- The zero identity. -/
def zI : Id := ⟨List.replicate 32 0, by simp⟩
def aI (x : Id) : Array Value := (cI x).toArray
/-- An item: its identity and its text. -/
structure It where
  id : Id
  text : ByteArray
theorem It.ext' {x y : It} (h1 : x.id = y.id) (h2 : x.text = y.text) : x = y := by
  cases x; cases y; simp_all
def cX (x : It) : List Value := cI x.id ++ [.string x.text]
def vX (x : It) : Value := .agg (cX x).toArray
def aX (x : It) : Array Value := (cX x).toArray
def zX : It := ⟨zI, ⟨#[]⟩⟩
theorem cX_length (x : It) : (cX x).length = 33 := by simp [cX, cI_length]
theorem cX_one (x : It) : ∀ u ∈ cX x, u.oneCell' = true := by
  intro u hu
  simp only [cX, List.mem_append, List.mem_cons, List.not_mem_nil, or_false] at hu
  rcases hu with h | rfl
  · exact cI_one _ u h
  · rfl
/-- The eight words of a state as cells. -/
def cV (v : Vs) : List Value := [vW v.a, vW v.b, vW v.c, vW v.d, vW v.e, vW v.f, vW v.g, vW v.i]
def vV (v : Vs) : Value := .agg (cV v).toArray
def aV (v : Vs) : Array Value := (cV v).toArray
def zV : Vs := ⟨0#32, 0#32, 0#32, 0#32, 0#32, 0#32, 0#32, 0#32⟩
theorem cV_length (v : Vs) : (cV v).length = 8 := rfl
theorem cV_one (v : Vs) : ∀ u ∈ cV v, u.oneCell' = true := by
  intro u hu
  simp only [cV, List.mem_cons, List.not_mem_nil, or_false] at hu
  rcases hu with rfl | rfl | rfl | rfl | rfl | rfl | rfl | rfl <;> rfl
/-- Sixteen words, 64 words, 16 bytes. -/
abbrev W16 := { l : List Wd // l.length = 16 }
abbrev W64 := { l : List Wd // l.length = 64 }
abbrev B16 := { l : List UInt8 // l.length = 16 }
def cM (x : W16) : List Value := x.1.map vW
def vM (x : W16) : Value := .agg (cM x).toArray
def aM (x : W16) : Array Value := (cM x).toArray
def zM : W16 := ⟨List.replicate 16 0#32, rfl⟩
theorem cM_length (x : W16) : (cM x).length = 16 := by simp [cM, x.2]
theorem words_one (l : List Wd) : ∀ u ∈ l.map vW, u.oneCell' = true := by
  intro u hu
  obtain ⟨b, _, rfl⟩ := List.mem_map.1 hu
  rfl
theorem bytes_one (l : List UInt8) : ∀ u ∈ l.map cB, u.oneCell' = true := by
  intro u hu
  obtain ⟨b, _, rfl⟩ := List.mem_map.1 hu
  rfl
theorem cM_one (x : W16) : ∀ u ∈ cM x, u.oneCell' = true := words_one _
def cL (x : W64) : List Value := x.1.map vW
def vL (x : W64) : Value := .agg (cL x).toArray
def aL (x : W64) : Array Value := (cL x).toArray
def zL : W64 := ⟨List.replicate 64 0#32, rfl⟩
theorem cL_length (x : W64) : (cL x).length = 64 := by simp [cL, x.2]
theorem cL_one (x : W64) : ∀ u ∈ cL x, u.oneCell' = true := words_one _
def cH (x : B16) : List Value := x.1.map cB
def vH (x : B16) : Value := .agg (cH x).toArray
def aH (x : B16) : Array Value := (cH x).toArray
def zH : B16 := ⟨List.replicate 16 0, rfl⟩
theorem cH_length (x : B16) : (cH x).length = 16 := by simp [cH, x.2]
theorem cH_one (x : B16) : ∀ u ∈ cH x, u.oneCell' = true := bytes_one _
/-- A Hash: its state, its block, the number of bytes. -/
structure Hs where
  st : Vs
  bk : { l : List UInt8 // l.length = 64 }
  len : Int
def cS (x : Hs) : List Value := cV x.st ++ (x.bk.1.map cB ++ [.int .i64 x.len])
def vS (x : Hs) : Value := .agg (cS x).toArray
def aS (x : Hs) : Array Value := (cS x).toArray
def zS : Hs := ⟨zV, ⟨List.replicate 64 0, rfl⟩, 0⟩
theorem cS_length (x : Hs) : (cS x).length = 73 := by simp [cS, cV_length, x.bk.2]
theorem cS_one (x : Hs) : ∀ u ∈ cS x, u.oneCell' = true := by
  intro u hu
  simp only [cS, List.mem_append, List.mem_cons, List.not_mem_nil, or_false] at hu
  rcases hu with h | h | rfl
  · exact cV_one _ u h
  · exact bytes_one _ u h
  · rfl
/-- A cursor; a Builder. -/
structure Cu where
  text : ByteArray
  at_ : Int
  err : Int
  wh : Int
def cU (x : Cu) : List Value := [.string x.text, .int .i64 x.at_, .int .i64 x.err, .int .i64 x.wh]
def vU (x : Cu) : Value := .agg (cU x).toArray
def aU (x : Cu) : Array Value := (cU x).toArray
def zU : Cu := ⟨⟨#[]⟩, 0, 0, 0⟩
theorem cU_length (x : Cu) : (cU x).length = 4 := rfl
theorem cU_one (x : Cu) : ∀ u ∈ cU x, u.oneCell' = true := by
  intro u hu
  simp only [cU, List.mem_cons, List.not_mem_nil, or_false] at hu
  rcases hu with rfl | rfl | rfl | rfl <;> rfl
section
variable (w : World) (v : Value)
theorem size37 : (Tryd.prog.info? 37).map (·.size) = some 32 := by kernel_rfl
@[go_sem ↓] theorem load37 : Instr.loadAt 37 v = ldA 37 v := rfl
@[go_sem] theorem run_ld37 (ad : Addr) : (ldA 37 (.pointer (some ad))).run Tryd.prog w = if okA w ad 32 = true then .ok (rdA w ad 32) w else (ldB 37 (.pointer (some ad))).run Tryd.prog w := run_ldA_if w 37 ad 32 _ Tryd.underlying37 rfl size37
@[go_sem ↓] theorem blt37 (parts : Array (Nat × Value)) : Instr.build 37 parts = blA 37 parts := rfl
@[go_sem ↓] theorem box37 : Instr.box 37 v = bxA 37 v := rfl
@[go_sem] theorem run_bx37 (x : Id) : (bxA 37 (vI x)).run Tryd.prog w = .ok (.pointer (some ⟨w.heap.size, 0, none⟩)) (w.alloc (.cells (aI x) 37)) := run_bxA w 37 _
@[go_sem ↓] theorem alloc37 (h : Bool) : Instr.alloc 37 h v = alA 37 h v := rfl
@[go_sem ↓] theorem store37 (u : Value) : Instr.storeAt 37 v u = stA 37 v u := rfl
@[go_sem] theorem run_st37 (g : Nat) (x : Id) : (stA 37 (.pointer (some ⟨g, 0, none⟩)) (vI x)).run Tryd.prog w = if rowOk w g 32 = true then .ok () (w.setRow g (aI x)) else (stB 37 (.pointer (some ⟨g, 0, none⟩)) (vI x)).run Tryd.prog w := run_stA_if w 37 g _ 32 size37 (by simp [cI_length]) (by simpa using cI_one x)
@[go_sem] theorem run_al37 : (alA 37 true (.tuple #[])).run Tryd.prog w = .ok (.pointer (some ⟨w.heap.size, 0, none⟩)) (w.alloc (.cells (aI zI) 37)) := by kernel_rfl
@[go_sem] theorem bl37_0 : (blA 37 #[]).run Tryd.prog w = .ok (vI zI) w := by kernel_rfl
theorem size34 : (Tryd.prog.info? 34).map (·.size) = some 32 := by kernel_rfl
@[go_sem ↓] theorem load34 : Instr.loadAt 34 v = ldA 34 v := rfl
@[go_sem] theorem run_ld34 (ad : Addr) : (ldA 34 (.pointer (some ad))).run Tryd.prog w = if okA w ad 32 = true then .ok (rdA w ad 32) w else (ldB 34 (.pointer (some ad))).run Tryd.prog w := run_ldA_if w 34 ad 32 _ Tryd.underlying34 rfl size34
@[go_sem ↓] theorem blt34 (parts : Array (Nat × Value)) : Instr.build 34 parts = blA 34 parts := rfl
@[go_sem ↓] theorem box34 : Instr.box 34 v = bxA 34 v := rfl
@[go_sem] theorem run_bx34 (x : Id) : (bxA 34 (vI x)).run Tryd.prog w = .ok (.pointer (some ⟨w.heap.size, 0, none⟩)) (w.alloc (.cells (aI x) 34)) := run_bxA w 34 _
@[go_sem ↓] theorem alloc34 (h : Bool) : Instr.alloc 34 h v = alA 34 h v := rfl
@[go_sem ↓] theorem store34 (u : Value) : Instr.storeAt 34 v u = stA 34 v u := rfl
@[go_sem] theorem run_st34 (g : Nat) (x : Id) : (stA 34 (.pointer (some ⟨g, 0, none⟩)) (vI x)).run Tryd.prog w = if rowOk w g 32 = true then .ok () (w.setRow g (aI x)) else (stB 34 (.pointer (some ⟨g, 0, none⟩)) (vI x)).run Tryd.prog w := run_stA_if w 34 g _ 32 size34 (by simp [cI_length]) (by simpa using cI_one x)
@[go_sem] theorem run_al34 : (alA 34 true (.tuple #[])).run Tryd.prog w = .ok (.pointer (some ⟨w.heap.size, 0, none⟩)) (w.alloc (.cells (aI zI) 34)) := by kernel_rfl
@[go_sem] theorem bl34_0 : (blA 34 #[]).run Tryd.prog w = .ok (vI zI) w := by kernel_rfl
theorem size33 : (Tryd.prog.info? 33).map (·.size) = some 32 := by kernel_rfl
@[go_sem ↓] theorem load33 : Instr.loadAt 33 v = ldA 33 v := rfl
@[go_sem] theorem run_ld33 (ad : Addr) : (ldA 33 (.pointer (some ad))).run Tryd.prog w = if okA w ad 32 = true then .ok (rdA w ad 32) w else (ldB 33 (.pointer (some ad))).run Tryd.prog w := run_ldA_if w 33 ad 32 _ Tryd.underlying33 rfl size33
@[go_sem ↓] theorem blt33 (parts : Array (Nat × Value)) : Instr.build 33 parts = blA 33 parts := rfl
@[go_sem ↓] theorem box33 : Instr.box 33 v = bxA 33 v := rfl
@[go_sem] theorem run_bx33 (x : Id) : (bxA 33 (vI x)).run Tryd.prog w = .ok (.pointer (some ⟨w.heap.size, 0, none⟩)) (w.alloc (.cells (aI x) 33)) := run_bxA w 33 _
@[go_sem ↓] theorem alloc33 (h : Bool) : Instr.alloc 33 h v = alA 33 h v := rfl
@[go_sem ↓] theorem store33 (u : Value) : Instr.storeAt 33 v u = stA 33 v u := rfl
@[go_sem] theorem run_st33 (g : Nat) (x : Id) : (stA 33 (.pointer (some ⟨g, 0, none⟩)) (vI x)).run Tryd.prog w = if rowOk w g 32 = true then .ok () (w.setRow g (aI x)) else (stB 33 (.pointer (some ⟨g, 0, none⟩)) (vI x)).run Tryd.prog w := run_stA_if w 33 g _ 32 size33 (by simp [cI_length]) (by simpa using cI_one x)
@[go_sem] theorem run_al33 : (alA 33 true (.tuple #[])).run Tryd.prog w = .ok (.pointer (some ⟨w.heap.size, 0, none⟩)) (w.alloc (.cells (aI zI) 33)) := by kernel_rfl
@[go_sem] theorem bl33_0 : (blA 33 #[]).run Tryd.prog w = .ok (vI zI) w := by kernel_rfl
theorem size111 : (Tryd.prog.info? 111).map (·.size) = some 32 := by kernel_rfl
@[go_sem ↓] theorem load111 : Instr.loadAt 111 v = ldA 111 v := rfl
@[go_sem] theorem run_ld111 (ad : Addr) : (ldA 111 (.pointer (some ad))).run Tryd.prog w = if okA w ad 32 = true then .ok (rdA w ad 32) w else (ldB 111 (.pointer (some ad))).run Tryd.prog w := run_ldA_if w 111 ad 32 _ Tryd.underlying111 rfl size111
@[go_sem ↓] theorem blt111 (parts : Array (Nat × Value)) : Instr.build 111 parts = blA 111 parts := rfl
@[go_sem ↓] theorem box111 : Instr.box 111 v = bxA 111 v := rfl
@[go_sem] theorem run_bx111 (x : Id) : (bxA 111 (vI x)).run Tryd.prog w = .ok (.pointer (some ⟨w.heap.size, 0, none⟩)) (w.alloc (.cells (aI x) 111)) := run_bxA w 111 _
@[go_sem ↓] theorem alloc111 (h : Bool) : Instr.alloc 111 h v = alA 111 h v := rfl
@[go_sem ↓] theorem store111 (u : Value) : Instr.storeAt 111 v u = stA 111 v u := rfl
@[go_sem] theorem run_st111 (g : Nat) (x : Id) : (stA 111 (.pointer (some ⟨g, 0, none⟩)) (vI x)).run Tryd.prog w = if rowOk w g 32 = true then .ok () (w.setRow g (aI x)) else (stB 111 (.pointer (some ⟨g, 0, none⟩)) (vI x)).run Tryd.prog w := run_stA_if w 111 g _ 32 size111 (by simp [cI_length]) (by simpa using cI_one x)
@[go_sem] theorem run_al111 : (alA 111 true (.tuple #[])).run Tryd.prog w = .ok (.pointer (some ⟨w.heap.size, 0, none⟩)) (w.alloc (.cells (aI zI) 111)) := by kernel_rfl
@[go_sem] theorem bl111_0 : (blA 111 #[]).run Tryd.prog w = .ok (vI zI) w := by kernel_rfl
theorem size39 : (Tryd.prog.info? 39).map (·.size) = some 33 := by kernel_rfl
@[go_sem ↓] theorem load39 : Instr.loadAt 39 v = ldA 39 v := rfl
@[go_sem] theorem run_ld39 (ad : Addr) : (ldA 39 (.pointer (some ad))).run Tryd.prog w = if okA w ad 33 = true then .ok (rdA w ad 33) w else (ldB 39 (.pointer (some ad))).run Tryd.prog w := run_ldA_if w 39 ad 33 _ Tryd.underlying39 rfl size39
@[go_sem ↓] theorem blt39 (parts : Array (Nat × Value)) : Instr.build 39 parts = blA 39 parts := rfl
@[go_sem ↓] theorem box39 : Instr.box 39 v = bxA 39 v := rfl
@[go_sem] theorem run_bx39 (x : It) : (bxA 39 (vX x)).run Tryd.prog w = .ok (.pointer (some ⟨w.heap.size, 0, none⟩)) (w.alloc (.cells (aX x) 39)) := run_bxA w 39 _
@[go_sem ↓] theorem alloc39 (h : Bool) : Instr.alloc 39 h v = alA 39 h v := rfl
@[go_sem ↓] theorem store39 (u : Value) : Instr.storeAt 39 v u = stA 39 v u := rfl
@[go_sem] theorem run_st39 (g : Nat) (x : It) : (stA 39 (.pointer (some ⟨g, 0, none⟩)) (vX x)).run Tryd.prog w = if rowOk w g 33 = true then .ok () (w.setRow g (aX x)) else (stB 39 (.pointer (some ⟨g, 0, none⟩)) (vX x)).run Tryd.prog w := run_stA_if w 39 g _ 33 size39 (by simp [cX_length]) (by simpa using cX_one x)
@[go_sem] theorem run_al39 : (alA 39 true (.tuple #[])).run Tryd.prog w = .ok (.pointer (some ⟨w.heap.size, 0, none⟩)) (w.alloc (.cells (aX zX) 39)) := by kernel_rfl
@[go_sem] theorem bl39_0 : (blA 39 #[]).run Tryd.prog w = .ok (vX zX) w := by kernel_rfl
theorem size36 : (Tryd.prog.info? 36).map (·.size) = some 33 := by kernel_rfl
@[go_sem ↓] theorem load36 : Instr.loadAt 36 v = ldA 36 v := rfl
@[go_sem] theorem run_ld36 (ad : Addr) : (ldA 36 (.pointer (some ad))).run Tryd.prog w = if okA w ad 33 = true then .ok (rdA w ad 33) w else (ldB 36 (.pointer (some ad))).run Tryd.prog w := run_ldA_if w 36 ad 33 _ Tryd.underlying36 rfl size36
@[go_sem ↓] theorem blt36 (parts : Array (Nat × Value)) : Instr.build 36 parts = blA 36 parts := rfl
@[go_sem ↓] theorem box36 : Instr.box 36 v = bxA 36 v := rfl
@[go_sem] theorem run_bx36 (x : It) : (bxA 36 (vX x)).run Tryd.prog w = .ok (.pointer (some ⟨w.heap.size, 0, none⟩)) (w.alloc (.cells (aX x) 36)) := run_bxA w 36 _
@[go_sem ↓] theorem alloc36 (h : Bool) : Instr.alloc 36 h v = alA 36 h v := rfl
@[go_sem ↓] theorem store36 (u : Value) : Instr.storeAt 36 v u = stA 36 v u := rfl
@[go_sem] theorem run_st36 (g : Nat) (x : It) : (stA 36 (.pointer (some ⟨g, 0, none⟩)) (vX x)).run Tryd.prog w = if rowOk w g 33 = true then .ok () (w.setRow g (aX x)) else (stB 36 (.pointer (some ⟨g, 0, none⟩)) (vX x)).run Tryd.prog w := run_stA_if w 36 g _ 33 size36 (by simp [cX_length]) (by simpa using cX_one x)
@[go_sem] theorem run_al36 : (alA 36 true (.tuple #[])).run Tryd.prog w = .ok (.pointer (some ⟨w.heap.size, 0, none⟩)) (w.alloc (.cells (aX zX) 36)) := by kernel_rfl
@[go_sem] theorem bl36_0 : (blA 36 #[]).run Tryd.prog w = .ok (vX zX) w := by kernel_rfl
theorem size124 : (Tryd.prog.info? 124).map (·.size) = some 8 := by kernel_rfl
@[go_sem ↓] theorem load124 : Instr.loadAt 124 v = ldA 124 v := rfl
@[go_sem] theorem run_ld124 (ad : Addr) : (ldA 124 (.pointer (some ad))).run Tryd.prog w = if okA w ad 8 = true then .ok (rdA w ad 8) w else (ldB 124 (.pointer (some ad))).run Tryd.prog w := run_ldA_if w 124 ad 8 _ Tryd.underlying124 rfl size124
@[go_sem ↓] theorem blt124 (parts : Array (Nat × Value)) : Instr.build 124 parts = blA 124 parts := rfl
@[go_sem ↓] theorem box124 : Instr.box 124 v = bxA 124 v := rfl
@[go_sem] theorem run_bx124 (x : Vs) : (bxA 124 (vV x)).run Tryd.prog w = .ok (.pointer (some ⟨w.heap.size, 0, none⟩)) (w.alloc (.cells (aV x) 124)) := run_bxA w 124 _
@[go_sem ↓] theorem alloc124 (h : Bool) : Instr.alloc 124 h v = alA 124 h v := rfl
@[go_sem ↓] theorem store124 (u : Value) : Instr.storeAt 124 v u = stA 124 v u := rfl
@[go_sem] theorem run_st124 (g : Nat) (x : Vs) : (stA 124 (.pointer (some ⟨g, 0, none⟩)) (vV x)).run Tryd.prog w = if rowOk w g 8 = true then .ok () (w.setRow g (aV x)) else (stB 124 (.pointer (some ⟨g, 0, none⟩)) (vV x)).run Tryd.prog w := run_stA_if w 124 g _ 8 size124 (by simp [cV_length]) (by simpa using cV_one x)
@[go_sem] theorem run_al124 : (alA 124 true (.tuple #[])).run Tryd.prog w = .ok (.pointer (some ⟨w.heap.size, 0, none⟩)) (w.alloc (.cells (aV zV) 124)) := by kernel_rfl
@[go_sem] theorem bl124_0 : (blA 124 #[]).run Tryd.prog w = .ok (vV zV) w := by kernel_rfl
theorem size81 : (Tryd.prog.info? 81).map (·.size) = some 8 := by kernel_rfl
@[go_sem ↓] theorem load81 : Instr.loadAt 81 v = ldA 81 v := rfl
@[go_sem] theorem run_ld81 (ad : Addr) : (ldA 81 (.pointer (some ad))).run Tryd.prog w = if okA w ad 8 = true then .ok (rdA w ad 8) w else (ldB 81 (.pointer (some ad))).run Tryd.prog w := run_ldA_if w 81 ad 8 _ Tryd.underlying81 rfl size81
@[go_sem ↓] theorem blt81 (parts : Array (Nat × Value)) : Instr.build 81 parts = blA 81 parts := rfl
@[go_sem ↓] theorem box81 : Instr.box 81 v = bxA 81 v := rfl
@[go_sem] theorem run_bx81 (x : Vs) : (bxA 81 (vV x)).run Tryd.prog w = .ok (.pointer (some ⟨w.heap.size, 0, none⟩)) (w.alloc (.cells (aV x) 81)) := run_bxA w 81 _
@[go_sem ↓] theorem alloc81 (h : Bool) : Instr.alloc 81 h v = alA 81 h v := rfl
@[go_sem ↓] theorem store81 (u : Value) : Instr.storeAt 81 v u = stA 81 v u := rfl
@[go_sem] theorem run_st81 (g : Nat) (x : Vs) : (stA 81 (.pointer (some ⟨g, 0, none⟩)) (vV x)).run Tryd.prog w = if rowOk w g 8 = true then .ok () (w.setRow g (aV x)) else (stB 81 (.pointer (some ⟨g, 0, none⟩)) (vV x)).run Tryd.prog w := run_stA_if w 81 g _ 8 size81 (by simp [cV_length]) (by simpa using cV_one x)
@[go_sem] theorem run_al81 : (alA 81 true (.tuple #[])).run Tryd.prog w = .ok (.pointer (some ⟨w.heap.size, 0, none⟩)) (w.alloc (.cells (aV zV) 81)) := by kernel_rfl
@[go_sem] theorem bl81_0 : (blA 81 #[]).run Tryd.prog w = .ok (vV zV) w := by kernel_rfl
theorem size129 : (Tryd.prog.info? 129).map (·.size) = some 16 := by kernel_rfl
@[go_sem ↓] theorem load129 : Instr.loadAt 129 v = ldA 129 v := rfl
@[go_sem] theorem run_ld129 (ad : Addr) : (ldA 129 (.pointer (some ad))).run Tryd.prog w = if okA w ad 16 = true then .ok (rdA w ad 16) w else (ldB 129 (.pointer (some ad))).run Tryd.prog w := run_ldA_if w 129 ad 16 _ Tryd.underlying129 rfl size129
@[go_sem ↓] theorem blt129 (parts : Array (Nat × Value)) : Instr.build 129 parts = blA 129 parts := rfl
@[go_sem ↓] theorem box129 : Instr.box 129 v = bxA 129 v := rfl
@[go_sem] theorem run_bx129 (x : W16) : (bxA 129 (vM x)).run Tryd.prog w = .ok (.pointer (some ⟨w.heap.size, 0, none⟩)) (w.alloc (.cells (aM x) 129)) := run_bxA w 129 _
@[go_sem ↓] theorem alloc129 (h : Bool) : Instr.alloc 129 h v = alA 129 h v := rfl
@[go_sem ↓] theorem store129 (u : Value) : Instr.storeAt 129 v u = stA 129 v u := rfl
@[go_sem] theorem run_st129 (g : Nat) (x : W16) : (stA 129 (.pointer (some ⟨g, 0, none⟩)) (vM x)).run Tryd.prog w = if rowOk w g 16 = true then .ok () (w.setRow g (aM x)) else (stB 129 (.pointer (some ⟨g, 0, none⟩)) (vM x)).run Tryd.prog w := run_stA_if w 129 g _ 16 size129 (by simp [cM_length]) (by simpa using cM_one x)
@[go_sem] theorem run_al129 : (alA 129 true (.tuple #[])).run Tryd.prog w = .ok (.pointer (some ⟨w.heap.size, 0, none⟩)) (w.alloc (.cells (aM zM) 129)) := by kernel_rfl
@[go_sem] theorem bl129_0 : (blA 129 #[]).run Tryd.prog w = .ok (vM zM) w := by kernel_rfl
theorem size82 : (Tryd.prog.info? 82).map (·.size) = some 64 := by kernel_rfl
@[go_sem ↓] theorem load82 : Instr.loadAt 82 v = ldA 82 v := rfl
@[go_sem] theorem run_ld82 (ad : Addr) : (ldA 82 (.pointer (some ad))).run Tryd.prog w = if okA w ad 64 = true then .ok (rdA w ad 64) w else (ldB 82 (.pointer (some ad))).run Tryd.prog w := run_ldA_if w 82 ad 64 _ Tryd.underlying82 rfl size82
@[go_sem ↓] theorem blt82 (parts : Array (Nat × Value)) : Instr.build 82 parts = blA 82 parts := rfl
@[go_sem ↓] theorem box82 : Instr.box 82 v = bxA 82 v := rfl
@[go_sem] theorem run_bx82 (x : W64) : (bxA 82 (vL x)).run Tryd.prog w = .ok (.pointer (some ⟨w.heap.size, 0, none⟩)) (w.alloc (.cells (aL x) 82)) := run_bxA w 82 _
@[go_sem ↓] theorem alloc82 (h : Bool) : Instr.alloc 82 h v = alA 82 h v := rfl
@[go_sem ↓] theorem store82 (u : Value) : Instr.storeAt 82 v u = stA 82 v u := rfl
@[go_sem] theorem run_st82 (g : Nat) (x : W64) : (stA 82 (.pointer (some ⟨g, 0, none⟩)) (vL x)).run Tryd.prog w = if rowOk w g 64 = true then .ok () (w.setRow g (aL x)) else (stB 82 (.pointer (some ⟨g, 0, none⟩)) (vL x)).run Tryd.prog w := run_stA_if w 82 g _ 64 size82 (by simp [cL_length]) (by simpa using cL_one x)
@[go_sem] theorem run_al82 : (alA 82 true (.tuple #[])).run Tryd.prog w = .ok (.pointer (some ⟨w.heap.size, 0, none⟩)) (w.alloc (.cells (aL zL) 82)) := by kernel_rfl
@[go_sem] theorem bl82_0 : (blA 82 #[]).run Tryd.prog w = .ok (vL zL) w := by kernel_rfl
theorem size99 : (Tryd.prog.info? 99).map (·.size) = some 16 := by kernel_rfl
@[go_sem ↓] theorem load99 : Instr.loadAt 99 v = ldA 99 v := rfl
@[go_sem] theorem run_ld99 (ad : Addr) : (ldA 99 (.pointer (some ad))).run Tryd.prog w = if okA w ad 16 = true then .ok (rdA w ad 16) w else (ldB 99 (.pointer (some ad))).run Tryd.prog w := run_ldA_if w 99 ad 16 _ Tryd.underlying99 rfl size99
@[go_sem ↓] theorem blt99 (parts : Array (Nat × Value)) : Instr.build 99 parts = blA 99 parts := rfl
@[go_sem ↓] theorem box99 : Instr.box 99 v = bxA 99 v := rfl
@[go_sem] theorem run_bx99 (x : B16) : (bxA 99 (vH x)).run Tryd.prog w = .ok (.pointer (some ⟨w.heap.size, 0, none⟩)) (w.alloc (.cells (aH x) 99)) := run_bxA w 99 _
@[go_sem ↓] theorem alloc99 (h : Bool) : Instr.alloc 99 h v = alA 99 h v := rfl
@[go_sem ↓] theorem store99 (u : Value) : Instr.storeAt 99 v u = stA 99 v u := rfl
@[go_sem] theorem run_st99 (g : Nat) (x : B16) : (stA 99 (.pointer (some ⟨g, 0, none⟩)) (vH x)).run Tryd.prog w = if rowOk w g 16 = true then .ok () (w.setRow g (aH x)) else (stB 99 (.pointer (some ⟨g, 0, none⟩)) (vH x)).run Tryd.prog w := run_stA_if w 99 g _ 16 size99 (by simp [cH_length]) (by simpa using cH_one x)
@[go_sem] theorem run_al99 : (alA 99 true (.tuple #[])).run Tryd.prog w = .ok (.pointer (some ⟨w.heap.size, 0, none⟩)) (w.alloc (.cells (aH zH) 99)) := by kernel_rfl
@[go_sem] theorem bl99_0 : (blA 99 #[]).run Tryd.prog w = .ok (vH zH) w := by kernel_rfl
theorem size100 : (Tryd.prog.info? 100).map (·.size) = some 16 := by kernel_rfl
@[go_sem ↓] theorem load100 : Instr.loadAt 100 v = ldA 100 v := rfl
@[go_sem] theorem run_ld100 (ad : Addr) : (ldA 100 (.pointer (some ad))).run Tryd.prog w = if okA w ad 16 = true then .ok (rdA w ad 16) w else (ldB 100 (.pointer (some ad))).run Tryd.prog w := run_ldA_if w 100 ad 16 _ Tryd.underlying100 rfl size100
@[go_sem ↓] theorem blt100 (parts : Array (Nat × Value)) : Instr.build 100 parts = blA 100 parts := rfl
@[go_sem ↓] theorem box100 : Instr.box 100 v = bxA 100 v := rfl
@[go_sem] theorem run_bx100 (x : B16) : (bxA 100 (vH x)).run Tryd.prog w = .ok (.pointer (some ⟨w.heap.size, 0, none⟩)) (w.alloc (.cells (aH x) 100)) := run_bxA w 100 _
@[go_sem ↓] theorem alloc100 (h : Bool) : Instr.alloc 100 h v = alA 100 h v := rfl
@[go_sem ↓] theorem store100 (u : Value) : Instr.storeAt 100 v u = stA 100 v u := rfl
@[go_sem] theorem run_st100 (g : Nat) (x : B16) : (stA 100 (.pointer (some ⟨g, 0, none⟩)) (vH x)).run Tryd.prog w = if rowOk w g 16 = true then .ok () (w.setRow g (aH x)) else (stB 100 (.pointer (some ⟨g, 0, none⟩)) (vH x)).run Tryd.prog w := run_stA_if w 100 g _ 16 size100 (by simp [cH_length]) (by simpa using cH_one x)
@[go_sem] theorem run_al100 : (alA 100 true (.tuple #[])).run Tryd.prog w = .ok (.pointer (some ⟨w.heap.size, 0, none⟩)) (w.alloc (.cells (aH zH) 100)) := by kernel_rfl
@[go_sem] theorem bl100_0 : (blA 100 #[]).run Tryd.prog w = .ok (vH zH) w := by kernel_rfl
theorem size126 : (Tryd.prog.info? 126).map (·.size) = some 73 := by kernel_rfl
@[go_sem ↓] theorem load126 : Instr.loadAt 126 v = ldA 126 v := rfl
@[go_sem] theorem run_ld126 (ad : Addr) : (ldA 126 (.pointer (some ad))).run Tryd.prog w = if okA w ad 73 = true then .ok (rdA w ad 73) w else (ldB 126 (.pointer (some ad))).run Tryd.prog w := run_ldA_if w 126 ad 73 _ Tryd.underlying126 rfl size126
@[go_sem ↓] theorem blt126 (parts : Array (Nat × Value)) : Instr.build 126 parts = blA 126 parts := rfl
@[go_sem ↓] theorem box126 : Instr.box 126 v = bxA 126 v := rfl
@[go_sem] theorem run_bx126 (x : Hs) : (bxA 126 (vS x)).run Tryd.prog w = .ok (.pointer (some ⟨w.heap.size, 0, none⟩)) (w.alloc (.cells (aS x) 126)) := run_bxA w 126 _
@[go_sem ↓] theorem alloc126 (h : Bool) : Instr.alloc 126 h v = alA 126 h v := rfl
@[go_sem ↓] theorem store126 (u : Value) : Instr.storeAt 126 v u = stA 126 v u := rfl
@[go_sem] theorem run_st126 (g : Nat) (x : Hs) : (stA 126 (.pointer (some ⟨g, 0, none⟩)) (vS x)).run Tryd.prog w = if rowOk w g 73 = true then .ok () (w.setRow g (aS x)) else (stB 126 (.pointer (some ⟨g, 0, none⟩)) (vS x)).run Tryd.prog w := run_stA_if w 126 g _ 73 size126 (by simp [cS_length]) (by simpa using cS_one x)
@[go_sem] theorem run_al126 : (alA 126 true (.tuple #[])).run Tryd.prog w = .ok (.pointer (some ⟨w.heap.size, 0, none⟩)) (w.alloc (.cells (aS zS) 126)) := by kernel_rfl
@[go_sem] theorem bl126_0 : (blA 126 #[]).run Tryd.prog w = .ok (vS zS) w := by kernel_rfl
theorem size53 : (Tryd.prog.info? 53).map (·.size) = some 4 := by kernel_rfl
@[go_sem ↓] theorem load53 : Instr.loadAt 53 v = ldA 53 v := rfl
@[go_sem] theorem run_ld53 (ad : Addr) : (ldA 53 (.pointer (some ad))).run Tryd.prog w = if okA w ad 4 = true then .ok (rdA w ad 4) w else (ldB 53 (.pointer (some ad))).run Tryd.prog w := run_ldA_if w 53 ad 4 _ Tryd.underlying53 rfl size53
@[go_sem ↓] theorem blt53 (parts : Array (Nat × Value)) : Instr.build 53 parts = blA 53 parts := rfl
@[go_sem ↓] theorem box53 : Instr.box 53 v = bxA 53 v := rfl
@[go_sem] theorem run_bx53 (x : Cu) : (bxA 53 (vU x)).run Tryd.prog w = .ok (.pointer (some ⟨w.heap.size, 0, none⟩)) (w.alloc (.cells (aU x) 53)) := run_bxA w 53 _
@[go_sem ↓] theorem alloc53 (h : Bool) : Instr.alloc 53 h v = alA 53 h v := rfl
@[go_sem ↓] theorem store53 (u : Value) : Instr.storeAt 53 v u = stA 53 v u := rfl
@[go_sem] theorem run_st53 (g : Nat) (x : Cu) : (stA 53 (.pointer (some ⟨g, 0, none⟩)) (vU x)).run Tryd.prog w = if rowOk w g 4 = true then .ok () (w.setRow g (aU x)) else (stB 53 (.pointer (some ⟨g, 0, none⟩)) (vU x)).run Tryd.prog w := run_stA_if w 53 g _ 4 size53 (by simp [cU_length]) (by simpa using cU_one x)
@[go_sem] theorem run_al53 : (alA 53 true (.tuple #[])).run Tryd.prog w = .ok (.pointer (some ⟨w.heap.size, 0, none⟩)) (w.alloc (.cells (aU zU) 53)) := by kernel_rfl
@[go_sem] theorem bl53_0 : (blA 53 #[]).run Tryd.prog w = .ok (vU zU) w := by kernel_rfl
@[go_sem] theorem rowOk_nI (x : Id) (ty : TypeId) (g : Nat) (hg : g = w.heap.size) : rowOk (w.alloc (.cells (aI x) ty)) g 32 = true := rowOk_new w _ ty g 32 hg (by simp [aI, cI_length])
@[go_sem] theorem okA_nI (x : Id) (ty : TypeId) (g : Nat) (hg : g = w.heap.size) : okA (w.alloc (.cells (aI x) ty)) ⟨g, 0, none⟩ 32 = true := okA_new w _ ty g 32 hg (cI_length x)
@[go_sem] theorem rdA_nI (x : Id) (ty : TypeId) (g : Nat) (hg : g = w.heap.size) : rdA (w.alloc (.cells (aI x) ty)) ⟨g, 0, none⟩ 32 = vI x := rdA_new w _ ty g 32 hg (cI_length x)
@[go_sem] theorem rowOk_nX (x : It) (ty : TypeId) (g : Nat) (hg : g = w.heap.size) : rowOk (w.alloc (.cells (aX x) ty)) g 33 = true := rowOk_new w _ ty g 33 hg (by simp [aX, cX_length])
@[go_sem] theorem okA_nX (x : It) (ty : TypeId) (g : Nat) (hg : g = w.heap.size) : okA (w.alloc (.cells (aX x) ty)) ⟨g, 0, none⟩ 33 = true := okA_new w _ ty g 33 hg (cX_length x)
@[go_sem] theorem rdA_nX (x : It) (ty : TypeId) (g : Nat) (hg : g = w.heap.size) : rdA (w.alloc (.cells (aX x) ty)) ⟨g, 0, none⟩ 33 = vX x := rdA_new w _ ty g 33 hg (cX_length x)
@[go_sem] theorem rowOk_nV (x : Vs) (ty : TypeId) (g : Nat) (hg : g = w.heap.size) : rowOk (w.alloc (.cells (aV x) ty)) g 8 = true := rowOk_new w _ ty g 8 hg (by simp [aV, cV_length])
@[go_sem] theorem okA_nV (x : Vs) (ty : TypeId) (g : Nat) (hg : g = w.heap.size) : okA (w.alloc (.cells (aV x) ty)) ⟨g, 0, none⟩ 8 = true := okA_new w _ ty g 8 hg (cV_length x)
@[go_sem] theorem rdA_nV (x : Vs) (ty : TypeId) (g : Nat) (hg : g = w.heap.size) : rdA (w.alloc (.cells (aV x) ty)) ⟨g, 0, none⟩ 8 = vV x := rdA_new w _ ty g 8 hg (cV_length x)
@[go_sem] theorem rowOk_nM (x : W16) (ty : TypeId) (g : Nat) (hg : g = w.heap.size) : rowOk (w.alloc (.cells (aM x) ty)) g 16 = true := rowOk_new w _ ty g 16 hg (by simp [aM, cM_length])
@[go_sem] theorem okA_nM (x : W16) (ty : TypeId) (g : Nat) (hg : g = w.heap.size) : okA (w.alloc (.cells (aM x) ty)) ⟨g, 0, none⟩ 16 = true := okA_new w _ ty g 16 hg (cM_length x)
@[go_sem] theorem rdA_nM (x : W16) (ty : TypeId) (g : Nat) (hg : g = w.heap.size) : rdA (w.alloc (.cells (aM x) ty)) ⟨g, 0, none⟩ 16 = vM x := rdA_new w _ ty g 16 hg (cM_length x)
@[go_sem] theorem rowOk_nL (x : W64) (ty : TypeId) (g : Nat) (hg : g = w.heap.size) : rowOk (w.alloc (.cells (aL x) ty)) g 64 = true := rowOk_new w _ ty g 64 hg (by simp [aL, cL_length])
@[go_sem] theorem okA_nL (x : W64) (ty : TypeId) (g : Nat) (hg : g = w.heap.size) : okA (w.alloc (.cells (aL x) ty)) ⟨g, 0, none⟩ 64 = true := okA_new w _ ty g 64 hg (cL_length x)
@[go_sem] theorem rdA_nL (x : W64) (ty : TypeId) (g : Nat) (hg : g = w.heap.size) : rdA (w.alloc (.cells (aL x) ty)) ⟨g, 0, none⟩ 64 = vL x := rdA_new w _ ty g 64 hg (cL_length x)
@[go_sem] theorem rowOk_nH (x : B16) (ty : TypeId) (g : Nat) (hg : g = w.heap.size) : rowOk (w.alloc (.cells (aH x) ty)) g 16 = true := rowOk_new w _ ty g 16 hg (by simp [aH, cH_length])
@[go_sem] theorem okA_nH (x : B16) (ty : TypeId) (g : Nat) (hg : g = w.heap.size) : okA (w.alloc (.cells (aH x) ty)) ⟨g, 0, none⟩ 16 = true := okA_new w _ ty g 16 hg (cH_length x)
@[go_sem] theorem rdA_nH (x : B16) (ty : TypeId) (g : Nat) (hg : g = w.heap.size) : rdA (w.alloc (.cells (aH x) ty)) ⟨g, 0, none⟩ 16 = vH x := rdA_new w _ ty g 16 hg (cH_length x)
@[go_sem] theorem rowOk_nS (x : Hs) (ty : TypeId) (g : Nat) (hg : g = w.heap.size) : rowOk (w.alloc (.cells (aS x) ty)) g 73 = true := rowOk_new w _ ty g 73 hg (by simp [aS, cS_length])
@[go_sem] theorem okA_nS (x : Hs) (ty : TypeId) (g : Nat) (hg : g = w.heap.size) : okA (w.alloc (.cells (aS x) ty)) ⟨g, 0, none⟩ 73 = true := okA_new w _ ty g 73 hg (cS_length x)
@[go_sem] theorem rdA_nS (x : Hs) (ty : TypeId) (g : Nat) (hg : g = w.heap.size) : rdA (w.alloc (.cells (aS x) ty)) ⟨g, 0, none⟩ 73 = vS x := rdA_new w _ ty g 73 hg (cS_length x)
@[go_sem] theorem rowOk_nU (x : Cu) (ty : TypeId) (g : Nat) (hg : g = w.heap.size) : rowOk (w.alloc (.cells (aU x) ty)) g 4 = true := rowOk_new w _ ty g 4 hg (by simp [aU, cU_length])
@[go_sem] theorem okA_nU (x : Cu) (ty : TypeId) (g : Nat) (hg : g = w.heap.size) : okA (w.alloc (.cells (aU x) ty)) ⟨g, 0, none⟩ 4 = true := okA_new w _ ty g 4 hg (cU_length x)
@[go_sem] theorem rdA_nU (x : Cu) (ty : TypeId) (g : Nat) (hg : g = w.heap.size) : rdA (w.alloc (.cells (aU x) ty)) ⟨g, 0, none⟩ 4 = vU x := rdA_new w _ ty g 4 hg (cU_length x)
@[go_sem] theorem blX1_39 (x : Id) : (blA 39 #[(0, vI x)]).run Tryd.prog w = .ok (vX ⟨x, ⟨#[]⟩⟩) w := by
  revert x
  refine Id.cases fun a0 a1 a2 a3 a4 a5 a6 a7 a8 a9 a10 a11 a12 a13 a14 a15 a16 a17 a18 a19 a20 a21 a22 a23 a24 a25 a26 a27 a28 a29 a30 a31 => ?_
  kernel_rfl
@[go_sem] theorem blX2_39 (x : Id) (s : ByteArray) : (blA 39 #[(0, vI x), (1, .string s)]).run Tryd.prog w = .ok (vX ⟨x, s⟩) w := by
  revert x
  refine Id.cases fun a0 a1 a2 a3 a4 a5 a6 a7 a8 a9 a10 a11 a12 a13 a14 a15 a16 a17 a18 a19 a20 a21 a22 a23 a24 a25 a26 a27 a28 a29 a30 a31 => ?_
  kernel_rfl
@[go_sem] theorem blX1_36 (x : Id) : (blA 36 #[(0, vI x)]).run Tryd.prog w = .ok (vX ⟨x, ⟨#[]⟩⟩) w := by
  revert x
  refine Id.cases fun a0 a1 a2 a3 a4 a5 a6 a7 a8 a9 a10 a11 a12 a13 a14 a15 a16 a17 a18 a19 a20 a21 a22 a23 a24 a25 a26 a27 a28 a29 a30 a31 => ?_
  kernel_rfl
@[go_sem] theorem blX2_36 (x : Id) (s : ByteArray) : (blA 36 #[(0, vI x), (1, .string s)]).run Tryd.prog w = .ok (vX ⟨x, s⟩) w := by
  revert x
  refine Id.cases fun a0 a1 a2 a3 a4 a5 a6 a7 a8 a9 a10 a11 a12 a13 a14 a15 a16 a17 a18 a19 a20 a21 a22 a23 a24 a25 a26 a27 a28 a29 a30 a31 => ?_
  kernel_rfl
@[go_sem] theorem blV_124 (a b c d e f g i : Wd) : (blA 124 #[(0, .int .u32 (iW a)), (1, .int .u32 (iW b)), (2, .int .u32 (iW c)), (3, .int .u32 (iW d)), (4, .int .u32 (iW e)), (5, .int .u32 (iW f)), (6, .int .u32 (iW g)), (7, .int .u32 (iW i))]).run Tryd.prog w = .ok (vV ⟨a, b, c, d, e, f, g, i⟩) w := by kernel_rfl
@[go_sem] theorem blV_81 (a b c d e f g i : Wd) : (blA 81 #[(0, .int .u32 (iW a)), (1, .int .u32 (iW b)), (2, .int .u32 (iW c)), (3, .int .u32 (iW d)), (4, .int .u32 (iW e)), (5, .int .u32 (iW f)), (6, .int .u32 (iW g)), (7, .int .u32 (iW i))]).run Tryd.prog w = .ok (vV ⟨a, b, c, d, e, f, g, i⟩) w := by kernel_rfl
@[go_sem] theorem blU_1 (s : ByteArray) : (blA 53 #[(0, .string s)]).run Tryd.prog w = .ok (vU ⟨s, 0, 0, 0⟩) w := by kernel_rfl
@[go_sem] theorem blU_2 (s : ByteArray) (a : Int) : (blA 53 #[(0, .string s), (1, .int .i64 a)]).run Tryd.prog w = .ok (vU ⟨s, a, 0, 0⟩) w := by kernel_rfl
@[go_sem] theorem aV_0 (v : Vs) : (aV v)[0]? = some (.int .u32 (iW v.a)) := rfl
@[go_sem] theorem aV_1 (v : Vs) : (aV v)[1]? = some (.int .u32 (iW v.b)) := rfl
@[go_sem] theorem aV_2 (v : Vs) : (aV v)[2]? = some (.int .u32 (iW v.c)) := rfl
@[go_sem] theorem aV_3 (v : Vs) : (aV v)[3]? = some (.int .u32 (iW v.d)) := rfl
@[go_sem] theorem aV_4 (v : Vs) : (aV v)[4]? = some (.int .u32 (iW v.e)) := rfl
@[go_sem] theorem aV_5 (v : Vs) : (aV v)[5]? = some (.int .u32 (iW v.f)) := rfl
@[go_sem] theorem aV_6 (v : Vs) : (aV v)[6]? = some (.int .u32 (iW v.g)) := rfl
@[go_sem] theorem aV_7 (v : Vs) : (aV v)[7]? = some (.int .u32 (iW v.i)) := rfl
@[go_sem] theorem aU_0 (x : Cu) : (aU x)[0]? = some (.string x.text) := rfl
@[go_sem] theorem aU_1 (x : Cu) : (aU x)[1]? = some (.int .i64 x.at_) := rfl
@[go_sem] theorem aU_2 (x : Cu) : (aU x)[2]? = some (.int .i64 x.err) := rfl
@[go_sem] theorem aU_3 (x : Cu) : (aU x)[3]? = some (.int .i64 x.wh) := rfl
theorem aX_32' (x : It) : (cX x)[32]? = some (.string x.text) := by
  unfold cX
  rw [List.getElem?_append_right (by rw [cI_length]; omega), cI_length]
  rfl
@[go_sem] theorem aX_32 (x : It) : (aX x)[32]? = some (.string x.text) := by
  unfold aX
  rw [List.getElem?_toArray, aX_32']
theorem cX_id (x : It) : ((cX x).drop 0).take 32 = cI x.id := by
  unfold cX
  rw [List.drop_zero, List.take_append_of_le_length (by rw [cI_length]; omega), List.take_of_length_le (by rw [cI_length]; omega)]
theorem at_off {w : World} {g k n : Nat} {cs ds : List Value} {ty : TypeId} (hg : g = w.heap.size) (hd : (cs.drop k).take n = ds) : At (w.alloc (.cells cs.toArray ty)) ⟨g, k, none⟩ ds := by
  subst hg
  exact (Row.new w cs ty).at_ hd
@[go_sem] theorem okA_Xid (x : It) (ty : TypeId) (g : Nat) (hg : g = w.heap.size) : okA (w.alloc (.cells (aX x) ty)) ⟨g, 0, none⟩ 32 = true := by
  have h := (at_off (w := w) (ty := ty) hg (cX_id x)).ok
  rwa [cI_length] at h
@[go_sem] theorem rdA_Xid (x : It) (ty : TypeId) (g : Nat) (hg : g = w.heap.size) : rdA (w.alloc (.cells (aX x) ty)) ⟨g, 0, none⟩ 32 = vI x.id := by
  have h := (at_off (w := w) (ty := ty) hg (cX_id x)).rd
  rwa [cI_length] at h
end
attribute [go_sem] okA_drew rdA_drew okA_drewN rdA_drewN okA_alloc rdA_alloc rowOk_drew rowOk_drewN rowOk_alloc setRow_new setRow_alloc setRow_drew setRow_drewN
theorem info5 : ∃ i, Tryd.prog.info? 5 = some i ∧ i.size = 1 := by
  have h : (Tryd.prog.info? 5).map (·.size) = some 1 := by kernel_rfl
  cases hq : Tryd.prog.info? 5 with
  | none => rw [hq] at h; cases h
  | some i => exact ⟨i, rfl, by simpa [hq] using h⟩
section
variable (w : World)
@[go_sem] theorem eql37 (a b : Id) : (binOp .eql 37 (vI a) (vI b)).run Tryd.prog w = .ok (.bool (decide (a = b))) w := by
  obtain ⟨i, h1, h2⟩ := info5
  unfold vI cI
  rw [run_eql_bytes w 32 37 5 i a.1 b.1 Tryd.underlying37 Tryd.underlying5 h1 h2 a.2 b.2]
  simp [Subtype.ext_iff]
@[go_sem] theorem neq37 (a b : Id) : (binOp .neq 37 (vI a) (vI b)).run Tryd.prog w = .ok (.bool (!decide (a = b))) w := by
  obtain ⟨i, h1, h2⟩ := info5
  unfold vI cI
  rw [run_neq_bytes w 32 37 5 i a.1 b.1 Tryd.underlying37 Tryd.underlying5 h1 h2 a.2 b.2]
  simp [Subtype.ext_iff]
theorem guard37 : Tryd.prog.eqGuardType Tryd.prog.depth 37 = false := by kernel_rfl
@[go_sem] theorem eqGuard37 (op : BinOp) (x y : Operand) (a b : Id) : (eqGuard op 37 x y (vI a) (vI b)).run Tryd.prog w = .ok () w := run_eqGuard_agg w op 37 x y _ _ guard37
@[go_sem] theorem eql34 (a b : Id) : (binOp .eql 34 (vI a) (vI b)).run Tryd.prog w = .ok (.bool (decide (a = b))) w := by
  obtain ⟨i, h1, h2⟩ := info5
  unfold vI cI
  rw [run_eql_bytes w 32 34 5 i a.1 b.1 Tryd.underlying34 Tryd.underlying5 h1 h2 a.2 b.2]
  simp [Subtype.ext_iff]
@[go_sem] theorem neq34 (a b : Id) : (binOp .neq 34 (vI a) (vI b)).run Tryd.prog w = .ok (.bool (!decide (a = b))) w := by
  obtain ⟨i, h1, h2⟩ := info5
  unfold vI cI
  rw [run_neq_bytes w 32 34 5 i a.1 b.1 Tryd.underlying34 Tryd.underlying5 h1 h2 a.2 b.2]
  simp [Subtype.ext_iff]
theorem guard34 : Tryd.prog.eqGuardType Tryd.prog.depth 34 = false := by kernel_rfl
@[go_sem] theorem eqGuard34 (op : BinOp) (x y : Operand) (a b : Id) : (eqGuard op 34 x y (vI a) (vI b)).run Tryd.prog w = .ok () w := run_eqGuard_agg w op 34 x y _ _ guard34
@[go_sem] theorem eql33 (a b : Id) : (binOp .eql 33 (vI a) (vI b)).run Tryd.prog w = .ok (.bool (decide (a = b))) w := by
  obtain ⟨i, h1, h2⟩ := info5
  unfold vI cI
  rw [run_eql_bytes w 32 33 5 i a.1 b.1 Tryd.underlying33 Tryd.underlying5 h1 h2 a.2 b.2]
  simp [Subtype.ext_iff]
@[go_sem] theorem neq33 (a b : Id) : (binOp .neq 33 (vI a) (vI b)).run Tryd.prog w = .ok (.bool (!decide (a = b))) w := by
  obtain ⟨i, h1, h2⟩ := info5
  unfold vI cI
  rw [run_neq_bytes w 32 33 5 i a.1 b.1 Tryd.underlying33 Tryd.underlying5 h1 h2 a.2 b.2]
  simp [Subtype.ext_iff]
theorem guard33 : Tryd.prog.eqGuardType Tryd.prog.depth 33 = false := by kernel_rfl
@[go_sem] theorem eqGuard33 (op : BinOp) (x y : Operand) (a b : Id) : (eqGuard op 33 x y (vI a) (vI b)).run Tryd.prog w = .ok () w := run_eqGuard_agg w op 33 x y _ _ guard33
@[go_sem ↓] theorem bs22 (n : Nat) (parts : Array (Nat × Value)) : Instr.buildSlice 22 n parts = bsA 22 n parts := rfl
@[go_sem] theorem run_bs22_1 (x : It) : (bsA 22 1 #[(0, vX x)]).run Tryd.prog w = .ok (.slice (some ⟨w.heap.size, 0, none⟩) 1 1) (w.alloc (.cells (aX x) 39)) := by
  obtain ⟨i, z, h1, h2, h3⟩ := info_of (show (Tryd.prog.info? 39).map (fun i => (i.zero.map (·.cells.size), i.size, i.bytes)) = some (some 33, 33, 48) by kernel_rfl)
  have h := run_bsA (P := Tryd.prog) w vX 22 39 i z 33 Tryd.underlying22 h1 h2 h3 (fun x => by show (aX x).size = 33; simp [aX, cX_length]) [x] (by simp)
  have e : (([x] : List It).flatMap fun x => (vX x).cells.toList) = cX x := by simp [vX, Value.cells]
  rw [e] at h
  exact h
@[go_sem ↓] theorem bs24 (n : Nat) (parts : Array (Nat × Value)) : Instr.buildSlice 24 n parts = bsA 24 n parts := rfl
@[go_sem] theorem run_bs24_1 (x : It) : (bsA 24 1 #[(0, vX x)]).run Tryd.prog w = .ok (.slice (some ⟨w.heap.size, 0, none⟩) 1 1) (w.alloc (.cells (aX x) 36)) := by
  obtain ⟨i, z, h1, h2, h3⟩ := info_of (show (Tryd.prog.info? 36).map (fun i => (i.zero.map (·.cells.size), i.size, i.bytes)) = some (some 33, 33, 48) by kernel_rfl)
  have h := run_bsA (P := Tryd.prog) w vX 24 36 i z 33 Tryd.underlying24 h1 h2 h3 (fun x => by show (aX x).size = 33; simp [aX, cX_length]) [x] (by simp)
  have e : (([x] : List It).flatMap fun x => (vX x).cells.toList) = cX x := by simp [vX, Value.cells]
  rw [e] at h
  exact h
end
theorem okA_below {w w' : World} {ad : Addr} {n : Nat} (h : okA w ad n = true) (hlt : ad.block < w.heap.size) (hb : Below w.heap.size w w') : okA w' ad n = true ∧ rdA w' ad n = rdA w ad n := by
  have hc : ∀ j, w'.cell? (ad.add j) = w.cell? (ad.add j) := fun j => hb.cell (by rw [block_of_add]; exact hlt)
  have hp : okA w' ad n = okA w ad n := by
    unfold okA
    simp only [hc]
  refine ⟨hp.trans h, ?_⟩
  unfold rdA
  simp only [hc]
end Go.Proofs.YtecalodcbkljoaaDoor
