/- The types of batches and digests at this translation: loaded, stored, boxed, built as whole values. -/
import Derived.Test.YtecalodcbkljoaaGreatDoorMRow
import Derived.Test.YtecalodcbkljoaaGreatDoorMSha
import Derived.Deep.CutBlock
namespace Go.Proofs.YtecalodcbkljoaaGreatDoor
open Go.RowKit
theorem cons_of {n : Nat} {α : Type} (l : List α) (h : l.length = n + 1) : ∃ a r, l = a :: r ∧ r.length = n := by
  cases l with
  | nil => cases h
  | cons a r => exact ⟨a, r, rfl, by simpa using h⟩
theorem Id.cases {P : Id → Prop} (h : ∀ a0 a1 a2 a3 a4 a5 a6 a7 a8 a9 a10 a11 a12 a13 a14 a15 a16 a17 a18 a19 a20 a21 a22 a23 a24 a25 a26 a27 a28 a29 a30 a31 : UInt8, P ⟨[a0, a1, a2, a3, a4, a5, a6, a7, a8, a9, a10, a11, a12, a13, a14, a15, a16, a17, a18, a19, a20, a21, a22, a23, a24, a25, a26, a27, a28, a29, a30, a31], rfl⟩) (x : Id) : P x := by
  obtain ⟨l0, hl⟩ := x
  obtain ⟨a0, l1, rfl, h0⟩ := cons_of l0 hl
  obtain ⟨a1, l2, rfl, h1⟩ := cons_of l1 h0
  obtain ⟨a2, l3, rfl, h2⟩ := cons_of l2 h1
  obtain ⟨a3, l4, rfl, h3⟩ := cons_of l3 h2
  obtain ⟨a4, l5, rfl, h4⟩ := cons_of l4 h3
  obtain ⟨a5, l6, rfl, h5⟩ := cons_of l5 h4
  obtain ⟨a6, l7, rfl, h6⟩ := cons_of l6 h5
  obtain ⟨a7, l8, rfl, h7⟩ := cons_of l7 h6
  obtain ⟨a8, l9, rfl, h8⟩ := cons_of l8 h7
  obtain ⟨a9, l10, rfl, h9⟩ := cons_of l9 h8
  obtain ⟨a10, l11, rfl, h10⟩ := cons_of l10 h9
  obtain ⟨a11, l12, rfl, h11⟩ := cons_of l11 h10
  obtain ⟨a12, l13, rfl, h12⟩ := cons_of l12 h11
  obtain ⟨a13, l14, rfl, h13⟩ := cons_of l13 h12
  obtain ⟨a14, l15, rfl, h14⟩ := cons_of l14 h13
  obtain ⟨a15, l16, rfl, h15⟩ := cons_of l15 h14
  obtain ⟨a16, l17, rfl, h16⟩ := cons_of l16 h15
  obtain ⟨a17, l18, rfl, h17⟩ := cons_of l17 h16
  obtain ⟨a18, l19, rfl, h18⟩ := cons_of l18 h17
  obtain ⟨a19, l20, rfl, h19⟩ := cons_of l19 h18
  obtain ⟨a20, l21, rfl, h20⟩ := cons_of l20 h19
  obtain ⟨a21, l22, rfl, h21⟩ := cons_of l21 h20
  obtain ⟨a22, l23, rfl, h22⟩ := cons_of l22 h21
  obtain ⟨a23, l24, rfl, h23⟩ := cons_of l23 h22
  obtain ⟨a24, l25, rfl, h24⟩ := cons_of l24 h23
  obtain ⟨a25, l26, rfl, h25⟩ := cons_of l25 h24
  obtain ⟨a26, l27, rfl, h26⟩ := cons_of l26 h25
  obtain ⟨a27, l28, rfl, h27⟩ := cons_of l27 h26
  obtain ⟨a28, l29, rfl, h28⟩ := cons_of l28 h27
  obtain ⟨a29, l30, rfl, h29⟩ := cons_of l29 h28
  obtain ⟨a30, l31, rfl, h30⟩ := cons_of l30 h29
  obtain ⟨a31, l32, rfl, h31⟩ := cons_of l31 h30
  obtain rfl : l32 = [] := List.eq_nil_of_length_eq_zero h31
  exact h a0 a1 a2 a3 a4 a5 a6 a7 a8 a9 a10 a11 a12 a13 a14 a15 a16 a17 a18 a19 a20 a21 a22 a23 a24 a25 a26 a27 a28 a29 a30 a31
/-- The zero identity. -/
def zI : Id := ⟨List.replicate 32 0, by simp⟩
def aI (x : Id) : Array Value := (cI x).toArray
/-- An item: its identity and its text. -/
structure It where
  id : Id
  text : ByteArray
theorem It.ext' {x y : It} (h1 : x.id = y.id) (h2 : x.text = y.text) : x = y := by
  cases x; cases y; simp_all
def cX (x : It) : List Value := cI x.id ++ [.string x.text]
def vX (x : It) : Value := .agg (cX x).toArray
def aX (x : It) : Array Value := (cX x).toArray
def zX : It := ⟨zI, ⟨#[]⟩⟩
theorem cX_length (x : It) : (cX x).length = 33 := by simp [cX, cI_length]
theorem cX_one (x : It) : ∀ u ∈ cX x, u.oneCell' = true := by
  intro u hu
  simp only [cX, List.mem_append, List.mem_cons, List.not_mem_nil, or_false] at hu
  rcases hu with h | rfl
  · exact cI_one _ u h
  · rfl
/-- The eight words of a state as cells. -/
def cV (v : Vs) : List Value := [vW v.a, vW v.b, vW v.c, vW v.d, vW v.e, vW v.f, vW v.g, vW v.i]
def vV (v : Vs) : Value := .agg (cV v).toArray
def aV (v : Vs) : Array Value := (cV v).toArray
def zV : Vs := ⟨0#32, 0#32, 0#32, 0#32, 0#32, 0#32, 0#32, 0#32⟩
theorem cV_length (v : Vs) : (cV v).length = 8 := rfl
theorem cV_one (v : Vs) : ∀ u ∈ cV v, u.oneCell' = true := by
  intro u hu
  simp only [cV, List.mem_cons, List.not_mem_nil, or_false] at hu
  rcases hu with rfl | rfl | rfl | rfl | rfl | rfl | rfl | rfl <;> rfl
/-- Sixteen words, 64 words, 16 bytes. -/
abbrev W16 := { l : List Wd // l.length = 16 }
abbrev W64 := { l : List Wd // l.length = 64 }
abbrev B16 := { l : List UInt8 // l.length = 16 }
def cM (x : W16) : List Value := x.1.map vW
def vM (x : W16) : Value := .agg (cM x).toArray
def aM (x : W16) : Array Value := (cM x).toArray
def zM : W16 := ⟨List.replicate 16 0#32, rfl⟩
theorem cM_length (x : W16) : (cM x).length = 16 := by simp [cM, x.2]
theorem words_one (l : List Wd) : ∀ u ∈ l.map vW, u.oneCell' = true := by
  intro u hu
  obtain ⟨b, _, rfl⟩ := List.mem_map.1 hu
  rfl
theorem bytes_one (l : List UInt8) : ∀ u ∈ l.map cB, u.oneCell' = true := by
  intro u hu
  obtain ⟨b, _, rfl⟩ := List.mem_map.1 hu
  rfl
theorem cM_one (x : W16) : ∀ u ∈ cM x, u.oneCell' = true := words_one _
def cL (x : W64) : List Value := x.1.map vW
def vL (x : W64) : Value := .agg (cL x).toArray
def aL (x : W64) : Array Value := (cL x).toArray
def zL : W64 := ⟨List.replicate 64 0#32, rfl⟩
theorem cL_length (x : W64) : (cL x).length = 64 := by simp [cL, x.2]
theorem cL_one (x : W64) : ∀ u ∈ cL x, u.oneCell' = true := words_one _
def cH (x : B16) : List Value := x.1.map cB
def vH (x : B16) : Value := .agg (cH x).toArray
def aH (x : B16) : Array Value := (cH x).toArray
def zH : B16 := ⟨List.replicate 16 0, rfl⟩
theorem cH_length (x : B16) : (cH x).length = 16 := by simp [cH, x.2]
theorem cH_one (x : B16) : ∀ u ∈ cH x, u.oneCell' = true := bytes_one _
/-- A Hash: its state, its block, the number of bytes. -/
structure Hs where
  st : Vs
  bk : { l : List UInt8 // l.length = 64 }
  len : Int
def cS (x : Hs) : List Value := cV x.st ++ (x.bk.1.map cB ++ [.int .i64 x.len])
def vS (x : Hs) : Value := .agg (cS x).toArray
def aS (x : Hs) : Array Value := (cS x).toArray
def zS : Hs := ⟨zV, ⟨List.replicate 64 0, rfl⟩, 0⟩
theorem cS_length (x : Hs) : (cS x).length = 73 := by simp [cS, cV_length, x.bk.2]
theorem cS_one (x : Hs) : ∀ u ∈ cS x, u.oneCell' = true := by
  intro u hu
  simp only [cS, List.mem_append, List.mem_cons, List.not_mem_nil, or_false] at hu
  rcases hu with h | h | rfl
  · exact cV_one _ u h
  · exact bytes_one _ u h
  · rfl
/-- A cursor; a Builder. -/
structure Cu where
  text : ByteArray
  at_ : Int
  err : Int
  wh : Int
def cU (x : Cu) : List Value := [.string x.text, .int .i64 x.at_, .int .i64 x.err, .int .i64 x.wh]
def vU (x : Cu) : Value := .agg (cU x).toArray
def aU (x : Cu) : Array Value := (cU x).toArray
def zU : Cu := ⟨⟨#[]⟩, 0, 0, 0⟩
theorem cU_length (x : Cu) : (cU x).length = 4 := rfl
theorem cU_one (x : Cu) : ∀ u ∈ cU x, u.oneCell' = true := by
  intro u hu
  simp only [cU, List.mem_cons, List.not_mem_nil, or_false] at hu
  rcases hu with rfl | rfl | rfl | rfl <;> rfl
section
variable (w : World) (v : Value)
theorem size37 : (Tryz.prog.info? 37).map (·.size) = some 32 := by kernel_rfl
@[go_sem ↓] theorem load37 : Instr.loadAt 37 v = ldA 37 v := rfl
@[go_sem] theorem run_ld37 (ad : Addr) : (ldA 37 (.pointer (some ad))).run Tryz.prog w = if okA w ad 32 = true then .ok (rdA w ad 32) w else (ldB 37 (.pointer (some ad))).run Tryz.prog w := run_ldA_if w 37 ad 32 _ Tryz.underlying37 rfl size37
@[go_sem ↓] theorem blt37 (parts : Array (Nat × Value)) : Instr.build 37 parts = blA 37 parts := rfl
@[go_sem ↓] theorem box37 : Instr.box 37 v = bxA 37 v := rfl
@[go_sem] theorem run_bx37 (x : Id) : (bxA 37 (vI x)).run Tryz.prog w = .ok (.pointer (some ⟨w.heap.size, 0, none⟩)) (w.alloc (.cells (aI x) 37)) := run_bxA w 37 _
@[go_sem ↓] theorem alloc37 (h : Bool) : Instr.alloc 37 h v = alA 37 h v := rfl
@[go_sem ↓] theorem store37 (u : Value) : Instr.storeAt 37 v u = stA 37 v u := rfl
@[go_sem] theorem run_st37 (g : Nat) (x : Id) : (stA 37 (.pointer (some ⟨g, 0, none⟩)) (vI x)).run Tryz.prog w = if rowOk w g 32 = true then .ok () (w.setRow g (aI x)) else (stB 37 (.pointer (some ⟨g, 0, none⟩)) (vI x)).run Tryz.prog w := run_stA_if w 37 g _ 32 size37 (by simp [cI_length]) (by simpa using cI_one x)
@[go_sem] theorem run_al37 : (alA 37 true (.tuple #[])).run Tryz.prog w = .ok (.pointer (some ⟨w.heap.size, 0, none⟩)) (w.alloc (.cells (aI zI) 37)) := by kernel_rfl
@[go_sem] theorem bl37_0 : (blA 37 #[]).run Tryz.prog w = .ok (vI zI) w := by kernel_rfl
theorem size36 : (Tryz.prog.info? 36).map (·.size) = some 32 := by kernel_rfl
@[go_sem ↓] theorem load36 : Instr.loadAt 36 v = ldA 36 v := rfl
@[go_sem] theorem run_ld36 (ad : Addr) : (ldA 36 (.pointer (some ad))).run Tryz.prog w = if okA w ad 32 = true then .ok (rdA w ad 32) w else (ldB 36 (.pointer (some ad))).run Tryz.prog w := run_ldA_if w 36 ad 32 _ Tryz.underlying36 rfl size36
@[go_sem ↓] theorem blt36 (parts : Array (Nat × Value)) : Instr.build 36 parts = blA 36 parts := rfl
@[go_sem ↓] theorem box36 : Instr.box 36 v = bxA 36 v := rfl
@[go_sem] theorem run_bx36 (x : Id) : (bxA 36 (vI x)).run Tryz.prog w = .ok (.pointer (some ⟨w.heap.size, 0, none⟩)) (w.alloc (.cells (aI x) 36)) := run_bxA w 36 _
@[go_sem ↓] theorem alloc36 (h : Bool) : Instr.alloc 36 h v = alA 36 h v := rfl
@[go_sem ↓] theorem store36 (u : Value) : Instr.storeAt 36 v u = stA 36 v u := rfl
@[go_sem] theorem run_st36 (g : Nat) (x : Id) : (stA 36 (.pointer (some ⟨g, 0, none⟩)) (vI x)).run Tryz.prog w = if rowOk w g 32 = true then .ok () (w.setRow g (aI x)) else (stB 36 (.pointer (some ⟨g, 0, none⟩)) (vI x)).run Tryz.prog w := run_stA_if w 36 g _ 32 size36 (by simp [cI_length]) (by simpa using cI_one x)
@[go_sem] theorem run_al36 : (alA 36 true (.tuple #[])).run Tryz.prog w = .ok (.pointer (some ⟨w.heap.size, 0, none⟩)) (w.alloc (.cells (aI zI) 36)) := by kernel_rfl
@[go_sem] theorem bl36_0 : (blA 36 #[]).run Tryz.prog w = .ok (vI zI) w := by kernel_rfl
theorem size35 : (Tryz.prog.info? 35).map (·.size) = some 32 := by kernel_rfl
@[go_sem ↓] theorem load35 : Instr.loadAt 35 v = ldA 35 v := rfl
@[go_sem] theorem run_ld35 (ad : Addr) : (ldA 35 (.pointer (some ad))).run Tryz.prog w = if okA w ad 32 = true then .ok (rdA w ad 32) w else (ldB 35 (.pointer (some ad))).run Tryz.prog w := run_ldA_if w 35 ad 32 _ Tryz.underlying35 rfl size35
@[go_sem ↓] theorem blt35 (parts : Array (Nat × Value)) : Instr.build 35 parts = blA 35 parts := rfl
@[go_sem ↓] theorem box35 : Instr.box 35 v = bxA 35 v := rfl
@[go_sem] theorem run_bx35 (x : Id) : (bxA 35 (vI x)).run Tryz.prog w = .ok (.pointer (some ⟨w.heap.size, 0, none⟩)) (w.alloc (.cells (aI x) 35)) := run_bxA w 35 _
@[go_sem ↓] theorem alloc35 (h : Bool) : Instr.alloc 35 h v = alA 35 h v := rfl
@[go_sem ↓] theorem store35 (u : Value) : Instr.storeAt 35 v u = stA 35 v u := rfl
@[go_sem] theorem run_st35 (g : Nat) (x : Id) : (stA 35 (.pointer (some ⟨g, 0, none⟩)) (vI x)).run Tryz.prog w = if rowOk w g 32 = true then .ok () (w.setRow g (aI x)) else (stB 35 (.pointer (some ⟨g, 0, none⟩)) (vI x)).run Tryz.prog w := run_stA_if w 35 g _ 32 size35 (by simp [cI_length]) (by simpa using cI_one x)
@[go_sem] theorem run_al35 : (alA 35 true (.tuple #[])).run Tryz.prog w = .ok (.pointer (some ⟨w.heap.size, 0, none⟩)) (w.alloc (.cells (aI zI) 35)) := by kernel_rfl
@[go_sem] theorem bl35_0 : (blA 35 #[]).run Tryz.prog w = .ok (vI zI) w := by kernel_rfl
theorem size143 : (Tryz.prog.info? 143).map (·.size) = some 32 := by kernel_rfl
@[go_sem ↓] theorem load143 : Instr.loadAt 143 v = ldA 143 v := rfl
@[go_sem] theorem run_ld143 (ad : Addr) : (ldA 143 (.pointer (some ad))).run Tryz.prog w = if okA w ad 32 = true then .ok (rdA w ad 32) w else (ldB 143 (.pointer (some ad))).run Tryz.prog w := run_ldA_if w 143 ad 32 _ Tryz.underlying143 rfl size143
@[go_sem ↓] theorem blt143 (parts : Array (Nat × Value)) : Instr.build 143 parts = blA 143 parts := rfl
@[go_sem ↓] theorem box143 : Instr.box 143 v = bxA 143 v := rfl
@[go_sem] theorem run_bx143 (x : Id) : (bxA 143 (vI x)).run Tryz.prog w = .ok (.pointer (some ⟨w.heap.size, 0, none⟩)) (w.alloc (.cells (aI x) 143)) := run_bxA w 143 _
@[go_sem ↓] theorem alloc143 (h : Bool) : Instr.alloc 143 h v = alA 143 h v := rfl
@[go_sem ↓] theorem store143 (u : Value) : Instr.storeAt 143 v u = stA 143 v u := rfl
@[go_sem] theorem run_st143 (g : Nat) (x : Id) : (stA 143 (.pointer (some ⟨g, 0, none⟩)) (vI x)).run Tryz.prog w = if rowOk w g 32 = true then .ok () (w.setRow g (aI x)) else (stB 143 (.pointer (some ⟨g, 0, none⟩)) (vI x)).run Tryz.prog w := run_stA_if w 143 g _ 32 size143 (by simp [cI_length]) (by simpa using cI_one x)
@[go_sem] theorem run_al143 : (alA 143 true (.tuple #[])).run Tryz.prog w = .ok (.pointer (some ⟨w.heap.size, 0, none⟩)) (w.alloc (.cells (aI zI) 143)) := by kernel_rfl
@[go_sem] theorem bl143_0 : (blA 143 #[]).run Tryz.prog w = .ok (vI zI) w := by kernel_rfl
theorem size64 : (Tryz.prog.info? 64).map (·.size) = some 33 := by kernel_rfl
@[go_sem ↓] theorem load64 : Instr.loadAt 64 v = ldA 64 v := rfl
@[go_sem] theorem run_ld64 (ad : Addr) : (ldA 64 (.pointer (some ad))).run Tryz.prog w = if okA w ad 33 = true then .ok (rdA w ad 33) w else (ldB 64 (.pointer (some ad))).run Tryz.prog w := run_ldA_if w 64 ad 33 _ Tryz.underlying64 rfl size64
@[go_sem ↓] theorem blt64 (parts : Array (Nat × Value)) : Instr.build 64 parts = blA 64 parts := rfl
@[go_sem ↓] theorem box64 : Instr.box 64 v = bxA 64 v := rfl
@[go_sem] theorem run_bx64 (x : It) : (bxA 64 (vX x)).run Tryz.prog w = .ok (.pointer (some ⟨w.heap.size, 0, none⟩)) (w.alloc (.cells (aX x) 64)) := run_bxA w 64 _
@[go_sem ↓] theorem alloc64 (h : Bool) : Instr.alloc 64 h v = alA 64 h v := rfl
@[go_sem ↓] theorem store64 (u : Value) : Instr.storeAt 64 v u = stA 64 v u := rfl
@[go_sem] theorem run_st64 (g : Nat) (x : It) : (stA 64 (.pointer (some ⟨g, 0, none⟩)) (vX x)).run Tryz.prog w = if rowOk w g 33 = true then .ok () (w.setRow g (aX x)) else (stB 64 (.pointer (some ⟨g, 0, none⟩)) (vX x)).run Tryz.prog w := run_stA_if w 64 g _ 33 size64 (by simp [cX_length]) (by simpa using cX_one x)
@[go_sem] theorem run_al64 : (alA 64 true (.tuple #[])).run Tryz.prog w = .ok (.pointer (some ⟨w.heap.size, 0, none⟩)) (w.alloc (.cells (aX zX) 64)) := by kernel_rfl
@[go_sem] theorem bl64_0 : (blA 64 #[]).run Tryz.prog w = .ok (vX zX) w := by kernel_rfl
theorem size39 : (Tryz.prog.info? 39).map (·.size) = some 33 := by kernel_rfl
@[go_sem ↓] theorem load39 : Instr.loadAt 39 v = ldA 39 v := rfl
@[go_sem] theorem run_ld39 (ad : Addr) : (ldA 39 (.pointer (some ad))).run Tryz.prog w = if okA w ad 33 = true then .ok (rdA w ad 33) w else (ldB 39 (.pointer (some ad))).run Tryz.prog w := run_ldA_if w 39 ad 33 _ Tryz.underlying39 rfl size39
@[go_sem ↓] theorem blt39 (parts : Array (Nat × Value)) : Instr.build 39 parts = blA 39 parts := rfl
@[go_sem ↓] theorem box39 : Instr.box 39 v = bxA 39 v := rfl
@[go_sem] theorem run_bx39 (x : It) : (bxA 39 (vX x)).run Tryz.prog w = .ok (.pointer (some ⟨w.heap.size, 0, none⟩)) (w.alloc (.cells (aX x) 39)) := run_bxA w 39 _
@[go_sem ↓] theorem alloc39 (h : Bool) : Instr.alloc 39 h v = alA 39 h v := rfl
@[go_sem ↓] theorem store39 (u : Value) : Instr.storeAt 39 v u = stA 39 v u := rfl
@[go_sem] theorem run_st39 (g : Nat) (x : It) : (stA 39 (.pointer (some ⟨g, 0, none⟩)) (vX x)).run Tryz.prog w = if rowOk w g 33 = true then .ok () (w.setRow g (aX x)) else (stB 39 (.pointer (some ⟨g, 0, none⟩)) (vX x)).run Tryz.prog w := run_stA_if w 39 g _ 33 size39 (by simp [cX_length]) (by simpa using cX_one x)
@[go_sem] theorem run_al39 : (alA 39 true (.tuple #[])).run Tryz.prog w = .ok (.pointer (some ⟨w.heap.size, 0, none⟩)) (w.alloc (.cells (aX zX) 39)) := by kernel_rfl
@[go_sem] theorem bl39_0 : (blA 39 #[]).run Tryz.prog w = .ok (vX zX) w := by kernel_rfl
theorem size156 : (Tryz.prog.info? 156).map (·.size) = some 8 := by kernel_rfl
@[go_sem ↓] theorem load156 : Instr.loadAt 156 v = ldA 156 v := rfl
@[go_sem] theorem run_ld156 (ad : Addr) : (ldA 156 (.pointer (some ad))).run Tryz.prog w = if okA w ad 8 = true then .ok (rdA w ad 8) w else (ldB 156 (.pointer (some ad))).run Tryz.prog w := run_ldA_if w 156 ad 8 _ Tryz.underlying156 rfl size156
@[go_sem ↓] theorem blt156 (parts : Array (Nat × Value)) : Instr.build 156 parts = blA 156 parts := rfl
@[go_sem ↓] theorem box156 : Instr.box 156 v = bxA 156 v := rfl
@[go_sem] theorem run_bx156 (x : Vs) : (bxA 156 (vV x)).run Tryz.prog w = .ok (.pointer (some ⟨w.heap.size, 0, none⟩)) (w.alloc (.cells (aV x) 156)) := run_bxA w 156 _
@[go_sem ↓] theorem alloc156 (h : Bool) : Instr.alloc 156 h v = alA 156 h v := rfl
@[go_sem ↓] theorem store156 (u : Value) : Instr.storeAt 156 v u = stA 156 v u := rfl
@[go_sem] theorem run_st156 (g : Nat) (x : Vs) : (stA 156 (.pointer (some ⟨g, 0, none⟩)) (vV x)).run Tryz.prog w = if rowOk w g 8 = true then .ok () (w.setRow g (aV x)) else (stB 156 (.pointer (some ⟨g, 0, none⟩)) (vV x)).run Tryz.prog w := run_stA_if w 156 g _ 8 size156 (by simp [cV_length]) (by simpa using cV_one x)
@[go_sem] theorem run_al156 : (alA 156 true (.tuple #[])).run Tryz.prog w = .ok (.pointer (some ⟨w.heap.size, 0, none⟩)) (w.alloc (.cells (aV zV) 156)) := by kernel_rfl
@[go_sem] theorem bl156_0 : (blA 156 #[]).run Tryz.prog w = .ok (vV zV) w := by kernel_rfl
theorem size115 : (Tryz.prog.info? 115).map (·.size) = some 8 := by kernel_rfl
@[go_sem ↓] theorem load115 : Instr.loadAt 115 v = ldA 115 v := rfl
@[go_sem] theorem run_ld115 (ad : Addr) : (ldA 115 (.pointer (some ad))).run Tryz.prog w = if okA w ad 8 = true then .ok (rdA w ad 8) w else (ldB 115 (.pointer (some ad))).run Tryz.prog w := run_ldA_if w 115 ad 8 _ Tryz.underlying115 rfl size115
@[go_sem ↓] theorem blt115 (parts : Array (Nat × Value)) : Instr.build 115 parts = blA 115 parts := rfl
@[go_sem ↓] theorem box115 : Instr.box 115 v = bxA 115 v := rfl
@[go_sem] theorem run_bx115 (x : Vs) : (bxA 115 (vV x)).run Tryz.prog w = .ok (.pointer (some ⟨w.heap.size, 0, none⟩)) (w.alloc (.cells (aV x) 115)) := run_bxA w 115 _
@[go_sem ↓] theorem alloc115 (h : Bool) : Instr.alloc 115 h v = alA 115 h v := rfl
@[go_sem ↓] theorem store115 (u : Value) : Instr.storeAt 115 v u = stA 115 v u := rfl
@[go_sem] theorem run_st115 (g : Nat) (x : Vs) : (stA 115 (.pointer (some ⟨g, 0, none⟩)) (vV x)).run Tryz.prog w = if rowOk w g 8 = true then .ok () (w.setRow g (aV x)) else (stB 115 (.pointer (some ⟨g, 0, none⟩)) (vV x)).run Tryz.prog w := run_stA_if w 115 g _ 8 size115 (by simp [cV_length]) (by simpa using cV_one x)
@[go_sem] theorem run_al115 : (alA 115 true (.tuple #[])).run Tryz.prog w = .ok (.pointer (some ⟨w.heap.size, 0, none⟩)) (w.alloc (.cells (aV zV) 115)) := by kernel_rfl
@[go_sem] theorem bl115_0 : (blA 115 #[]).run Tryz.prog w = .ok (vV zV) w := by kernel_rfl
theorem size161 : (Tryz.prog.info? 161).map (·.size) = some 16 := by kernel_rfl
@[go_sem ↓] theorem load161 : Instr.loadAt 161 v = ldA 161 v := rfl
@[go_sem] theorem run_ld161 (ad : Addr) : (ldA 161 (.pointer (some ad))).run Tryz.prog w = if okA w ad 16 = true then .ok (rdA w ad 16) w else (ldB 161 (.pointer (some ad))).run Tryz.prog w := run_ldA_if w 161 ad 16 _ Tryz.underlying161 rfl size161
@[go_sem ↓] theorem blt161 (parts : Array (Nat × Value)) : Instr.build 161 parts = blA 161 parts := rfl
@[go_sem ↓] theorem box161 : Instr.box 161 v = bxA 161 v := rfl
@[go_sem] theorem run_bx161 (x : W16) : (bxA 161 (vM x)).run Tryz.prog w = .ok (.pointer (some ⟨w.heap.size, 0, none⟩)) (w.alloc (.cells (aM x) 161)) := run_bxA w 161 _
@[go_sem ↓] theorem alloc161 (h : Bool) : Instr.alloc 161 h v = alA 161 h v := rfl
@[go_sem ↓] theorem store161 (u : Value) : Instr.storeAt 161 v u = stA 161 v u := rfl
@[go_sem] theorem run_st161 (g : Nat) (x : W16) : (stA 161 (.pointer (some ⟨g, 0, none⟩)) (vM x)).run Tryz.prog w = if rowOk w g 16 = true then .ok () (w.setRow g (aM x)) else (stB 161 (.pointer (some ⟨g, 0, none⟩)) (vM x)).run Tryz.prog w := run_stA_if w 161 g _ 16 size161 (by simp [cM_length]) (by simpa using cM_one x)
@[go_sem] theorem run_al161 : (alA 161 true (.tuple #[])).run Tryz.prog w = .ok (.pointer (some ⟨w.heap.size, 0, none⟩)) (w.alloc (.cells (aM zM) 161)) := by kernel_rfl
@[go_sem] theorem bl161_0 : (blA 161 #[]).run Tryz.prog w = .ok (vM zM) w := by kernel_rfl
theorem size116 : (Tryz.prog.info? 116).map (·.size) = some 64 := by kernel_rfl
@[go_sem ↓] theorem load116 : Instr.loadAt 116 v = ldA 116 v := rfl
@[go_sem] theorem run_ld116 (ad : Addr) : (ldA 116 (.pointer (some ad))).run Tryz.prog w = if okA w ad 64 = true then .ok (rdA w ad 64) w else (ldB 116 (.pointer (some ad))).run Tryz.prog w := run_ldA_if w 116 ad 64 _ Tryz.underlying116 rfl size116
@[go_sem ↓] theorem blt116 (parts : Array (Nat × Value)) : Instr.build 116 parts = blA 116 parts := rfl
@[go_sem ↓] theorem box116 : Instr.box 116 v = bxA 116 v := rfl
@[go_sem] theorem run_bx116 (x : W64) : (bxA 116 (vL x)).run Tryz.prog w = .ok (.pointer (some ⟨w.heap.size, 0, none⟩)) (w.alloc (.cells (aL x) 116)) := run_bxA w 116 _
@[go_sem ↓] theorem alloc116 (h : Bool) : Instr.alloc 116 h v = alA 116 h v := rfl
@[go_sem ↓] theorem store116 (u : Value) : Instr.storeAt 116 v u = stA 116 v u := rfl
@[go_sem] theorem run_st116 (g : Nat) (x : W64) : (stA 116 (.pointer (some ⟨g, 0, none⟩)) (vL x)).run Tryz.prog w = if rowOk w g 64 = true then .ok () (w.setRow g (aL x)) else (stB 116 (.pointer (some ⟨g, 0, none⟩)) (vL x)).run Tryz.prog w := run_stA_if w 116 g _ 64 size116 (by simp [cL_length]) (by simpa using cL_one x)
@[go_sem] theorem run_al116 : (alA 116 true (.tuple #[])).run Tryz.prog w = .ok (.pointer (some ⟨w.heap.size, 0, none⟩)) (w.alloc (.cells (aL zL) 116)) := by kernel_rfl
@[go_sem] theorem bl116_0 : (blA 116 #[]).run Tryz.prog w = .ok (vL zL) w := by kernel_rfl
theorem size130 : (Tryz.prog.info? 130).map (·.size) = some 16 := by kernel_rfl
@[go_sem ↓] theorem load130 : Instr.loadAt 130 v = ldA 130 v := rfl
@[go_sem] theorem run_ld130 (ad : Addr) : (ldA 130 (.pointer (some ad))).run Tryz.prog w = if okA w ad 16 = true then .ok (rdA w ad 16) w else (ldB 130 (.pointer (some ad))).run Tryz.prog w := run_ldA_if w 130 ad 16 _ Tryz.underlying130 rfl size130
@[go_sem ↓] theorem blt130 (parts : Array (Nat × Value)) : Instr.build 130 parts = blA 130 parts := rfl
@[go_sem ↓] theorem box130 : Instr.box 130 v = bxA 130 v := rfl
@[go_sem] theorem run_bx130 (x : B16) : (bxA 130 (vH x)).run Tryz.prog w = .ok (.pointer (some ⟨w.heap.size, 0, none⟩)) (w.alloc (.cells (aH x) 130)) := run_bxA w 130 _
@[go_sem ↓] theorem alloc130 (h : Bool) : Instr.alloc 130 h v = alA 130 h v := rfl
@[go_sem ↓] theorem store130 (u : Value) : Instr.storeAt 130 v u = stA 130 v u := rfl
@[go_sem] theorem run_st130 (g : Nat) (x : B16) : (stA 130 (.pointer (some ⟨g, 0, none⟩)) (vH x)).run Tryz.prog w = if rowOk w g 16 = true then .ok () (w.setRow g (aH x)) else (stB 130 (.pointer (some ⟨g, 0, none⟩)) (vH x)).run Tryz.prog w := run_stA_if w 130 g _ 16 size130 (by simp [cH_length]) (by simpa using cH_one x)
@[go_sem] theorem run_al130 : (alA 130 true (.tuple #[])).run Tryz.prog w = .ok (.pointer (some ⟨w.heap.size, 0, none⟩)) (w.alloc (.cells (aH zH) 130)) := by kernel_rfl
@[go_sem] theorem bl130_0 : (blA 130 #[]).run Tryz.prog w = .ok (vH zH) w := by kernel_rfl
theorem size131 : (Tryz.prog.info? 131).map (·.size) = some 16 := by kernel_rfl
@[go_sem ↓] theorem load131 : Instr.loadAt 131 v = ldA 131 v := rfl
@[go_sem] theorem run_ld131 (ad : Addr) : (ldA 131 (.pointer (some ad))).run Tryz.prog w = if okA w ad 16 = true then .ok (rdA w ad 16) w else (ldB 131 (.pointer (some ad))).run Tryz.prog w := run_ldA_if w 131 ad 16 _ Tryz.underlying131 rfl size131
@[go_sem ↓] theorem blt131 (parts : Array (Nat × Value)) : Instr.build 131 parts = blA 131 parts := rfl
@[go_sem ↓] theorem box131 : Instr.box 131 v = bxA 131 v := rfl
@[go_sem] theorem run_bx131 (x : B16) : (bxA 131 (vH x)).run Tryz.prog w = .ok (.pointer (some ⟨w.heap.size, 0, none⟩)) (w.alloc (.cells (aH x) 131)) := run_bxA w 131 _
@[go_sem ↓] theorem alloc131 (h : Bool) : Instr.alloc 131 h v = alA 131 h v := rfl
@[go_sem ↓] theorem store131 (u : Value) : Instr.storeAt 131 v u = stA 131 v u := rfl
@[go_sem] theorem run_st131 (g : Nat) (x : B16) : (stA 131 (.pointer (some ⟨g, 0, none⟩)) (vH x)).run Tryz.prog w = if rowOk w g 16 = true then .ok () (w.setRow g (aH x)) else (stB 131 (.pointer (some ⟨g, 0, none⟩)) (vH x)).run Tryz.prog w := run_stA_if w 131 g _ 16 size131 (by simp [cH_length]) (by simpa using cH_one x)
@[go_sem] theorem run_al131 : (alA 131 true (.tuple #[])).run Tryz.prog w = .ok (.pointer (some ⟨w.heap.size, 0, none⟩)) (w.alloc (.cells (aH zH) 131)) := by kernel_rfl
@[go_sem] theorem bl131_0 : (blA 131 #[]).run Tryz.prog w = .ok (vH zH) w := by kernel_rfl
theorem size158 : (Tryz.prog.info? 158).map (·.size) = some 73 := by kernel_rfl
@[go_sem ↓] theorem load158 : Instr.loadAt 158 v = ldA 158 v := rfl
@[go_sem] theorem run_ld158 (ad : Addr) : (ldA 158 (.pointer (some ad))).run Tryz.prog w = if okA w ad 73 = true then .ok (rdA w ad 73) w else (ldB 158 (.pointer (some ad))).run Tryz.prog w := run_ldA_if w 158 ad 73 _ Tryz.underlying158 rfl size158
@[go_sem ↓] theorem blt158 (parts : Array (Nat × Value)) : Instr.build 158 parts = blA 158 parts := rfl
@[go_sem ↓] theorem box158 : Instr.box 158 v = bxA 158 v := rfl
@[go_sem] theorem run_bx158 (x : Hs) : (bxA 158 (vS x)).run Tryz.prog w = .ok (.pointer (some ⟨w.heap.size, 0, none⟩)) (w.alloc (.cells (aS x) 158)) := run_bxA w 158 _
@[go_sem ↓] theorem alloc158 (h : Bool) : Instr.alloc 158 h v = alA 158 h v := rfl
@[go_sem ↓] theorem store158 (u : Value) : Instr.storeAt 158 v u = stA 158 v u := rfl
@[go_sem] theorem run_st158 (g : Nat) (x : Hs) : (stA 158 (.pointer (some ⟨g, 0, none⟩)) (vS x)).run Tryz.prog w = if rowOk w g 73 = true then .ok () (w.setRow g (aS x)) else (stB 158 (.pointer (some ⟨g, 0, none⟩)) (vS x)).run Tryz.prog w := run_stA_if w 158 g _ 73 size158 (by simp [cS_length]) (by simpa using cS_one x)
@[go_sem] theorem run_al158 : (alA 158 true (.tuple #[])).run Tryz.prog w = .ok (.pointer (some ⟨w.heap.size, 0, none⟩)) (w.alloc (.cells (aS zS) 158)) := by kernel_rfl
@[go_sem] theorem bl158_0 : (blA 158 #[]).run Tryz.prog w = .ok (vS zS) w := by kernel_rfl
theorem size73 : (Tryz.prog.info? 73).map (·.size) = some 4 := by kernel_rfl
@[go_sem ↓] theorem load73 : Instr.loadAt 73 v = ldA 73 v := rfl
@[go_sem] theorem run_ld73 (ad : Addr) : (ldA 73 (.pointer (some ad))).run Tryz.prog w = if okA w ad 4 = true then .ok (rdA w ad 4) w else (ldB 73 (.pointer (some ad))).run Tryz.prog w := run_ldA_if w 73 ad 4 _ Tryz.underlying73 rfl size73
@[go_sem ↓] theorem blt73 (parts : Array (Nat × Value)) : Instr.build 73 parts = blA 73 parts := rfl
@[go_sem ↓] theorem box73 : Instr.box 73 v = bxA 73 v := rfl
@[go_sem] theorem run_bx73 (x : Cu) : (bxA 73 (vU x)).run Tryz.prog w = .ok (.pointer (some ⟨w.heap.size, 0, none⟩)) (w.alloc (.cells (aU x) 73)) := run_bxA w 73 _
@[go_sem ↓] theorem alloc73 (h : Bool) : Instr.alloc 73 h v = alA 73 h v := rfl
@[go_sem ↓] theorem store73 (u : Value) : Instr.storeAt 73 v u = stA 73 v u := rfl
@[go_sem] theorem run_st73 (g : Nat) (x : Cu) : (stA 73 (.pointer (some ⟨g, 0, none⟩)) (vU x)).run Tryz.prog w = if rowOk w g 4 = true then .ok () (w.setRow g (aU x)) else (stB 73 (.pointer (some ⟨g, 0, none⟩)) (vU x)).run Tryz.prog w := run_stA_if w 73 g _ 4 size73 (by simp [cU_length]) (by simpa using cU_one x)
@[go_sem] theorem run_al73 : (alA 73 true (.tuple #[])).run Tryz.prog w = .ok (.pointer (some ⟨w.heap.size, 0, none⟩)) (w.alloc (.cells (aU zU) 73)) := by kernel_rfl
@[go_sem] theorem bl73_0 : (blA 73 #[]).run Tryz.prog w = .ok (vU zU) w := by kernel_rfl
@[go_sem] theorem rowOk_nI (x : Id) (ty : TypeId) (g : Nat) (hg : g = w.heap.size) : rowOk (w.alloc (.cells (aI x) ty)) g 32 = true := rowOk_new w _ ty g 32 hg (by simp [aI, cI_length])
@[go_sem] theorem okA_nI (x : Id) (ty : TypeId) (g : Nat) (hg : g = w.heap.size) : okA (w.alloc (.cells (aI x) ty)) ⟨g, 0, none⟩ 32 = true := okA_new w _ ty g 32 hg (cI_length x)
@[go_sem] theorem rdA_nI (x : Id) (ty : TypeId) (g : Nat) (hg : g = w.heap.size) : rdA (w.alloc (.cells (aI x) ty)) ⟨g, 0, none⟩ 32 = vI x := rdA_new w _ ty g 32 hg (cI_length x)
@[go_sem] theorem rowOk_nX (x : It) (ty : TypeId) (g : Nat) (hg : g = w.heap.size) : rowOk (w.alloc (.cells (aX x) ty)) g 33 = true := rowOk_new w _ ty g 33 hg (by simp [aX, cX_length])
@[go_sem] theorem okA_nX (x : It) (ty : TypeId) (g : Nat) (hg : g = w.heap.size) : okA (w.alloc (.cells (aX x) ty)) ⟨g, 0, none⟩ 33 = true := okA_new w _ ty g 33 hg (cX_length x)
@[go_sem] theorem rdA_nX (x : It) (ty : TypeId) (g : Nat) (hg : g = w.heap.size) : rdA (w.alloc (.cells (aX x) ty)) ⟨g, 0, none⟩ 33 = vX x := rdA_new w _ ty g 33 hg (cX_length x)
@[go_sem] theorem rowOk_nV (x : Vs) (ty : TypeId) (g : Nat) (hg : g = w.heap.size) : rowOk (w.alloc (.cells (aV x) ty)) g 8 = true := rowOk_new w _ ty g 8 hg (by simp [aV, cV_length])
@[go_sem] theorem okA_nV (x : Vs) (ty : TypeId) (g : Nat) (hg : g = w.heap.size) : okA (w.alloc (.cells (aV x) ty)) ⟨g, 0, none⟩ 8 = true := okA_new w _ ty g 8 hg (cV_length x)
@[go_sem] theorem rdA_nV (x : Vs) (ty : TypeId) (g : Nat) (hg : g = w.heap.size) : rdA (w.alloc (.cells (aV x) ty)) ⟨g, 0, none⟩ 8 = vV x := rdA_new w _ ty g 8 hg (cV_length x)
@[go_sem] theorem rowOk_nM (x : W16) (ty : TypeId) (g : Nat) (hg : g = w.heap.size) : rowOk (w.alloc (.cells (aM x) ty)) g 16 = true := rowOk_new w _ ty g 16 hg (by simp [aM, cM_length])
@[go_sem] theorem okA_nM (x : W16) (ty : TypeId) (g : Nat) (hg : g = w.heap.size) : okA (w.alloc (.cells (aM x) ty)) ⟨g, 0, none⟩ 16 = true := okA_new w _ ty g 16 hg (cM_length x)
@[go_sem] theorem rdA_nM (x : W16) (ty : TypeId) (g : Nat) (hg : g = w.heap.size) : rdA (w.alloc (.cells (aM x) ty)) ⟨g, 0, none⟩ 16 = vM x := rdA_new w _ ty g 16 hg (cM_length x)
@[go_sem] theorem rowOk_nL (x : W64) (ty : TypeId) (g : Nat) (hg : g = w.heap.size) : rowOk (w.alloc (.cells (aL x) ty)) g 64 = true := rowOk_new w _ ty g 64 hg (by simp [aL, cL_length])
@[go_sem] theorem okA_nL (x : W64) (ty : TypeId) (g : Nat) (hg : g = w.heap.size) : okA (w.alloc (.cells (aL x) ty)) ⟨g, 0, none⟩ 64 = true := okA_new w _ ty g 64 hg (cL_length x)
@[go_sem] theorem rdA_nL (x : W64) (ty : TypeId) (g : Nat) (hg : g = w.heap.size) : rdA (w.alloc (.cells (aL x) ty)) ⟨g, 0, none⟩ 64 = vL x := rdA_new w _ ty g 64 hg (cL_length x)
@[go_sem] theorem rowOk_nH (x : B16) (ty : TypeId) (g : Nat) (hg : g = w.heap.size) : rowOk (w.alloc (.cells (aH x) ty)) g 16 = true := rowOk_new w _ ty g 16 hg (by simp [aH, cH_length])
@[go_sem] theorem okA_nH (x : B16) (ty : TypeId) (g : Nat) (hg : g = w.heap.size) : okA (w.alloc (.cells (aH x) ty)) ⟨g, 0, none⟩ 16 = true := okA_new w _ ty g 16 hg (cH_length x)
@[go_sem] theorem rdA_nH (x : B16) (ty : TypeId) (g : Nat) (hg : g = w.heap.size) : rdA (w.alloc (.cells (aH x) ty)) ⟨g, 0, none⟩ 16 = vH x := rdA_new w _ ty g 16 hg (cH_length x)
@[go_sem] theorem rowOk_nS (x : Hs) (ty : TypeId) (g : Nat) (hg : g = w.heap.size) : rowOk (w.alloc (.cells (aS x) ty)) g 73 = true := rowOk_new w _ ty g 73 hg (by simp [aS, cS_length])
@[go_sem] theorem okA_nS (x : Hs) (ty : TypeId) (g : Nat) (hg : g = w.heap.size) : okA (w.alloc (.cells (aS x) ty)) ⟨g, 0, none⟩ 73 = true := okA_new w _ ty g 73 hg (cS_length x)
@[go_sem] theorem rdA_nS (x : Hs) (ty : TypeId) (g : Nat) (hg : g = w.heap.size) : rdA (w.alloc (.cells (aS x) ty)) ⟨g, 0, none⟩ 73 = vS x := rdA_new w _ ty g 73 hg (cS_length x)
@[go_sem] theorem rowOk_nU (x : Cu) (ty : TypeId) (g : Nat) (hg : g = w.heap.size) : rowOk (w.alloc (.cells (aU x) ty)) g 4 = true := rowOk_new w _ ty g 4 hg (by simp [aU, cU_length])
@[go_sem] theorem okA_nU (x : Cu) (ty : TypeId) (g : Nat) (hg : g = w.heap.size) : okA (w.alloc (.cells (aU x) ty)) ⟨g, 0, none⟩ 4 = true := okA_new w _ ty g 4 hg (cU_length x)
@[go_sem] theorem rdA_nU (x : Cu) (ty : TypeId) (g : Nat) (hg : g = w.heap.size) : rdA (w.alloc (.cells (aU x) ty)) ⟨g, 0, none⟩ 4 = vU x := rdA_new w _ ty g 4 hg (cU_length x)
@[go_sem] theorem blX1_64 (x : Id) : (blA 64 #[(0, vI x)]).run Tryz.prog w = .ok (vX ⟨x, ⟨#[]⟩⟩) w := by
  revert x
  refine Id.cases fun a0 a1 a2 a3 a4 a5 a6 a7 a8 a9 a10 a11 a12 a13 a14 a15 a16 a17 a18 a19 a20 a21 a22 a23 a24 a25 a26 a27 a28 a29 a30 a31 => ?_
  kernel_rfl
@[go_sem] theorem blX2_64 (x : Id) (s : ByteArray) : (blA 64 #[(0, vI x), (1, .string s)]).run Tryz.prog w = .ok (vX ⟨x, s⟩) w := by
  revert x
  refine Id.cases fun a0 a1 a2 a3 a4 a5 a6 a7 a8 a9 a10 a11 a12 a13 a14 a15 a16 a17 a18 a19 a20 a21 a22 a23 a24 a25 a26 a27 a28 a29 a30 a31 => ?_
  kernel_rfl
@[go_sem] theorem blX1_39 (x : Id) : (blA 39 #[(0, vI x)]).run Tryz.prog w = .ok (vX ⟨x, ⟨#[]⟩⟩) w := by
  revert x
  refine Id.cases fun a0 a1 a2 a3 a4 a5 a6 a7 a8 a9 a10 a11 a12 a13 a14 a15 a16 a17 a18 a19 a20 a21 a22 a23 a24 a25 a26 a27 a28 a29 a30 a31 => ?_
  kernel_rfl
@[go_sem] theorem blX2_39 (x : Id) (s : ByteArray) : (blA 39 #[(0, vI x), (1, .string s)]).run Tryz.prog w = .ok (vX ⟨x, s⟩) w := by
  revert x
  refine Id.cases fun a0 a1 a2 a3 a4 a5 a6 a7 a8 a9 a10 a11 a12 a13 a14 a15 a16 a17 a18 a19 a20 a21 a22 a23 a24 a25 a26 a27 a28 a29 a30 a31 => ?_
  kernel_rfl
@[go_sem] theorem blV_156 (a b c d e f g i : Wd) : (blA 156 #[(0, .int .u32 (iW a)), (1, .int .u32 (iW b)), (2, .int .u32 (iW c)), (3, .int .u32 (iW d)), (4, .int .u32 (iW e)), (5, .int .u32 (iW f)), (6, .int .u32 (iW g)), (7, .int .u32 (iW i))]).run Tryz.prog w = .ok (vV ⟨a, b, c, d, e, f, g, i⟩) w := by kernel_rfl
@[go_sem] theorem blV_115 (a b c d e f g i : Wd) : (blA 115 #[(0, .int .u32 (iW a)), (1, .int .u32 (iW b)), (2, .int .u32 (iW c)), (3, .int .u32 (iW d)), (4, .int .u32 (iW e)), (5, .int .u32 (iW f)), (6, .int .u32 (iW g)), (7, .int .u32 (iW i))]).run Tryz.prog w = .ok (vV ⟨a, b, c, d, e, f, g, i⟩) w := by kernel_rfl
@[go_sem] theorem blU_1 (s : ByteArray) : (blA 73 #[(0, .string s)]).run Tryz.prog w = .ok (vU ⟨s, 0, 0, 0⟩) w := by kernel_rfl
@[go_sem] theorem blU_2 (s : ByteArray) (a : Int) : (blA 73 #[(0, .string s), (1, .int .i64 a)]).run Tryz.prog w = .ok (vU ⟨s, a, 0, 0⟩) w := by kernel_rfl
@[go_sem] theorem aV_0 (v : Vs) : (aV v)[0]? = some (.int .u32 (iW v.a)) := rfl
@[go_sem] theorem aV_1 (v : Vs) : (aV v)[1]? = some (.int .u32 (iW v.b)) := rfl
@[go_sem] theorem aV_2 (v : Vs) : (aV v)[2]? = some (.int .u32 (iW v.c)) := rfl
@[go_sem] theorem aV_3 (v : Vs) : (aV v)[3]? = some (.int .u32 (iW v.d)) := rfl
@[go_sem] theorem aV_4 (v : Vs) : (aV v)[4]? = some (.int .u32 (iW v.e)) := rfl
@[go_sem] theorem aV_5 (v : Vs) : (aV v)[5]? = some (.int .u32 (iW v.f)) := rfl
@[go_sem] theorem aV_6 (v : Vs) : (aV v)[6]? = some (.int .u32 (iW v.g)) := rfl
@[go_sem] theorem aV_7 (v : Vs) : (aV v)[7]? = some (.int .u32 (iW v.i)) := rfl
@[go_sem] theorem aU_0 (x : Cu) : (aU x)[0]? = some (.string x.text) := rfl
@[go_sem] theorem aU_1 (x : Cu) : (aU x)[1]? = some (.int .i64 x.at_) := rfl
@[go_sem] theorem aU_2 (x : Cu) : (aU x)[2]? = some (.int .i64 x.err) := rfl
@[go_sem] theorem aU_3 (x : Cu) : (aU x)[3]? = some (.int .i64 x.wh) := rfl
theorem aX_32' (x : It) : (cX x)[32]? = some (.string x.text) := by
  unfold cX
  rw [List.getElem?_append_right (by rw [cI_length]; omega), cI_length]
  rfl
@[go_sem] theorem aX_32 (x : It) : (aX x)[32]? = some (.string x.text) := by
  unfold aX
  rw [List.getElem?_toArray, aX_32']
theorem cX_id (x : It) : ((cX x).drop 0).take 32 = cI x.id := by
  unfold cX
  rw [List.drop_zero, List.take_append_of_le_length (by rw [cI_length]; omega), List.take_of_length_le (by rw [cI_length]; omega)]
theorem at_off {w : World} {g k n : Nat} {cs ds : List Value} {ty : TypeId} (hg : g = w.heap.size) (hd : (cs.drop k).take n = ds) : At (w.alloc (.cells cs.toArray ty)) ⟨g, k, none⟩ ds := by
  subst hg
  exact (Row.new w cs ty).at_ hd
@[go_sem] theorem okA_Xid (x : It) (ty : TypeId) (g : Nat) (hg : g = w.heap.size) : okA (w.alloc (.cells (aX x) ty)) ⟨g, 0, none⟩ 32 = true := by
  have h := (at_off (w := w) (ty := ty) hg (cX_id x)).ok
  rwa [cI_length] at h
@[go_sem] theorem rdA_Xid (x : It) (ty : TypeId) (g : Nat) (hg : g = w.heap.size) : rdA (w.alloc (.cells (aX x) ty)) ⟨g, 0, none⟩ 32 = vI x.id := by
  have h := (at_off (w := w) (ty := ty) hg (cX_id x)).rd
  rwa [cI_length] at h
end
attribute [go_sem] okA_drew rdA_drew okA_drewN rdA_drewN okA_alloc rdA_alloc rowOk_drew rowOk_drewN rowOk_alloc setRow_new setRow_alloc setRow_drew setRow_drewN
theorem info5 : ∃ i, Tryz.prog.info? 5 = some i ∧ i.size = 1 := by
  have h : (Tryz.prog.info? 5).map (·.size) = some 1 := by kernel_rfl
  cases hq : Tryz.prog.info? 5 with
  | none => rw [hq] at h; cases h
  | some i => exact ⟨i, rfl, by simpa [hq] using h⟩
section
variable (w : World)
@[go_sem] theorem eql37 (a b : Id) : (binOp .eql 37 (vI a) (vI b)).run Tryz.prog w = .ok (.bool (decide (a = b))) w := by
  obtain ⟨i, h1, h2⟩ := info5
  unfold vI cI
  rw [run_eql_bytes w 32 37 5 i a.1 b.1 Tryz.underlying37 Tryz.underlying5 h1 h2 a.2 b.2]
  simp [Subtype.ext_iff]
@[go_sem] theorem neq37 (a b : Id) : (binOp .neq 37 (vI a) (vI b)).run Tryz.prog w = .ok (.bool (!decide (a = b))) w := by
  obtain ⟨i, h1, h2⟩ := info5
  unfold vI cI
  rw [run_neq_bytes w 32 37 5 i a.1 b.1 Tryz.underlying37 Tryz.underlying5 h1 h2 a.2 b.2]
  simp [Subtype.ext_iff]
theorem guard37 : Tryz.prog.eqGuardType Tryz.prog.depth 37 = false := by kernel_rfl
@[go_sem] theorem eqGuard37 (op : BinOp) (x y : Operand) (a b : Id) : (eqGuard op 37 x y (vI a) (vI b)).run Tryz.prog w = .ok () w := run_eqGuard_agg w op 37 x y _ _ guard37
@[go_sem] theorem eql36 (a b : Id) : (binOp .eql 36 (vI a) (vI b)).run Tryz.prog w = .ok (.bool (decide (a = b))) w := by
  obtain ⟨i, h1, h2⟩ := info5
  unfold vI cI
  rw [run_eql_bytes w 32 36 5 i a.1 b.1 Tryz.underlying36 Tryz.underlying5 h1 h2 a.2 b.2]
  simp [Subtype.ext_iff]
@[go_sem] theorem neq36 (a b : Id) : (binOp .neq 36 (vI a) (vI b)).run Tryz.prog w = .ok (.bool (!decide (a = b))) w := by
  obtain ⟨i, h1, h2⟩ := info5
  unfold vI cI
  rw [run_neq_bytes w 32 36 5 i a.1 b.1 Tryz.underlying36 Tryz.underlying5 h1 h2 a.2 b.2]
  simp [Subtype.ext_iff]
theorem guard36 : Tryz.prog.eqGuardType Tryz.prog.depth 36 = false := by kernel_rfl
@[go_sem] theorem eqGuard36 (op : BinOp) (x y : Operand) (a b : Id) : (eqGuard op 36 x y (vI a) (vI b)).run Tryz.prog w = .ok () w := run_eqGuard_agg w op 36 x y _ _ guard36
@[go_sem] theorem eql35 (a b : Id) : (binOp .eql 35 (vI a) (vI b)).run Tryz.prog w = .ok (.bool (decide (a = b))) w := by
  obtain ⟨i, h1, h2⟩ := info5
  unfold vI cI
  rw [run_eql_bytes w 32 35 5 i a.1 b.1 Tryz.underlying35 Tryz.underlying5 h1 h2 a.2 b.2]
  simp [Subtype.ext_iff]
@[go_sem] theorem neq35 (a b : Id) : (binOp .neq 35 (vI a) (vI b)).run Tryz.prog w = .ok (.bool (!decide (a = b))) w := by
  obtain ⟨i, h1, h2⟩ := info5
  unfold vI cI
  rw [run_neq_bytes w 32 35 5 i a.1 b.1 Tryz.underlying35 Tryz.underlying5 h1 h2 a.2 b.2]
  simp [Subtype.ext_iff]
theorem guard35 : Tryz.prog.eqGuardType Tryz.prog.depth 35 = false := by kernel_rfl
@[go_sem] theorem eqGuard35 (op : BinOp) (x y : Operand) (a b : Id) : (eqGuard op 35 x y (vI a) (vI b)).run Tryz.prog w = .ok () w := run_eqGuard_agg w op 35 x y _ _ guard35
@[go_sem ↓] theorem bs22 (n : Nat) (parts : Array (Nat × Value)) : Instr.buildSlice 22 n parts = bsA 22 n parts := rfl
@[go_sem] theorem run_bs22_1 (x : It) : (bsA 22 1 #[(0, vX x)]).run Tryz.prog w = .ok (.slice (some ⟨w.heap.size, 0, none⟩) 1 1) (w.alloc (.cells (aX x) 64)) := by
  obtain ⟨i, z, h1, h2, h3⟩ := info_of (show (Tryz.prog.info? 64).map (fun i => (i.zero.map (·.cells.size), i.size, i.bytes)) = some (some 33, 33, 48) by kernel_rfl)
  have h := run_bsA (P := Tryz.prog) w vX 22 64 i z 33 Tryz.underlying22 h1 h2 h3 (fun x => by show (aX x).size = 33; simp [aX, cX_length]) [x] (by simp)
  have e : (([x] : List It).flatMap fun x => (vX x).cells.toList) = cX x := by simp [vX, Value.cells]
  rw [e] at h
  exact h
@[go_sem ↓] theorem bs26 (n : Nat) (parts : Array (Nat × Value)) : Instr.buildSlice 26 n parts = bsA 26 n parts := rfl
@[go_sem] theorem run_bs26_1 (x : It) : (bsA 26 1 #[(0, vX x)]).run Tryz.prog w = .ok (.slice (some ⟨w.heap.size, 0, none⟩) 1 1) (w.alloc (.cells (aX x) 39)) := by
  obtain ⟨i, z, h1, h2, h3⟩ := info_of (show (Tryz.prog.info? 39).map (fun i => (i.zero.map (·.cells.size), i.size, i.bytes)) = some (some 33, 33, 48) by kernel_rfl)
  have h := run_bsA (P := Tryz.prog) w vX 26 39 i z 33 Tryz.underlying26 h1 h2 h3 (fun x => by show (aX x).size = 33; simp [aX, cX_length]) [x] (by simp)
  have e : (([x] : List It).flatMap fun x => (vX x).cells.toList) = cX x := by simp [vX, Value.cells]
  rw [e] at h
  exact h
end
theorem okA_below {w w' : World} {ad : Addr} {n : Nat} (h : okA w ad n = true) (hlt : ad.block < w.heap.size) (hb : Below w.heap.size w w') : okA w' ad n = true ∧ rdA w' ad n = rdA w ad n := by
  have hc : ∀ j, w'.cell? (ad.add j) = w.cell? (ad.add j) := fun j => hb.cell (by rw [block_of_add]; exact hlt)
  have hp : okA w' ad n = okA w ad n := by
    unfold okA
    simp only [hc]
  refine ⟨hp.trans h, ?_⟩
  unfold rdA
  simp only [hc]
end Go.Proofs.YtecalodcbkljoaaGreatDoor
