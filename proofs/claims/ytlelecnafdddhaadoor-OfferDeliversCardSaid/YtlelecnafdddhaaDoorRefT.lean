/- The types of the reference of offer: articles, outcomes, commands, senders, operations, as whole values. -/
import Derived.Test.YtlelecnafdddhaaDoorTr
namespace Go.Proofs.YtlelecnafdddhaaDoor
open Go.RowKit
/-- A slice as its address, its length, its room. -/
abbrev SlV := Option Addr × Nat × Nat
structure Rs where
  ch : Int
  st : Int
  at_ : Int
  cur : Art
  w : SlV
  o : SlV
structure Rc where
  verb : Int
  size : Int
  from_ : Int
  code : Int
  id : Id
  text : ByteArray
/-- An operation: its kind, an article, a command. -/
structure Rop where
  kind : UInt8
  a : Art
  c : Rc
def cR (r : Rs) : List Value := .int .i64 r.ch :: .int .i64 r.st :: .int .i64 r.at_ :: (cA r.cur ++ [.slice r.w.1 r.w.2.1 r.w.2.2, .slice r.o.1 r.o.2.1 r.o.2.2])
def cK (c : Rc) : List Value := .int .i64 c.verb :: .int .i64 c.size :: .int .i64 c.from_ :: .int .i64 c.code :: (cI c.id ++ [.string c.text])
def cQ (x : Rop) : List Value := .int .u8 x.kind.toNat :: (cA x.a ++ cK x.c)
def vR (r : Rs) : Value := .agg (cR r).toArray
def vK (c : Rc) : Value := .agg (cK c).toArray
def vQ (x : Rop) : Value := .agg (cQ x).toArray
def aR (r : Rs) : Array Value := (cR r).toArray
def aK (c : Rc) : Array Value := (cK c).toArray
def aQ (x : Rop) : Array Value := (cQ x).toArray
def aO (x : Out) : Array Value := (cO x).toArray
def zR : Rs := ⟨0, 0, 0, zA, (none, 0, 0), (none, 0, 0)⟩
def zK : Rc := ⟨0, 0, 0, 0, zI, ⟨#[]⟩⟩
def zO : Out := (zI, 0, 0)
theorem cR_length (r : Rs) : (cR r).length = 38 := by simp [cR, cA_length]
theorem cK_length (c : Rc) : (cK c).length = 37 := by simp [cK, cI_length]
theorem cQ_length (x : Rop) : (cQ x).length = 71 := by simp [cQ, cA_length, cK_length]
theorem cR_one (r : Rs) : ∀ u ∈ cR r, u.oneCell' = true := by
  intro u hu
  simp only [cR, List.mem_cons, List.mem_append, List.not_mem_nil, or_false] at hu
  rcases hu with rfl | rfl | rfl | h | rfl | rfl
  · rfl
  · rfl
  · rfl
  · exact cA_one _ u h
  all_goals rfl
theorem cK_one (c : Rc) : ∀ u ∈ cK c, u.oneCell' = true := by
  intro u hu
  simp only [cK, List.mem_cons, List.mem_append, List.not_mem_nil, or_false] at hu
  rcases hu with rfl | rfl | rfl | rfl | h | rfl
  · rfl
  · rfl
  · rfl
  · rfl
  · exact cI_one _ u h
  · rfl
theorem cQ_one (x : Rop) : ∀ u ∈ cQ x, u.oneCell' = true := by
  intro u hu
  simp only [cQ, List.mem_cons, List.mem_append] at hu
  rcases hu with rfl | h | h
  · rfl
  · exact cA_one _ u h
  · exact cK_one _ u h
section
variable (w : World) (v : Value)
theorem size28 : (Tryd.prog.info? 28).map (·.size) = some 33 := by kernel_rfl
@[go_sem ↓] theorem load28 : Instr.loadAt 28 v = ldA 28 v := rfl
@[go_sem] theorem run_ld28 (ad : Addr) : (ldA 28 (.pointer (some ad))).run Tryd.prog w = if okA w ad 33 = true then .ok (rdA w ad 33) w else (ldB 28 (.pointer (some ad))).run Tryd.prog w := run_ldA_if w 28 ad 33 _ Tryd.underlying28 rfl size28
@[go_sem ↓] theorem blt28 (parts : Array (Nat × Value)) : Instr.build 28 parts = blA 28 parts := rfl
@[go_sem ↓] theorem box28 : Instr.box 28 v = bxA 28 v := rfl
@[go_sem] theorem run_bx28 (a : Art) : (bxA 28 (vA a)).run Tryd.prog w = .ok (.pointer (some ⟨w.heap.size, 0, none⟩)) (w.alloc (.cells (aA a) 28)) := run_bxA w 28 _
@[go_sem ↓] theorem alloc28 (h : Bool) : Instr.alloc 28 h v = alA 28 h v := rfl
@[go_sem ↓] theorem store28 (u : Value) : Instr.storeAt 28 v u = stA 28 v u := rfl
@[go_sem] theorem run_st28 (g k : Nat) (a : Art) : (stA 28 (.pointer (some ⟨g, k, none⟩)) (vA a)).run Tryd.prog w = if k = 0 ∧ rowOk w g 33 = true then .ok () (w.setRow g (aA a)) else if stOk w g k 33 = true then .ok () (stD w g k (cA a)) else (stB 28 (.pointer (some ⟨g, k, none⟩)) (vA a)).run Tryd.prog w := by
  split
  · rename_i h
    obtain ⟨rfl, h⟩ := h
    have := run_stA_if w 28 g (aA a) 33 size28 (by simp [aA, cA_length]) (by simpa [aA] using cA_one a)
    rw [if_pos h] at this
    exact this
  · split
    · rename_i h
      exact run_stA_off w 28 g k (cA a) 33 h size28 (cA_length a) (cA_one a)
    · rfl
@[go_sem] theorem run_al28 : (alA 28 true (.tuple #[])).run Tryd.prog w = .ok (.pointer (some ⟨w.heap.size, 0, none⟩)) (w.alloc (.cells (aA zA) 28)) := by kernel_rfl
theorem size103 : (Tryd.prog.info? 103).map (·.size) = some 34 := by kernel_rfl
@[go_sem ↓] theorem load103 : Instr.loadAt 103 v = ldA 103 v := rfl
@[go_sem] theorem run_ld103 (ad : Addr) : (ldA 103 (.pointer (some ad))).run Tryd.prog w = if okA w ad 34 = true then .ok (rdA w ad 34) w else (ldB 103 (.pointer (some ad))).run Tryd.prog w := run_ldA_if w 103 ad 34 _ Tryd.underlying103 rfl size103
@[go_sem ↓] theorem blt103 (parts : Array (Nat × Value)) : Instr.build 103 parts = blA 103 parts := rfl
@[go_sem ↓] theorem box103 : Instr.box 103 v = bxA 103 v := rfl
@[go_sem] theorem run_bx103 (x : Out) : (bxA 103 (vO x)).run Tryd.prog w = .ok (.pointer (some ⟨w.heap.size, 0, none⟩)) (w.alloc (.cells (aO x) 103)) := run_bxA w 103 _
@[go_sem ↓] theorem alloc103 (h : Bool) : Instr.alloc 103 h v = alA 103 h v := rfl
@[go_sem ↓] theorem store103 (u : Value) : Instr.storeAt 103 v u = stA 103 v u := rfl
@[go_sem] theorem run_st103 (g : Nat) (x : Out) : (stA 103 (.pointer (some ⟨g, 0, none⟩)) (vO x)).run Tryd.prog w = if rowOk w g 34 = true then .ok () (w.setRow g (aO x)) else (stB 103 (.pointer (some ⟨g, 0, none⟩)) (vO x)).run Tryd.prog w := run_stA_if w 103 g _ 34 size103 (by simp [cO_length]) (by simpa using cO_one x)
@[go_sem] theorem rowOk_n103 (x : Out) (ty : TypeId) (g : Nat) (hg : g = w.heap.size) : rowOk (w.alloc (.cells (aO x) ty)) g 34 = true := rowOk_new w _ ty g 34 hg (by simp [aO, cO_length])
@[go_sem] theorem okA_n103 (x : Out) (ty : TypeId) (g : Nat) (hg : g = w.heap.size) : okA (w.alloc (.cells (aO x) ty)) ⟨g, 0, none⟩ 34 = true := okA_new w _ ty g 34 hg (cO_length x)
@[go_sem] theorem rdA_n103 (x : Out) (ty : TypeId) (g : Nat) (hg : g = w.heap.size) : rdA (w.alloc (.cells (aO x) ty)) ⟨g, 0, none⟩ 34 = vO x := rdA_new w _ ty g 34 hg (cO_length x)
@[go_sem] theorem run_al103 : (alA 103 true (.tuple #[])).run Tryd.prog w = .ok (.pointer (some ⟨w.heap.size, 0, none⟩)) (w.alloc (.cells (aO zO) 103)) := by kernel_rfl
theorem size32 : (Tryd.prog.info? 32).map (·.size) = some 38 := by kernel_rfl
@[go_sem ↓] theorem load32 : Instr.loadAt 32 v = ldA 32 v := rfl
@[go_sem] theorem run_ld32 (ad : Addr) : (ldA 32 (.pointer (some ad))).run Tryd.prog w = if okA w ad 38 = true then .ok (rdA w ad 38) w else (ldB 32 (.pointer (some ad))).run Tryd.prog w := run_ldA_if w 32 ad 38 _ Tryd.underlying32 rfl size32
@[go_sem ↓] theorem blt32 (parts : Array (Nat × Value)) : Instr.build 32 parts = blA 32 parts := rfl
@[go_sem ↓] theorem box32 : Instr.box 32 v = bxA 32 v := rfl
@[go_sem] theorem run_bx32 (r : Rs) : (bxA 32 (vR r)).run Tryd.prog w = .ok (.pointer (some ⟨w.heap.size, 0, none⟩)) (w.alloc (.cells (aR r) 32)) := run_bxA w 32 _
@[go_sem ↓] theorem alloc32 (h : Bool) : Instr.alloc 32 h v = alA 32 h v := rfl
@[go_sem ↓] theorem store32 (u : Value) : Instr.storeAt 32 v u = stA 32 v u := rfl
@[go_sem] theorem run_st32 (g : Nat) (r : Rs) : (stA 32 (.pointer (some ⟨g, 0, none⟩)) (vR r)).run Tryd.prog w = if rowOk w g 38 = true then .ok () (w.setRow g (aR r)) else (stB 32 (.pointer (some ⟨g, 0, none⟩)) (vR r)).run Tryd.prog w := run_stA_if w 32 g _ 38 size32 (by simp [cR_length]) (by simpa using cR_one r)
@[go_sem] theorem rowOk_n32 (r : Rs) (ty : TypeId) (g : Nat) (hg : g = w.heap.size) : rowOk (w.alloc (.cells (aR r) ty)) g 38 = true := rowOk_new w _ ty g 38 hg (by simp [aR, cR_length])
@[go_sem] theorem okA_n32 (r : Rs) (ty : TypeId) (g : Nat) (hg : g = w.heap.size) : okA (w.alloc (.cells (aR r) ty)) ⟨g, 0, none⟩ 38 = true := okA_new w _ ty g 38 hg (cR_length r)
@[go_sem] theorem rdA_n32 (r : Rs) (ty : TypeId) (g : Nat) (hg : g = w.heap.size) : rdA (w.alloc (.cells (aR r) ty)) ⟨g, 0, none⟩ 38 = vR r := rdA_new w _ ty g 38 hg (cR_length r)
@[go_sem] theorem run_al32 : (alA 32 true (.tuple #[])).run Tryd.prog w = .ok (.pointer (some ⟨w.heap.size, 0, none⟩)) (w.alloc (.cells (aR zR) 32)) := by kernel_rfl
theorem size55 : (Tryd.prog.info? 55).map (·.size) = some 37 := by kernel_rfl
@[go_sem ↓] theorem load55 : Instr.loadAt 55 v = ldA 55 v := rfl
@[go_sem] theorem run_ld55 (ad : Addr) : (ldA 55 (.pointer (some ad))).run Tryd.prog w = if okA w ad 37 = true then .ok (rdA w ad 37) w else (ldB 55 (.pointer (some ad))).run Tryd.prog w := run_ldA_if w 55 ad 37 _ Tryd.underlying55 rfl size55
@[go_sem ↓] theorem blt55 (parts : Array (Nat × Value)) : Instr.build 55 parts = blA 55 parts := rfl
@[go_sem ↓] theorem box55 : Instr.box 55 v = bxA 55 v := rfl
@[go_sem] theorem run_bx55 (c : Rc) : (bxA 55 (vK c)).run Tryd.prog w = .ok (.pointer (some ⟨w.heap.size, 0, none⟩)) (w.alloc (.cells (aK c) 55)) := run_bxA w 55 _
@[go_sem ↓] theorem alloc55 (h : Bool) : Instr.alloc 55 h v = alA 55 h v := rfl
@[go_sem ↓] theorem store55 (u : Value) : Instr.storeAt 55 v u = stA 55 v u := rfl
@[go_sem] theorem run_st55 (g : Nat) (c : Rc) : (stA 55 (.pointer (some ⟨g, 0, none⟩)) (vK c)).run Tryd.prog w = if rowOk w g 37 = true then .ok () (w.setRow g (aK c)) else (stB 55 (.pointer (some ⟨g, 0, none⟩)) (vK c)).run Tryd.prog w := run_stA_if w 55 g _ 37 size55 (by simp [cK_length]) (by simpa using cK_one c)
@[go_sem] theorem rowOk_n55 (c : Rc) (ty : TypeId) (g : Nat) (hg : g = w.heap.size) : rowOk (w.alloc (.cells (aK c) ty)) g 37 = true := rowOk_new w _ ty g 37 hg (by simp [aK, cK_length])
@[go_sem] theorem okA_n55 (c : Rc) (ty : TypeId) (g : Nat) (hg : g = w.heap.size) : okA (w.alloc (.cells (aK c) ty)) ⟨g, 0, none⟩ 37 = true := okA_new w _ ty g 37 hg (cK_length c)
@[go_sem] theorem rdA_n55 (c : Rc) (ty : TypeId) (g : Nat) (hg : g = w.heap.size) : rdA (w.alloc (.cells (aK c) ty)) ⟨g, 0, none⟩ 37 = vK c := rdA_new w _ ty g 37 hg (cK_length c)
@[go_sem] theorem run_al55 : (alA 55 true (.tuple #[])).run Tryd.prog w = .ok (.pointer (some ⟨w.heap.size, 0, none⟩)) (w.alloc (.cells (aK zK) 55)) := by kernel_rfl
theorem size57 : (Tryd.prog.info? 57).map (·.size) = some 71 := by kernel_rfl
@[go_sem ↓] theorem load57 : Instr.loadAt 57 v = ldA 57 v := rfl
@[go_sem] theorem run_ld57 (ad : Addr) : (ldA 57 (.pointer (some ad))).run Tryd.prog w = if okA w ad 71 = true then .ok (rdA w ad 71) w else (ldB 57 (.pointer (some ad))).run Tryd.prog w := run_ldA_if w 57 ad 71 _ Tryd.underlying57 rfl size57
@[go_sem ↓] theorem box57 : Instr.box 57 v = bxA 57 v := rfl
@[go_sem] theorem run_bx57 (x : Rop) : (bxA 57 (vQ x)).run Tryd.prog w = .ok (.pointer (some ⟨w.heap.size, 0, none⟩)) (w.alloc (.cells (aQ x) 57)) := run_bxA w 57 _
@[go_sem ↓] theorem alloc57 (h : Bool) : Instr.alloc 57 h v = alA 57 h v := rfl
@[go_sem ↓] theorem store57 (u : Value) : Instr.storeAt 57 v u = stA 57 v u := rfl
@[go_sem] theorem run_st57 (g : Nat) (x : Rop) : (stA 57 (.pointer (some ⟨g, 0, none⟩)) (vQ x)).run Tryd.prog w = if rowOk w g 71 = true then .ok () (w.setRow g (aQ x)) else (stB 57 (.pointer (some ⟨g, 0, none⟩)) (vQ x)).run Tryd.prog w := run_stA_if w 57 g _ 71 size57 (by simp [cQ_length]) (by simpa using cQ_one x)
@[go_sem] theorem rowOk_n57 (x : Rop) (ty : TypeId) (g : Nat) (hg : g = w.heap.size) : rowOk (w.alloc (.cells (aQ x) ty)) g 71 = true := rowOk_new w _ ty g 71 hg (by simp [aQ, cQ_length])
@[go_sem] theorem okA_n57 (x : Rop) (ty : TypeId) (g : Nat) (hg : g = w.heap.size) : okA (w.alloc (.cells (aQ x) ty)) ⟨g, 0, none⟩ 71 = true := okA_new w _ ty g 71 hg (cQ_length x)
@[go_sem] theorem rdA_n57 (x : Rop) (ty : TypeId) (g : Nat) (hg : g = w.heap.size) : rdA (w.alloc (.cells (aQ x) ty)) ⟨g, 0, none⟩ 71 = vQ x := rdA_new w _ ty g 71 hg (cQ_length x)
@[go_sem ↓] theorem box22 : Instr.box 22 v = bxA 22 v := rfl
@[go_sem] theorem run_bx22 (x : Id) : (bxA 22 (vI x)).run Tryd.prog w = .ok (.pointer (some ⟨w.heap.size, 0, none⟩)) (w.alloc (.cells (aI x) 22)) := run_bxA w 22 _
@[go_sem] theorem bl28_0  : (blA 28 #[]).run Tryd.prog w = .ok (vA zA) w := by kernel_rfl
@[go_sem] theorem bl28_2 (s : ByteArray) (x : Id) : (blA 28 #[(0, vI x), (1, .string s)]).run Tryd.prog w = .ok (vA (x, s)) w := by
  revert x
  refine Id.cases fun a0 a1 a2 a3 a4 a5 a6 a7 a8 a9 a10 a11 a12 a13 a14 a15 a16 a17 a18 a19 a20 a21 a22 a23 a24 a25 a26 a27 a28 a29 a30 a31 => ?_
  kernel_rfl
@[go_sem] theorem bl103_1  (x : Id) : (blA 103 #[(0, vI x)]).run Tryd.prog w = .ok (vO (x, 0, 0)) w := by
  revert x
  refine Id.cases fun a0 a1 a2 a3 a4 a5 a6 a7 a8 a9 a10 a11 a12 a13 a14 a15 a16 a17 a18 a19 a20 a21 a22 a23 a24 a25 a26 a27 a28 a29 a30 a31 => ?_
  kernel_rfl
@[go_sem] theorem bl103_3 (n m : Int) (x : Id) : (blA 103 #[(0, vI x), (1, .int .i64 n), (2, .int .i64 m)]).run Tryd.prog w = .ok (vO (x, n, m)) w := by
  revert x
  refine Id.cases fun a0 a1 a2 a3 a4 a5 a6 a7 a8 a9 a10 a11 a12 a13 a14 a15 a16 a17 a18 a19 a20 a21 a22 a23 a24 a25 a26 a27 a28 a29 a30 a31 => ?_
  kernel_rfl
@[go_sem] theorem bl32_0  : (blA 32 #[]).run Tryd.prog w = .ok (vR zR) w := by kernel_rfl
@[go_sem] theorem bl32_1 (n : Int) : (blA 32 #[(0, .int .i64 n)]).run Tryd.prog w = .ok (vR { zR with ch := n }) w := by kernel_rfl
@[go_sem] theorem bl55_0  : (blA 55 #[]).run Tryd.prog w = .ok (vK zK) w := by kernel_rfl
@[go_sem] theorem bl55_2 (n : Int) (x : Id) : (blA 55 #[(0, .int .i64 n), (4, vI x)]).run Tryd.prog w = .ok (vK ⟨n, 0, 0, 0, x, ⟨#[]⟩⟩) w := by
  revert x
  refine Id.cases fun a0 a1 a2 a3 a4 a5 a6 a7 a8 a9 a10 a11 a12 a13 a14 a15 a16 a17 a18 a19 a20 a21 a22 a23 a24 a25 a26 a27 a28 a29 a30 a31 => ?_
  kernel_rfl
@[go_sem] theorem bl55_3 (n m : Int) (x : Id) : (blA 55 #[(0, .int .i64 n), (4, vI x), (1, .int .i64 m)]).run Tryd.prog w = .ok (vK ⟨n, m, 0, 0, x, ⟨#[]⟩⟩) w := by
  revert x
  refine Id.cases fun a0 a1 a2 a3 a4 a5 a6 a7 a8 a9 a10 a11 a12 a13 a14 a15 a16 a17 a18 a19 a20 a21 a22 a23 a24 a25 a26 a27 a28 a29 a30 a31 => ?_
  kernel_rfl
@[go_sem] theorem bl55_4 (n m : Int) (s : ByteArray) (x : Id) : (blA 55 #[(0, .int .i64 n), (4, vI x), (2, .int .i64 m), (5, .string s)]).run Tryd.prog w = .ok (vK ⟨n, 0, m, 0, x, s⟩) w := by
  revert x
  refine Id.cases fun a0 a1 a2 a3 a4 a5 a6 a7 a8 a9 a10 a11 a12 a13 a14 a15 a16 a17 a18 a19 a20 a21 a22 a23 a24 a25 a26 a27 a28 a29 a30 a31 => ?_
  kernel_rfl
@[go_sem] theorem bl55_6 (n m k j : Int) (s : ByteArray) (x : Id) : (blA 55 #[(0, .int .i64 n), (4, vI x), (1, .int .i64 m), (2, .int .i64 k), (3, .int .i64 j), (5, .string s)]).run Tryd.prog w = .ok (vK ⟨n, m, k, j, x, s⟩) w := by
  revert x
  refine Id.cases fun a0 a1 a2 a3 a4 a5 a6 a7 a8 a9 a10 a11 a12 a13 a14 a15 a16 a17 a18 a19 a20 a21 a22 a23 a24 a25 a26 a27 a28 a29 a30 a31 => ?_
  kernel_rfl
@[go_sem] theorem bl45_6 (n m k j : Int) (s : ByteArray) (x : Id) : (blA 45 #[(0, .int .i64 n), (2, vI x), (3, .int .i64 m), (4, .int .i64 k), (6, .int .i64 j), (7, .string s)]).run Tryd.prog w = .ok (vC ⟨n, ⟨#[]⟩, x, m, k, 0, j, s⟩) w := by
  revert x
  refine Id.cases fun a0 a1 a2 a3 a4 a5 a6 a7 a8 a9 a10 a11 a12 a13 a14 a15 a16 a17 a18 a19 a20 a21 a22 a23 a24 a25 a26 a27 a28 a29 a30 a31 => ?_
  kernel_rfl
@[go_sem ↓] theorem bs29 (n : Nat) (parts : Array (Nat × Value)) : Instr.buildSlice 29 n parts = bsA 29 n parts := rfl
@[go_sem ↓] theorem bs30 (n : Nat) (parts : Array (Nat × Value)) : Instr.buildSlice 30 n parts = bsA 30 n parts := rfl
theorem run_bs29 (xs : List Art) (h : xs.length ≤ 100) : (bsA 29 xs.length (xs.zipIdx.map fun x => (x.2, vA x.1)).toArray).run Tryd.prog w = .ok (.slice (some ⟨w.heap.size, 0, none⟩) xs.length xs.length) (w.alloc (.cells (aAs xs) 28)) := by
  obtain ⟨i, z, h1, h2, h3⟩ := info_of (show (Tryd.prog.info? 28).map (fun i => (i.zero.map (·.cells.size), i.size, i.bytes)) = some (some 33, 33, 48) by kernel_rfl)
  exact run_bsA w vA 29 28 i z 33 Tryd.underlying29 h1 h2 h3 vA_cells xs (by omega)
theorem run_bs30 (xs : List Out) (h : xs.length ≤ 100) : (bsA 30 xs.length (xs.zipIdx.map fun x => (x.2, vO x.1)).toArray).run Tryd.prog w = .ok (.slice (some ⟨w.heap.size, 0, none⟩) xs.length xs.length) (w.alloc (.cells (aOs xs) 103)) := by
  obtain ⟨i, z, h1, h2, h3⟩ := info_of (show (Tryd.prog.info? 103).map (fun i => (i.zero.map (·.cells.size), i.size, i.bytes)) = some (some 34, 34, 48) by kernel_rfl)
  exact run_bsA w vO 30 103 i z 34 Tryd.underlying30 h1 h2 h3 vO_cells xs (by omega)
@[go_sem] theorem run_bs29_0 : (bsA 29 0 #[]).run Tryd.prog w = .ok (.slice (some ⟨w.heap.size, 0, none⟩) 0 0) (w.alloc (.cells (aAs []) 28)) := run_bs29 w [] (by simp)
@[go_sem] theorem run_bs29_1 (a : Art) : (bsA 29 1 #[(0, vA a)]).run Tryd.prog w = .ok (.slice (some ⟨w.heap.size, 0, none⟩) 1 1) (w.alloc (.cells (aAs [a]) 28)) := run_bs29 w [a] (by simp)
@[go_sem] theorem run_bs30_0 : (bsA 30 0 #[]).run Tryd.prog w = .ok (.slice (some ⟨w.heap.size, 0, none⟩) 0 0) (w.alloc (.cells (aOs []) 103)) := run_bs30 w [] (by simp)
@[go_sem] theorem run_bs30_1 (x : Out) : (bsA 30 1 #[(0, vO x)]).run Tryd.prog w = .ok (.slice (some ⟨w.heap.size, 0, none⟩) 1 1) (w.alloc (.cells (aOs [x]) 103)) := run_bs30 w [x] (by simp)
end
/-! ### the fields -/
theorem cR_hi (r : Rs) (k : Nat) : (cR r)[35 + k]? = [Value.string r.cur.2, .slice r.w.1 r.w.2.1 r.w.2.2, .slice r.o.1 r.o.2.1 r.o.2.2][k]? := by
  unfold cR cA
  rw [show 35 + k = (32 + k) + 1 + 1 + 1 by omega, List.getElem?_cons_succ, List.getElem?_cons_succ, List.getElem?_cons_succ, List.append_assoc, List.getElem?_append_right (by rw [cI_length]; omega), cI_length, show 32 + k - 32 = k by omega]
  rfl
theorem cK_hi (c : Rc) (k : Nat) : (cK c)[36 + k]? = [Value.string c.text][k]? := by
  unfold cK
  rw [show 36 + k = (32 + k) + 1 + 1 + 1 + 1 by omega, List.getElem?_cons_succ, List.getElem?_cons_succ, List.getElem?_cons_succ, List.getElem?_cons_succ, List.getElem?_append_right (by rw [cI_length]; omega), cI_length, show 32 + k - 32 = k by omega]
theorem cR_cur (r : Rs) : ((cR r).drop 3).take 33 = cA r.cur := by
  unfold cR
  rw [List.drop_succ_cons, List.drop_succ_cons, List.drop_succ_cons, List.drop_zero, List.take_append_of_le_length (by rw [cA_length]; omega), List.take_of_length_le (by rw [cA_length]; omega)]
theorem cR_id (r : Rs) : ((cR r).drop 3).take 32 = cI r.cur.1 := by
  have h := congrArg (List.take 32) (cR_cur r)
  rw [List.take_take, show min 32 33 = 32 from rfl] at h
  rw [h]
  exact cA_id r.cur
theorem cK_id (c : Rc) : ((cK c).drop 4).take 32 = cI c.id := by
  unfold cK
  rw [List.drop_succ_cons, List.drop_succ_cons, List.drop_succ_cons, List.drop_succ_cons, List.drop_zero, List.take_append_of_le_length (by rw [cI_length]; omega), List.take_of_length_le (by rw [cI_length]; omega)]
section
variable {w : World} {g : Nat} {ty : TypeId}
theorem Row.okw {b n : Nat} {cs : List Value} {t : TypeId} (h : Row w b cs t) (hn : cs.length = n) : okA w ⟨b, 0, none⟩ n = true ∧ rdA w ⟨b, 0, none⟩ n = .agg cs.toArray := by
  have := h.at_ (k := 0) (n := n) (ds := cs) (by rw [List.drop_zero, List.take_of_length_le (by omega)])
  have h1 := this.ok
  have h2 := this.rd
  rw [hn] at h1 h2
  exact ⟨h1, h2⟩
/-- A sender of the reference in memory, as the walk asks for it. -/
theorem row_R {r : Rs} (h : Row w g (cR r) ty) : w.cell? ⟨g, 0, none⟩ = some (.int .i64 r.ch) ∧ w.cell? ⟨g, 1, none⟩ = some (.int .i64 r.st) ∧ w.cell? ⟨g, 2, none⟩ = some (.int .i64 r.at_) ∧
    (okA w ⟨g, 3, none⟩ 32 = true ∧ rdA w ⟨g, 3, none⟩ 32 = vI r.cur.1) ∧ (okA w ⟨g, 3, none⟩ 33 = true ∧ rdA w ⟨g, 3, none⟩ 33 = vA r.cur) ∧ w.cell? ⟨g, 35, none⟩ = some (.string r.cur.2) ∧
    w.cell? ⟨g, 36, none⟩ = some (.slice r.w.1 r.w.2.1 r.w.2.2) ∧ w.cell? ⟨g, 37, none⟩ = some (.slice r.o.1 r.o.2.1 r.o.2.2) ∧ (okA w ⟨g, 0, none⟩ 38 = true ∧ rdA w ⟨g, 0, none⟩ 38 = vR r) ∧ g < w.heap.size := by
  have h1 := h.at_ (cR_id r)
  have h2 := h.at_ (cR_cur r)
  have a1 := h1.ok
  have a2 := h1.rd
  have b1 := h2.ok
  have b2 := h2.rd
  rw [cI_length] at a1 a2
  rw [cA_length] at b1 b2
  exact ⟨h.cell 0, h.cell 1, h.cell 2, ⟨a1, a2⟩, ⟨b1, b2⟩, (h.cell 35).trans (cR_hi r 0), (h.cell 36).trans (cR_hi r 1), (h.cell 37).trans (cR_hi r 2), h.okw (cR_length r), h.lt⟩
theorem row_K {c : Rc} (h : Row w g (cK c) ty) : w.cell? ⟨g, 0, none⟩ = some (.int .i64 c.verb) ∧ w.cell? ⟨g, 1, none⟩ = some (.int .i64 c.size) ∧ w.cell? ⟨g, 2, none⟩ = some (.int .i64 c.from_) ∧ w.cell? ⟨g, 3, none⟩ = some (.int .i64 c.code) ∧
    (okA w ⟨g, 4, none⟩ 32 = true ∧ rdA w ⟨g, 4, none⟩ 32 = vI c.id) ∧ w.cell? ⟨g, 36, none⟩ = some (.string c.text) ∧ (okA w ⟨g, 0, none⟩ 37 = true ∧ rdA w ⟨g, 0, none⟩ 37 = vK c) ∧ g < w.heap.size := by
  have h1 := h.at_ (cK_id c)
  have a1 := h1.ok
  have a2 := h1.rd
  rw [cI_length] at a1 a2
  exact ⟨h.cell 0, h.cell 1, h.cell 2, h.cell 3, ⟨a1, a2⟩, (h.cell 36).trans (cK_hi c 0), h.okw (cK_length c), h.lt⟩
theorem row_A {a : Art} (h : Row w g (cA a) ty) : (okA w ⟨g, 0, none⟩ 32 = true ∧ rdA w ⟨g, 0, none⟩ 32 = vI a.1) ∧ w.cell? ⟨g, 32, none⟩ = some (.string a.2) ∧ (okA w ⟨g, 0, none⟩ 33 = true ∧ rdA w ⟨g, 0, none⟩ 33 = vA a) ∧ g < w.heap.size := by
  have h1 := h.at_ (cA_id a)
  have a1 := h1.ok
  have a2 := h1.rd
  rw [cI_length] at a1 a2
  refine ⟨⟨a1, a2⟩, (h.cell 32).trans ?_, h.okw (cA_length a), h.lt⟩
  unfold cA
  rw [List.getElem?_append_right (by rw [cI_length]; omega), cI_length]
  rfl
end
end Go.Proofs.YtlelecnafdddhaaDoor
