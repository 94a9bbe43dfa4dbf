/- parse: the table of readers; the plain functions. -/
import Derived.Test.YtfbpipknhghneaaDoorRd
import Derived.Test.YtfbpipknhghneaaDoorEnc
namespace Go.Proofs.YtfbpipknhghneaaDoor
open Go.RowKit
/-- A field's reader, in memory. -/
def fnV (F g : Nat) : Value := .func (.func F) #[] #[.pointer (some ⟨g, 0, none⟩)]
def cR (g : Nat) (x : Int × Nat) : List Value := [.int .i64 x.1, fnV x.2 g]
def vR (g : Nat) (x : Int × Nat) : Value := .agg (cR g x).toArray
def aR (g : Nat) (x : Int × Nat) : Array Value := (cR g x).toArray
def aRz : Array Value := #[.int .i64 0, .nilFunc]
theorem cR_length (g : Nat) (x : Int × Nat) : (cR g x).length = 2 := rfl
theorem cR_one (g : Nat) (x : Int × Nat) : ∀ u ∈ cR g x, u.oneCell' = true := by
  intro u hu
  simp only [cR, List.mem_cons, List.not_mem_nil, or_false] at hu
  rcases hu with rfl | rfl <;> rfl
theorem size100 : (Tryd.prog.info? 100).map (·.size) = some 2 := by kernel_rfl
section
variable (w : World) (v : Value)
@[go_sem ↓] theorem load100 : Instr.loadAt 100 v = ldA 100 v := rfl
@[go_sem] theorem run_ld100 (ad : Addr) : (ldA 100 (.pointer (some ad))).run Tryd.prog w = if okA w ad 2 = true then .ok (rdA w ad 2) w else (ldB 100 (.pointer (some ad))).run Tryd.prog w := run_ldA_if w 100 ad 2 _ Tryd.underlying100 rfl size100
@[go_sem ↓] theorem blt100 (parts : Array (Nat × Value)) : Instr.build 100 parts = blA 100 parts := rfl
@[go_sem ↓] theorem alloc100 (h : Bool) : Instr.alloc 100 h v = alA 100 h v := rfl
@[go_sem ↓] theorem store100 (u : Value) : Instr.storeAt 100 v u = stA 100 v u := rfl
@[go_sem] theorem run_st100 (b g : Nat) (x : Int × Nat) : (stA 100 (.pointer (some ⟨b, 0, none⟩)) (vR g x)).run Tryd.prog w = if rowOk w b 2 = true then .ok () (w.setRow b (aR g x)) else (stB 100 (.pointer (some ⟨b, 0, none⟩)) (vR g x)).run Tryd.prog w := run_stA_if w 100 b _ 2 size100 rfl (by simpa using cR_one g x)
@[go_sem] theorem rowOk_n100 (ty : TypeId) (b : Nat) (hg : b = w.heap.size) : rowOk (w.alloc (.cells aRz ty)) b 2 = true := rowOk_new w _ ty b 2 hg rfl
@[go_sem] theorem run_al100 : (alA 100 true (.tuple #[])).run Tryd.prog w = .ok (.pointer (some ⟨w.heap.size, 0, none⟩)) (w.alloc (.cells aRz 100)) := by kernel_rfl
@[go_sem] theorem aR_0 (g : Nat) (x : Int × Nat) : (aR g x)[0]? = some (.int .i64 x.1) := rfl
@[go_sem] theorem aR_1 (g : Nat) (x : Int × Nat) : (aR g x)[1]? = some (fnV x.2 g) := rfl
@[go_sem] theorem blR (a : Int) (F g : Nat) : (blA 100 #[(0, .int .i64 a), (1, .func (.func F) #[] #[.pointer (some ⟨g, 0, none⟩)])]).run Tryd.prog w = .ok (vR g (a, F)) w := by kernel_rfl
def aRs (g : Nat) (xs : List (Int × Nat)) : Array Value := (xs.flatMap (cR g)).toArray
@[go_sem ↓] theorem bs105 (n : Nat) (parts : Array (Nat × Value)) : Instr.buildSlice 105 n parts = bsA 105 n parts := rfl
theorem run_bs105 (g : Nat) (xs : List (Int × Nat)) (h : xs.length ≤ 100) : (bsA 105 xs.length (xs.zipIdx.map fun x => (x.2, vR g x.1)).toArray).run Tryd.prog w = .ok (.slice (some ⟨w.heap.size, 0, none⟩) xs.length xs.length) (w.alloc (.cells (aRs g xs) 100)) := by
  obtain ⟨i, z, h1, h2, h3⟩ := info_of (show (Tryd.prog.info? 100).map (fun i => (i.zero.map (·.cells.size), i.size, i.bytes)) = some (some 2, 2, 16) by kernel_rfl)
  exact run_bsA w (vR g) 105 100 i z 2 Tryd.underlying105 h1 h2 h3 (fun _ => rfl) xs (by omega)
@[go_sem] theorem run_bsR_6 (k : Nat) (a b c d e f : Int × Nat) : (bsA 105 6 #[(0, vR k a), (1, vR k b), (2, vR k c), (3, vR k d), (4, vR k e), (5, vR k f)]).run Tryd.prog w = .ok (.slice (some ⟨w.heap.size, 0, none⟩) 6 6) (w.alloc (.cells (aRs k [a, b, c, d, e, f]) 100)) := run_bs105 w k [a, b, c, d, e, f] (by simp)
end
theorem row_rd {w : World} {b g : Nat} {xs : List (Int × Nat)} {t : TypeId} (h : Row w b (xs.flatMap (cR g)) t) {k : Nat} (hk : k < xs.length) : okA w ⟨b, k * 2, none⟩ 2 = true ∧ rdA w ⟨b, k * 2, none⟩ 2 = vR g xs[k] := by
  have hs : Sl w (cR g) (some ⟨b, 0, none⟩) xs := fun _ => ⟨_, rfl, h.at_ (k := 0) (n := (xs.flatMap (cR g)).length) (by rw [List.drop_zero, List.take_length])⟩
  obtain ⟨ad, had, hat⟩ := Sl.at_ (cR_length g) hs hk
  obtain rfl := Option.some.inj had
  have h1 := hat.ok
  have h2 := hat.rd
  rw [cR_length] at h1 h2
  have hao := add_off b 0 (k * 2)
  rw [Nat.zero_add] at hao
  rw [hao] at h1 h2
  exact ⟨h1, h2⟩
/-- The verb of a word: the last of the first k verbs with that word. -/
def vb (s : ByteArray) : Nat → Nat
  | 0 => 0
  | k + 1 => if bl ((formsL[k + 1]?.getD (⟨#[]⟩, 0, 0)).1) = bl s then k + 1 else vb s k
theorem vb_le (s : ByteArray) (k : Nat) : vb s k ≤ k := by
  induction k with
  | zero => exact Nat.le_refl _
  | succ k ih =>
    rw [vb]
    split
    · exact Nat.le_refl _
    · omega
abbrev PSt := Bool × List ByteArray × Cm
def stepP (fl a : Int) (st : PSt) : PSt :=
  if bits BinOp.and .i64 fl a == 0 then st
  else match st with
    | (true, x :: r, c) => ((readF a x c).2, r, (readF a x c).1)
    | (_, ws, c) => (false, ws.drop 1, c)
def flOf (v : Nat) : Int := (formsL[v]?.getD (⟨#[]⟩, 0, 0)).2.1
/-- The command of a line's words. -/
def parseW (ws : List ByteArray) : Cm × Bool :=
  if vb (ws.headD ⟨#[]⟩) 11 = 0 then (zC, false)
  else
    let st := rdL.foldl (fun st p => stepP (flOf (vb (ws.headD ⟨#[]⟩) 11)) p.1 st) ((true, ws.drop 1, { zC with verb := (vb (ws.headD ⟨#[]⟩) 11 : Nat) }) : PSt)
    if st.1 = true ∧ st.2.1 = [] then (st.2.2, true) else (zC, false)
def mkB (l : List UInt8) : ByteArray := ⟨l.toArray⟩
theorem mkB_bl (s : ByteArray) : mkB (bl s) = s := rfl
theorem bl_mkB (l : List UInt8) : bl (mkB l) = l := rfl
def parseL (l : List UInt8) : Cm × Bool := parseW ((splitGo 32 [] l).map mkB)
end Go.Proofs.YtfbpipknhghneaaDoor
