/- The words of the base file at this translation: the types of identities (33: api.Id, 38: bulletinref14.I), loaded, laid into variables, built and compared as whole values. -/
import Derived.Test.YtcchpenaiomeeaaBase
import Derived.Test.YtcchpenaiomeeaaRows
namespace Go.Proofs.Ytcchpenaiomeeaa
open Go.RowKit

theorem under33 : Try.prog.underlying 33 = some (.array 32 5) := Try.underlying33
theorem under38 : Try.prog.underlying 38 = some (.array 32 5) := Try.underlying38
theorem size33 : (Try.prog.info? 33).map (·.size) = some 32 := by kernel_rfl
theorem size38 : (Try.prog.info? 38).map (·.size) = some 32 := by kernel_rfl
theorem info5 : ∃ i, Try.prog.info? 5 = some i ∧ i.size = 1 := by
  have h : (Try.prog.info? 5).map (·.size) = some 1 := by kernel_rfl
  cases hq : Try.prog.info? 5 with
  | none => rw [hq] at h; cases h
  | some i => exact ⟨i, rfl, by simpa [hq] using h⟩

section
variable (w : World) (v : Value)
@[go_sem ↓] theorem load33 : Instr.loadAt 33 v = ldA 33 v := rfl
@[go_sem ↓] theorem load38 : Instr.loadAt 38 v = ldA 38 v := rfl
@[go_sem ↓] theorem box33 : Instr.box 33 v = bxA 33 v := rfl
@[go_sem ↓] theorem box38 : Instr.box 38 v = bxA 38 v := rfl
@[go_sem] theorem run_ld33 (ad : Addr) : (ldA 33 (.pointer (some ad))).run Try.prog w = if okA w ad 32 = true then .ok (rdA w ad 32) w else (ldB 33 (.pointer (some ad))).run Try.prog w := run_ldA_if w 33 ad 32 _ under33 rfl size33
@[go_sem] theorem run_ld38 (ad : Addr) : (ldA 38 (.pointer (some ad))).run Try.prog w = if okA w ad 32 = true then .ok (rdA w ad 32) w else (ldB 38 (.pointer (some ad))).run Try.prog w := run_ldA_if w 38 ad 32 _ under38 rfl size38
theorem run_bx33 (x : Id) : (bxA 33 (vI x)).run Try.prog w = .ok (.pointer (some ⟨w.heap.size, 0, none⟩)) (w.alloc (.cells (cI x).toArray 33)) := run_bxA w 33 _
theorem run_bx38 (x : Id) : (bxA 38 (vI x)).run Try.prog w = .ok (.pointer (some ⟨w.heap.size, 0, none⟩)) (w.alloc (.cells (cI x).toArray 38)) := run_bxA w 38 _
attribute [go_sem] okA_drew rdA_drew okA_drewN rdA_drewN okA_alloc rdA_alloc
theorem okA_newI (x : Id) (t : TypeId) (k : Nat) (hk : k = w.heap.size) : okA (w.alloc (.cells (cI x).toArray t)) ⟨k, 0, none⟩ 32 = true := okA_new w _ t k 32 hk (cI_length x)
theorem rdA_newI (x : Id) (t : TypeId) (k : Nat) (hk : k = w.heap.size) : rdA (w.alloc (.cells (cI x).toArray t)) ⟨k, 0, none⟩ 32 = vI x := rdA_new w _ t k 32 hk (cI_length x)
@[go_sem] theorem eql33 (a b : Id) : (binOp .eql 33 (vI a) (vI b)).run Try.prog w = .ok (.bool (decide (a = b))) w := by
  obtain ⟨i, h1, h2⟩ := info5
  unfold vI cI
  rw [run_eql_bytes w 32 33 5 i a.1 b.1 under33 Try.underlying5 h1 h2 a.2 b.2]
  simp [Subtype.ext_iff]
@[go_sem] theorem neq33 (a b : Id) : (binOp .neq 33 (vI a) (vI b)).run Try.prog w = .ok (.bool (!decide (a = b))) w := by
  obtain ⟨i, h1, h2⟩ := info5
  unfold vI cI
  rw [run_neq_bytes w 32 33 5 i a.1 b.1 under33 Try.underlying5 h1 h2 a.2 b.2]
  simp [Subtype.ext_iff]
@[go_sem] theorem eql38 (a b : Id) : (binOp .eql 38 (vI a) (vI b)).run Try.prog w = .ok (.bool (decide (a = b))) w := by
  obtain ⟨i, h1, h2⟩ := info5
  unfold vI cI
  rw [run_eql_bytes w 32 38 5 i a.1 b.1 under38 Try.underlying5 h1 h2 a.2 b.2]
  simp [Subtype.ext_iff]
@[go_sem] theorem neq38 (a b : Id) : (binOp .neq 38 (vI a) (vI b)).run Try.prog w = .ok (.bool (!decide (a = b))) w := by
  obtain ⟨i, h1, h2⟩ := info5
  unfold vI cI
  rw [run_neq_bytes w 32 38 5 i a.1 b.1 under38 Try.underlying5 h1 h2 a.2 b.2]
  simp [Subtype.ext_iff]
theorem guard33 : Try.prog.eqGuardType Try.prog.depth 33 = false := by kernel_rfl
theorem guard38 : Try.prog.eqGuardType Try.prog.depth 38 = false := by kernel_rfl
@[go_sem] theorem eqGuard33 (op : BinOp) (x y : Operand) (a b : Id) : (eqGuard op 33 x y (vI a) (vI b)).run Try.prog w = .ok () w := run_eqGuard_agg w op 33 x y _ _ guard33
@[go_sem] theorem eqGuard38 (op : BinOp) (x y : Operand) (a b : Id) : (eqGuard op 38 x y (vI a) (vI b)).run Try.prog w = .ok () w := run_eqGuard_agg w op 38 x y _ _ guard38
/-- The zero identity. -/
def zI : Id := ⟨List.replicate 32 0, by simp⟩
theorem zI_cells : vI zI = .agg #[.int .u8 0, .int .u8 0, .int .u8 0, .int .u8 0, .int .u8 0, .int .u8 0, .int .u8 0, .int .u8 0, .int .u8 0, .int .u8 0, .int .u8 0, .int .u8 0, .int .u8 0, .int .u8 0, .int .u8 0, .int .u8 0, .int .u8 0, .int .u8 0, .int .u8 0, .int .u8 0, .int .u8 0, .int .u8 0, .int .u8 0, .int .u8 0, .int .u8 0, .int .u8 0, .int .u8 0, .int .u8 0, .int .u8 0, .int .u8 0, .int .u8 0, .int .u8 0] := rfl
@[go_sem ↓] theorem blA33 (parts : Array (Nat × Value)) : Instr.build 33 parts = blA 33 parts := rfl
@[go_sem ↓] theorem blA38 (parts : Array (Nat × Value)) : Instr.build 38 parts = blA 38 parts := rfl
@[go_sem] theorem build33 : (blA 33 #[]).run Try.prog w = .ok (vI zI) w := by kernel_rfl
@[go_sem] theorem build38 : (blA 38 #[]).run Try.prog w = .ok (vI zI) w := by kernel_rfl
end

theorem under24 : Try.prog.underlying 24 = some (.slice 33) := Try.underlying24
theorem under22 : Try.prog.underlying 22 = some (.slice 38) := Try.underlying22
theorem row33 : (Try.prog.info? 33).map (fun i => (i.zero.map (·.cells.size), i.size, i.bytes)) = some (some 32, 32, 32) := by kernel_rfl
theorem row38 : (Try.prog.info? 38).map (fun i => (i.zero.map (·.cells.size), i.size, i.bytes)) = some (some 32, 32, 32) := by kernel_rfl
theorem info_of {P : Program} {e : TypeId} {c s b : Nat} (h : (P.info? e).map (fun i => (i.zero.map (·.cells.size), i.size, i.bytes)) = some (some c, s, b)) : ∃ i z, P.info? e = some i ∧ i.zero = some z ∧ i.size = s := by
  cases hq : P.info? e with
  | none => rw [hq] at h; cases h
  | some i =>
    cases hz : i.zero with
    | none => simp [hq, hz] at h
    | some z => simp [hq, hz] at h; exact ⟨i, z, rfl, hz, h.2.1⟩
theorem vI_cells (x : Id) : (vI x).cells.size = 32 := by simp [vI, Value.cells, cI_length]
theorem vI_cells' (x : Id) : (vI x).cells.toList = cI x := by simp [vI, Value.cells]
section
variable (w : World)
@[go_sem ↓] theorem bs24 (n : Nat) (parts : Array (Nat × Value)) : Instr.buildSlice 24 n parts = bsA 24 n parts := rfl
@[go_sem ↓] theorem bs22 (n : Nat) (parts : Array (Nat × Value)) : Instr.buildSlice 22 n parts = bsA 22 n parts := rfl
theorem run_bs24 (xs : List Id) (h : xs.length ≤ 100) : (bsA 24 xs.length (xs.zipIdx.map fun x => (x.2, vI x.1)).toArray).run Try.prog w = .ok (.slice (some ⟨w.heap.size, 0, none⟩) xs.length xs.length) (w.alloc (.cells (xs.flatMap cI).toArray 33)) := by
  obtain ⟨i, z, h1, h2, h3⟩ := info_of row33
  have := run_bsA w vI 24 33 i z 32 under24 h1 h2 h3 vI_cells xs (by omega)
  simp only [vI_cells'] at this
  exact this
theorem run_bs22 (xs : List Id) (h : xs.length ≤ 100) : (bsA 22 xs.length (xs.zipIdx.map fun x => (x.2, vI x.1)).toArray).run Try.prog w = .ok (.slice (some ⟨w.heap.size, 0, none⟩) xs.length xs.length) (w.alloc (.cells (xs.flatMap cI).toArray 38)) := by
  obtain ⟨i, z, h1, h2, h3⟩ := info_of row38
  have := run_bsA w vI 22 38 i z 32 under22 h1 h2 h3 vI_cells xs (by omega)
  simp only [vI_cells'] at this
  exact this
/-- The cells of a list of identities, as a block holds them. -/
def aIs (xs : List Id) : Array Value := (xs.flatMap cI).toArray
@[go_sem] theorem run_bs24_0 : (bsA 24 0 #[]).run Try.prog w = .ok (.slice (some ⟨w.heap.size, 0, none⟩) 0 0) (w.alloc (.cells (aIs []) 33)) := run_bs24 w [] (by simp)
@[go_sem] theorem run_bs24_1 (x : Id) : (bsA 24 1 #[(0, vI x)]).run Try.prog w = .ok (.slice (some ⟨w.heap.size, 0, none⟩) 1 1) (w.alloc (.cells (aIs [x]) 33)) := run_bs24 w [x] (by simp)
@[go_sem] theorem run_bs24_2 (x y : Id) : (bsA 24 2 #[(0, vI x), (1, vI y)]).run Try.prog w = .ok (.slice (some ⟨w.heap.size, 0, none⟩) 2 2) (w.alloc (.cells (aIs [x, y]) 33)) := run_bs24 w [x, y] (by simp)
@[go_sem] theorem run_bs24_3 (x y z : Id) : (bsA 24 3 #[(0, vI x), (1, vI y), (2, vI z)]).run Try.prog w = .ok (.slice (some ⟨w.heap.size, 0, none⟩) 3 3) (w.alloc (.cells (aIs [x, y, z]) 33)) := run_bs24 w [x, y, z] (by simp)
@[go_sem] theorem run_bs22_0 : (bsA 22 0 #[]).run Try.prog w = .ok (.slice (some ⟨w.heap.size, 0, none⟩) 0 0) (w.alloc (.cells (aIs []) 38)) := run_bs22 w [] (by simp)
@[go_sem] theorem run_bs22_1 (x : Id) : (bsA 22 1 #[(0, vI x)]).run Try.prog w = .ok (.slice (some ⟨w.heap.size, 0, none⟩) 1 1) (w.alloc (.cells (aIs [x]) 38)) := run_bs22 w [x] (by simp)
end
theorem Own.newI (w : World) (base : Nat) (e : TypeId) (xs : List Id) (hb : base ≤ w.heap.size) (hm : xs.length ≤ 4294967296) : Own (w.alloc (.cells (aIs xs) e)) base e 32 cI (.slice (some ⟨w.heap.size, 0, none⟩) xs.length xs.length) xs :=
  Own.lit cI_length xs hb hm
/-- What the walk asks of element k. -/
theorem Sl.rd {w : World} {A : Option Addr} {xs : List Id} (h : Sl w cI A xs) {k : Nat} (hk : k < xs.length) :
    ∃ ad, A = some ad ∧ okA w (ad.add (k * 32)) 32 = true ∧ rdA w (ad.add (k * 32)) 32 = vI xs[k] := by
  obtain ⟨ad, rfl, hat⟩ := Sl.at_ cI_length h hk
  refine ⟨ad, rfl, ?_, ?_⟩
  · have := hat.ok; rwa [cI_length] at this
  · have := hat.rd; rwa [cI_length] at this
theorem below_alloc (w : World) (o : Obj) : Below w.heap.size w (w.alloc o) := (Below.refl _ _).alloc (Nat.le_refl _) o
theorem below_drew (w : World) : Below w.heap.size w w.drew := (Below.refl _ _).drew
theorem below_drewN (w : World) (n : Nat) : Below w.heap.size w (w.drewN n) := ⟨rfl, rfl, rfl, Nat.le_refl _, fun _ _ => rfl⟩
theorem sl_newI (w : World) (e : TypeId) (xs : List Id) : Sl (w.alloc (.cells (aIs xs) e)) cI (some ⟨w.heap.size, 0, none⟩) xs :=
  fun _ => ⟨_, rfl, at_new w (xs.flatMap cI) e _ rfl⟩

section
variable (w : World)
theorem eql_nil {P : Program} (t e : TypeId) (a : Option Addr) (n c : Nat) (h : P.underlying t = some (.slice e)) : (binOp .eql t (.slice a n c) (.slice none 0 0)).run P w = .ok (.bool a.isNone) w := by
  simp only [binOp]
  simp [Op.equal, Op.maxDepth, Lib.run_equalIn_slice_nil w 9999 t e a n c 0 0 h]
@[go_sem] theorem eql24_nil (a : Option Addr) (n c : Nat) : (binOp .eql 24 (.slice a n c) (.slice none 0 0)).run Try.prog w = .ok (.bool a.isNone) w := eql_nil w 24 33 a n c under24
/-- A list of slices, as the cells of a slice literal. -/
@[go_sem ↓] theorem bs83 (n : Nat) (parts : Array (Nat × Value)) : Instr.buildSlice 83 n parts = bsA 83 n parts := rfl
theorem row24 : (Try.prog.info? 24).map (fun i => (i.zero.map (·.cells.size), i.size, i.bytes)) = some (some 1, 1, 24) := by kernel_rfl
@[go_sem] theorem run_bs83_2 (a b : Option Addr) (n m c d : Nat) : (bsA 83 2 #[(0, .slice a n c), (1, .slice b m d)]).run Try.prog w = .ok (.slice (some ⟨w.heap.size, 0, none⟩) 2 2) (w.alloc (.cells #[.slice a n c, .slice b m d] 24)) := by
  obtain ⟨i, z, h1, h2, h3⟩ := info_of row24
  exact run_bsA (α := Option Addr × Nat × Nat) w (fun x => .slice x.1 x.2.1 x.2.2) 83 24 i z 1 Try.underlying83 h1 h2 h3 (fun _ => rfl) [(a, n, c), (b, m, d)] (by simp)
end
/-- A call that only makes memory and hands back a slice that reads as the list. -/
def Out (w : World) (xs : List Id) (e : Ending) (w' : World) : Prop := ∃ A n c, e = .returned (.slice A n c) ∧ xs.length = n ∧ n ≤ c ∧ Below w.heap.size w w' ∧ Sl w' cI A xs
theorem Out.mk {w w' : World} {v : Value} {xs : List Id} {base : Nat} {e : TypeId} (hb : Below w.heap.size w w') (ho : Own w' base e 32 cI v xs) : Out w xs (.returned v) w' := by
  obtain ⟨A, c, rfl, hc, h⟩ := ho.sl
  exact ⟨A, _, c, rfl, rfl, hc, hb, h⟩
theorem Sl.none_ {w : World} {xs : List Id} (h : Sl w cI none xs) : xs = [] := by
  cases xs with
  | nil => rfl
  | cons x xs =>
    obtain ⟨ad, h, _⟩ := h (by simp)
    cases h

section
variable (w : World)
attribute [go_sem] rowOk_drew rowOk_drewN rowOk_alloc setRow_new setRow_alloc setRow_drew setRow_drewN
@[go_sem ↓] theorem store33 (v u : Value) : Instr.storeAt 33 v u = stA 33 v u := rfl
@[go_sem ↓] theorem store38 (v u : Value) : Instr.storeAt 38 v u = stA 38 v u := rfl
@[go_sem ↓] theorem alloc33 (h : Bool) (v : Value) : Instr.alloc 33 h v = alA 33 h v := rfl
@[go_sem ↓] theorem alloc38 (h : Bool) (v : Value) : Instr.alloc 38 h v = alA 38 h v := rfl
/-- The cells of an identity, as a block holds them. -/
def aI (x : Id) : Array Value := (cI x).toArray
theorem aI_size (x : Id) : (aI x).size = 32 := by simp [aI, cI_length]
theorem aI_one (x : Id) : (aI x).all (·.oneCell') = true := by
  rw [Array.all_eq_true_iff_forall_mem]
  intro u hu
  exact cI_one x u (by simpa [aI] using hu)
@[go_sem] theorem cI_aI (x : Id) : (cI x).toArray = aI x := rfl
@[go_sem] theorem agg_aI (x : Id) : Value.agg (aI x) = vI x := rfl
@[go_sem] theorem run_st33 (g : Nat) (x : Id) : (stA 33 (.pointer (some ⟨g, 0, none⟩)) (vI x)).run Try.prog w = if rowOk w g 32 = true then .ok () (w.setRow g (aI x)) else (stB 33 (.pointer (some ⟨g, 0, none⟩)) (vI x)).run Try.prog w := run_stA_if w 33 g (aI x) 32 size33 (aI_size x) (aI_one x)
@[go_sem] theorem run_st38 (g : Nat) (x : Id) : (stA 38 (.pointer (some ⟨g, 0, none⟩)) (vI x)).run Try.prog w = if rowOk w g 32 = true then .ok () (w.setRow g (aI x)) else (stB 38 (.pointer (some ⟨g, 0, none⟩)) (vI x)).run Try.prog w := run_stA_if w 38 g (aI x) 32 size38 (aI_size x) (aI_one x)
@[go_sem] theorem run_al33 : (alA 33 true (.tuple #[])).run Try.prog w = .ok (.pointer (some ⟨w.heap.size, 0, none⟩)) (w.alloc (.cells (aI zI) 33)) := by kernel_rfl
@[go_sem] theorem run_al38 : (alA 38 true (.tuple #[])).run Try.prog w = .ok (.pointer (some ⟨w.heap.size, 0, none⟩)) (w.alloc (.cells (aI zI) 38)) := by kernel_rfl
@[go_sem] theorem rowOk_newI (x : Id) (t : TypeId) (g : Nat) (hg : g = w.heap.size) : rowOk (w.alloc (.cells (aI x) t)) g 32 = true := rowOk_new w (aI x) t g 32 hg (aI_size x)
@[go_sem] theorem run_bx33' (x : Id) : (bxA 33 (vI x)).run Try.prog w = .ok (.pointer (some ⟨w.heap.size, 0, none⟩)) (w.alloc (.cells (aI x) 33)) := run_bxA w 33 _
@[go_sem] theorem run_bx38' (x : Id) : (bxA 38 (vI x)).run Try.prog w = .ok (.pointer (some ⟨w.heap.size, 0, none⟩)) (w.alloc (.cells (aI x) 38)) := run_bxA w 38 _
@[go_sem] theorem okA_newI' (x : Id) (t : TypeId) (k : Nat) (hk : k = w.heap.size) : okA (w.alloc (.cells (aI x) t)) ⟨k, 0, none⟩ 32 = true := okA_newI w x t k hk
@[go_sem] theorem rdA_newI' (x : Id) (t : TypeId) (k : Nat) (hk : k = w.heap.size) : rdA (w.alloc (.cells (aI x) t)) ⟨k, 0, none⟩ 32 = vI x := rdA_newI w x t k hk
/-- The identity whose first byte is b and whose others are zero. -/
def bI (b : UInt8) : Id := ⟨b :: List.replicate 31 0, by simp⟩
@[go_sem] theorem build33_b (b : UInt8) : (blA 33 #[(0, .int .u8 (b.toNat : Int))]).run Try.prog w = .ok (vI (bI b)) w := by kernel_rfl
@[go_sem] theorem build33_1 : (blA 33 #[(0, .int .u8 1)]).run Try.prog w = .ok (vI (bI 1)) w := build33_b w 1
@[go_sem] theorem build33_2 : (blA 33 #[(0, .int .u8 2)]).run Try.prog w = .ok (vI (bI 2)) w := build33_b w 2
@[go_sem] theorem build33_3 : (blA 33 #[(0, .int .u8 3)]).run Try.prog w = .ok (vI (bI 3)) w := build33_b w 3
end
/-- What an operation of a region gives: a value that is known, or a new slice of identities. -/
def pst (L : List (Value ⊕ List Id)) (i : Nat) (v : Value) (w : World) : Prop :=
  match L[i]? with
  | some (.inl u) => v = u
  | some (.inr xs) => ∃ A, v = .slice A xs.length xs.length ∧ Sl w cI A xs
  | none => True
theorem pst_mono (L : List (Value ⊕ List Id)) : ∀ i v w w', Below w.heap.size w w' → pst L i v w → pst L i v w' := by
  intro i v w w' hb h
  unfold pst at *
  split
  · rename_i u hu; rw [hu] at h; exact h
  · rename_i xs hu
    rw [hu] at h
    obtain ⟨A, h1, h2⟩ := h
    exact ⟨A, h1, h2.keep hb⟩
  · trivial
end Go.Proofs.Ytcchpenaiomeeaa
