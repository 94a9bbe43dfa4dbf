/- The bytes of a command: plain functions; strings in memory; what is laid. -/
import Derived.Test.YtfbpipknhghneaaDoorChk30
import Derived.Test.YtfbpipknhghneaaDoorDigits30
import Derived.Test.YtfbpipknhghneaaDoorDg30
import Derived.Test.YtfbpipknhghneaaDoorStu30
import Derived.Lib.Join
import Derived.Lib.ItoaLen
namespace Go.Proofs.YtfbpipknhghneaaDoor
open Go.RowKit
def textS (x : Id) : ByteArray := ⟨(textL x).toArray⟩
theorem textL_len (x : Id) : (textL x).length = 71 := by
  unfold textL
  simp [hexL_length, x.2]
theorem textS_size (x : Id) : (textS x).size = 71 := (Lib.size_eq _).trans (textL_len x)
def itoaB (n : Int) : ByteArray := ⟨(Lib.itoa n).toArray⟩
def i64 (n : Int) : Prop := -9223372036854775808 ≤ n ∧ n ≤ 9223372036854775807
theorem itoaB_size (n : Int) (h : i64 n) : (itoaB n).size ≤ 21 := Nat.le_trans (Nat.le_of_eq (Lib.size_eq _)) (Lib.itoa_length_le n h.1 h.2)
/-- The fields' words. -/
def wdsC (c : Cm) : List Wd := [(1, c.name), (2, textS c.id), (4, itoaB c.size), (8, itoaB c.from_), (16, itoaB c.count), (32, itoaB c.code)]
def useW (fl : Int) (x : Wd) : Bool := bits BinOp.and .i64 fl x.1 != 0
def wordsC (wd : ByteArray) (fl : Int) (l : List Wd) : List ByteArray := wd :: (l.filter (useW fl)).map (·.2)
theorem wordsC_snoc (wd : ByteArray) (fl : Int) (l : List Wd) (x : Wd) : wordsC wd fl (l ++ [x]) = if useW fl x = true then wordsC wd fl l ++ [x.2] else wordsC wd fl l := by
  unfold wordsC
  rw [List.filter_append]
  by_cases h : useW fl x = true
  · rw [if_pos h]; simp [h]
  · rw [if_neg h]; simp [h]
def formC (c : Cm) : Fm := formsL[c.verb.toNat]?.getD (⟨#[]⟩, 0, 0)
def lineC (c : Cm) : List UInt8 := Lib.join ((wordsC (formC c).1 (formC c).2.1 (wdsC c)).map bl) [32]
def encT (c : Cm) : List UInt8 := if chk c ≠ 0 then [] else lineC c ++ [13, 10] ++ (if bits BinOp.and .i64 (formC c).2.1 64 == 0 then [] else stuffL (bl c.text))
/-- What a command's ints and texts are. -/
structure Cm.ok (c : Cm) : Prop where
  name : c.name.size ≤ 1000000
  text : c.text.size ≤ 1000000
  size : i64 c.size
  from_ : i64 c.from_
  count : i64 c.count
  code : i64 c.code
def lenB (l : List ByteArray) : Nat := (l.map fun x => x.size + 1).sum
theorem join_le (l : List ByteArray) : (Lib.join (l.map bl) [32]).length ≤ lenB l := by
  cases l with
  | nil => simp [Lib.join_nil, lenB]
  | cons x r =>
    rw [List.map_cons, Lib.join_length]
    unfold Lib.lens lenB
    simp only [List.length_cons, List.length_nil, List.length_map, List.map_cons, List.sum_cons]
    have : ∀ l : List ByteArray, (List.map (·.length) (l.map bl)).sum + l.length = (l.map fun x => x.size + 1).sum := by
      intro l
      induction l with
      | nil => rfl
      | cons y t ih =>
        have hy : (bl y).length = y.size := bl_length y
        simp only [List.map_cons, List.sum_cons, List.length_cons] at ih ⊢
        omega
    have h2 := this r
    have hx : (bl x).length = x.size := bl_length x
    omega
theorem words_le (c : Cm) (h : c.ok) (wd : ByteArray) (hw : wd.size ≤ 100) (fl : Int) (k : Nat) : lenB (wordsC wd fl ((wdsC c).take k)) ≤ 2000000 ∧ (wordsC wd fl ((wdsC c).take k)).length ≤ 7 := by
  have h1 : ∀ l : List Wd, lenB (wordsC wd fl l) ≤ wd.size + 1 + (l.map fun x => x.2.size + 1).sum ∧ (wordsC wd fl l).length ≤ l.length + 1 := by
    intro l
    unfold wordsC lenB
    simp only [List.map_cons, List.sum_cons, List.length_cons, List.map_map]
    induction l with
    | nil => simp
    | cons x r ih =>
      rw [List.filter_cons]
      split
      · simp only [List.map_cons, List.sum_cons, List.length_cons, Function.comp] at ih ⊢
        omega
      · simp only [List.map_cons, List.sum_cons, List.length_cons] at ih ⊢
        omega
  have h2 : ∀ (l : List Wd) (k : Nat), ((l.take k).map fun x => x.2.size + 1).sum ≤ (l.map fun x => x.2.size + 1).sum := by
    intro l
    induction l with
    | nil => intro k; simp
    | cons x r ih =>
      intro k
      cases k with
      | zero => simp
      | succ k => have := ih k; simp only [List.take_succ_cons, List.map_cons, List.sum_cons]; omega
  have h3 := h1 ((wdsC c).take k)
  have h4 := h2 (wdsC c) k
  have h5 : ((wdsC c).map fun x => x.2.size + 1).sum ≤ 1000000 + 71 + 84 + 6 := by
    have a1 := itoaB_size _ h.size
    have a2 := itoaB_size _ h.from_
    have a3 := itoaB_size _ h.count
    have a4 := itoaB_size _ h.code
    have a5 := h.name
    have a6 := textS_size c.id
    simp only [wdsC, List.map_cons, List.map_nil, List.sum_cons, List.sum_nil]
    omega
  have h6 : ((wdsC c).take k).length ≤ 6 := by rw [List.length_take]; show min k 6 ≤ 6; omega
  omega
theorem tab_below {w w' : World} {name : String} {k : IntKind} {zs : List Int} (h : Lib.TabIs Tryd.prog w name k zs) (hb : Below w.heap.size w w') : Lib.TabIs Tryd.prog w' name k zs := by
  unfold Lib.TabIs World.var? at *
  cases hg : Tryd.prog.globalNamed name with
  | none => rw [hg] at h; cases h
  | some g =>
    rw [hg] at h
    simp only [Option.bind_some] at h ⊢
    cases hq : w.heap[g]? with
    | none => rw [hq] at h; cases h
    | some o => rw [hb.block g (Array.getElem?_eq_some_iff.1 hq).1]; exact h
/-- What the package-level variables hold. -/
structure Laid (w : World) : Prop where
  forms : FormsAt w
  max : Laid1 w
  tab : Lib.TabIs Tryd.prog w "internal/strconv.uint64pow10" .u64 Lib.pow10Tab
theorem Laid.keep {w w' : World} (h : Laid w) (hb : Below w.heap.size w w') : Laid w' := ⟨h.forms.keep hb, h.max.keep hb, tab_below h.tab hb⟩
/-- The cell of a string. -/
def cS (s : ByteArray) : List Value := [.string s]
theorem cS_length (s : ByteArray) : (cS s).length = 1 := rfl
theorem cS_one (s : ByteArray) : ∀ u ∈ cS s, u.oneCell' = true := by
  intro u hu
  obtain rfl : u = .string s := by simpa [cS] using hu
  rfl
theorem underSs : Tryd.prog.underlying 72 = some (.slice 9) := Tryd.underlying72
theorem rowS : (Tryd.prog.info? 9).map (fun i => (i.zero.map (·.cells.size), i.size, i.bytes)) = some (some 1, 1, 16) := by kernel_rfl
theorem sl_newS (w : World) (s : ByteArray) : Sl (w.alloc (.cells #[.string s] 9)) cS (some ⟨w.heap.size, 0, none⟩) [s] :=
  fun _ => ⟨_, rfl, at_new w [.string s] 9 _ rfl⟩
theorem own_newS (w : World) (s : ByteArray) : Own (w.alloc (.cells #[.string s] 9)) w.heap.size 9 1 cS (.slice (some ⟨w.heap.size, 0, none⟩) 1 1) [s] :=
  ⟨rfl, Or.inr ⟨w.heap.size, 1, #[.string s], rfl, Nat.le_refl _, Row.new w [.string s] 9, Nat.le_refl _, by decide, rfl, rfl⟩⟩
theorem own_str {w : World} {base : Nat} {e : TypeId} {v : Value} {xs : List ByteArray} (h : Own w base e 1 cS v xs) :
    (v = .slice none 0 0 ∧ xs = []) ∨ ∃ g c, v = .slice (some ⟨g, 0, none⟩) xs.length c ∧ xs.length ≤ c ∧ g < w.heap.size ∧ ∀ (j : Nat) x, xs[j]? = some x → w.cell? ⟨g, 0 + j, none⟩ = some (.string x) := by
  have hsl := h.sl
  rcases h.2 with ⟨rfl, hn⟩ | ⟨g, cap, cur, rfl, hb, hg, hnc, _⟩
  · exact .inl ⟨rfl, List.eq_nil_of_length_eq_zero hn⟩
  · refine .inr ⟨g, cap, rfl, hnc, (Array.getElem?_eq_some_iff.1 hg).1, fun j x hx => ?_⟩
    obtain ⟨hj, rfl⟩ := List.getElem?_eq_some_iff.1 hx
    obtain ⟨A, c, e, _, hs⟩ := hsl
    obtain ⟨ad, rfl, hat⟩ := Sl.at_ cS_length hs hj
    obtain rfl : (⟨g, 0, none⟩ : Addr) = ad := by injection e with e; injection e
    have h2 := hat.2 0 _ rfl
    rw [Nat.mul_one, add_of_add, Nat.add_zero] at h2
    rwa [show (⟨g, 0, none⟩ : Addr).add j = ⟨g, 0 + j, none⟩ from by unfold Addr.add; split <;> simp_all] at h2
theorem print_m2 (x : Id) (w : World) : Calls Tryd.prog 32 #[vI x] w fun e w' => e = .returned (.string (textS x)) ∧ Below w.heap.size w w' := print_m x w
theorem digits_b2 (n : Int) (h : i64 n) (w : World) (hL : Laid w) : Calls Tryd.prog 33 #[.int .i64 n] w fun e w' => e = .returned (.string (itoaB n)) ∧ Below w.heap.size w w' := digits28 n h.1 h.2 w hL.tab
theorem join_w (g cc n : Nat) (xs : List ByteArray) (w : World) (hn : xs.length = n) (hcells : ∀ (j : Nat) x, xs[j]? = some x → w.cell? ⟨g, 0 + j, none⟩ = some (.string x)) (hg : g < w.heap.size) (hcc : n ≤ cc) (h7 : n ≤ 7) (hlen : lenB xs ≤ 2000000) :
    Calls Tryd.prog 34 #[.slice (some ⟨g, 0, none⟩) n cc, .string ⟨#[32]⟩] w fun e w' => e = .returned (.string ⟨(Lib.join (xs.map bl) [32]).toArray⟩) ∧ Below w.heap.size w w' := by
  subst hn
  have h1 := join_le xs
  exact Tryd.strings_Join g 0 cc xs ⟨#[32]⟩ w hcells hg (by omega) hcc (Nat.le_trans h1 (by omega))
theorem Sl.wd {w : World} {A : Option Addr} {xs : List Wd} (h : Sl w cW A xs) {k : Nat} (hk : k < xs.length) : ∃ ad, A = some ad ∧ okA w (ad.add (k * 2)) 2 = true ∧ rdA w (ad.add (k * 2)) 2 = vW xs[k] := by
  obtain ⟨ad, rfl, hat⟩ := Sl.at_ cW_length h hk
  have h1 := hat.ok
  have h2 := hat.rd
  rw [cW_length] at h1 h2
  exact ⟨ad, rfl, h1, h2⟩
end Go.Proofs.YtfbpipknhghneaaDoor
