/- The types of offer at this translation: identities, articles, deliveries, outcomes, commands, senders; loaded, stored, boxed, built as whole values. -/
import Derived.Test.YtlelecnafdddhaaDoorRow
import Derived.Test.YtlelecnafdddhaaDoorProg
namespace Go.Proofs.YtlelecnafdddhaaDoor
open Go.RowKit
theorem cons_of {n : Nat} (l : List UInt8) (h : l.length = n + 1) : ∃ a r, l = a :: r ∧ r.length = n := by
  cases l with
  | nil => cases h
  | cons a r => exact ⟨a, r, rfl, by simpa using h⟩
theorem Id.cases {P : Id → Prop} (h : ∀ a0 a1 a2 a3 a4 a5 a6 a7 a8 a9 a10 a11 a12 a13 a14 a15 a16 a17 a18 a19 a20 a21 a22 a23 a24 a25 a26 a27 a28 a29 a30 a31 : UInt8, P ⟨[a0, a1, a2, a3, a4, a5, a6, a7, a8, a9, a10, a11, a12, a13, a14, a15, a16, a17, a18, a19, a20, a21, a22, a23, a24, a25, a26, a27, a28, a29, a30, a31], rfl⟩) (x : Id) : P x := by
  obtain ⟨l0, hl⟩ := x
  obtain ⟨a0, l1, rfl, h0⟩ := cons_of l0 hl
  obtain ⟨a1, l2, rfl, h1⟩ := cons_of l1 h0
  obtain ⟨a2, l3, rfl, h2⟩ := cons_of l2 h1
  obtain ⟨a3, l4, rfl, h3⟩ := cons_of l3 h2
  obtain ⟨a4, l5, rfl, h4⟩ := cons_of l4 h3
  obtain ⟨a5, l6, rfl, h5⟩ := cons_of l5 h4
  obtain ⟨a6, l7, rfl, h6⟩ := cons_of l6 h5
  obtain ⟨a7, l8, rfl, h7⟩ := cons_of l7 h6
  obtain ⟨a8, l9, rfl, h8⟩ := cons_of l8 h7
  obtain ⟨a9, l10, rfl, h9⟩ := cons_of l9 h8
  obtain ⟨a10, l11, rfl, h10⟩ := cons_of l10 h9
  obtain ⟨a11, l12, rfl, h11⟩ := cons_of l11 h10
  obtain ⟨a12, l13, rfl, h12⟩ := cons_of l12 h11
  obtain ⟨a13, l14, rfl, h13⟩ := cons_of l13 h12
  obtain ⟨a14, l15, rfl, h14⟩ := cons_of l14 h13
  obtain ⟨a15, l16, rfl, h15⟩ := cons_of l15 h14
  obtain ⟨a16, l17, rfl, h16⟩ := cons_of l16 h15
  obtain ⟨a17, l18, rfl, h17⟩ := cons_of l17 h16
  obtain ⟨a18, l19, rfl, h18⟩ := cons_of l18 h17
  obtain ⟨a19, l20, rfl, h19⟩ := cons_of l19 h18
  obtain ⟨a20, l21, rfl, h20⟩ := cons_of l20 h19
  obtain ⟨a21, l22, rfl, h21⟩ := cons_of l21 h20
  obtain ⟨a22, l23, rfl, h22⟩ := cons_of l22 h21
  obtain ⟨a23, l24, rfl, h23⟩ := cons_of l23 h22
  obtain ⟨a24, l25, rfl, h24⟩ := cons_of l24 h23
  obtain ⟨a25, l26, rfl, h25⟩ := cons_of l25 h24
  obtain ⟨a26, l27, rfl, h26⟩ := cons_of l26 h25
  obtain ⟨a27, l28, rfl, h27⟩ := cons_of l27 h26
  obtain ⟨a28, l29, rfl, h28⟩ := cons_of l28 h27
  obtain ⟨a29, l30, rfl, h29⟩ := cons_of l29 h28
  obtain ⟨a30, l31, rfl, h30⟩ := cons_of l30 h29
  obtain ⟨a31, l32, rfl, h31⟩ := cons_of l31 h30
  obtain rfl : l32 = [] := List.eq_nil_of_length_eq_zero h31
  exact h a0 a1 a2 a3 a4 a5 a6 a7 a8 a9 a10 a11 a12 a13 a14 a15 a16 a17 a18 a19 a20 a21 a22 a23 a24 a25 a26 a27 a28 a29 a30 a31
/-- The zero identity. -/
def zI : Id := ⟨List.replicate 32 0, by simp⟩
/-- An article: its identity and its text. -/
abbrev Art := Id × ByteArray
abbrev Out := Id × Int × Int
def cA (a : Art) : List Value := cI a.1 ++ [.string a.2]
def cD (a : Art) (q : Option Addr) : List Value := cA a ++ [.pointer q]
def cO (x : Out) : List Value := cI x.1 ++ [.int .i64 x.2.1, .int .i64 x.2.2]
def cT (a : Art) (ch sent : Int) (ended : Bool) : List Value := cA a ++ [.int .i64 ch, .int .i64 sent, .bool ended]
def cSn (ch : Int) (vw : Value) (st : Int) (a : Art) (q : Option Addr) (vo : Value) : List Value := .int .i64 ch :: vw :: .int .i64 st :: (cD a q ++ [vo])
structure Cm where
  verb : Int
  name : ByteArray
  id : Id
  size : Int
  from_ : Int
  count : Int
  code : Int
  text : ByteArray
def cC (c : Cm) : List Value := .int .i64 c.verb :: .string c.name :: (cI c.id ++ [.int .i64 c.size, .int .i64 c.from_, .int .i64 c.count, .int .i64 c.code, .string c.text])
def zA : Art := (zI, ⟨#[]⟩)
def zC : Cm := ⟨0, ⟨#[]⟩, zI, 0, 0, 0, 0, ⟨#[]⟩⟩
def vA (a : Art) : Value := .agg (cA a).toArray
def vD (a : Art) (q : Option Addr) : Value := .agg (cD a q).toArray
def vO (x : Out) : Value := .agg (cO x).toArray
def vC (c : Cm) : Value := .agg (cC c).toArray
def vT (a : Art) (ch sent : Int) (ended : Bool) : Value := .agg (cT a ch sent ended).toArray
def vSn (ch : Int) (vw : Value) (st : Int) (a : Art) (q : Option Addr) (vo : Value) : Value := .agg (cSn ch vw st a q vo).toArray
/-- The cells as a block holds them. -/
def aI (x : Id) : Array Value := (cI x).toArray
def aA (a : Art) : Array Value := (cA a).toArray
def aC (c : Cm) : Array Value := (cC c).toArray
def aT (a : Art) (ch sent : Int) (ended : Bool) : Array Value := (cT a ch sent ended).toArray
def aSn (ch : Int) (vw : Value) (st : Int) (a : Art) (q : Option Addr) (vo : Value) : Array Value := (cSn ch vw st a q vo).toArray
theorem cA_length (a : Art) : (cA a).length = 33 := by simp [cA, cI_length]
theorem cO_length (x : Out) : (cO x).length = 34 := by simp [cO, cI_length]
theorem cD_length (a : Art) (q : Option Addr) : (cD a q).length = 34 := by simp [cD, cA_length]
theorem cC_length (c : Cm) : (cC c).length = 39 := by simp [cC, cI_length]
theorem cT_length (a : Art) (ch sent : Int) (ended : Bool) : (cT a ch sent ended).length = 36 := by simp [cT, cA_length]
theorem cSn_length (ch : Int) (vw : Value) (st : Int) (a : Art) (q : Option Addr) (vo : Value) : (cSn ch vw st a q vo).length = 38 := by simp [cSn, cD_length]
theorem cA_one (a : Art) : ∀ u ∈ cA a, u.oneCell' = true := by
  intro u hu
  rcases List.mem_append.1 hu with h | h
  · exact cI_one _ u h
  · obtain rfl : u = .string a.2 := by simpa using h
    rfl
theorem cO_one (x : Out) : ∀ u ∈ cO x, u.oneCell' = true := by
  intro u hu
  rcases List.mem_append.1 hu with h | h
  · exact cI_one _ u h
  · simp at h
    rcases h with rfl | rfl <;> rfl
theorem cD_one (a : Art) (q : Option Addr) : ∀ u ∈ cD a q, u.oneCell' = true := by
  intro u hu
  rcases List.mem_append.1 hu with h | h
  · exact cA_one _ u h
  · obtain rfl : u = .pointer q := by simpa using h
    rfl
theorem cC_one (c : Cm) : ∀ u ∈ cC c, u.oneCell' = true := by
  intro u hu
  simp only [cC, List.mem_cons, List.mem_append, List.not_mem_nil, or_false] at hu
  rcases hu with rfl | rfl | h | rfl | rfl | rfl | rfl | rfl
  · rfl
  · rfl
  · exact cI_one _ u h
  all_goals rfl

section
variable (w : World) (v : Value)
theorem under40 : ∃ d, Tryd.prog.underlying 40 = some d ∧ (match d with | .struct _ | .array _ _ => true | _ => false) = true := ⟨_, Tryd.underlying40, rfl⟩
theorem size40 : (Tryd.prog.info? 40).map (·.size) = some 32 := by kernel_rfl
@[go_sem ↓] theorem load40 : Instr.loadAt 40 v = ldA 40 v := rfl
@[go_sem] theorem run_ld40 (ad : Addr) : (ldA 40 (.pointer (some ad))).run Tryd.prog w = if okA w ad 32 = true then .ok (rdA w ad 32) w else (ldB 40 (.pointer (some ad))).run Tryd.prog w := run_ldA_if w 40 ad 32 _ Tryd.underlying40 rfl size40
@[go_sem ↓] theorem blt40 (parts : Array (Nat × Value)) : Instr.build 40 parts = blA 40 parts := rfl
@[go_sem ↓] theorem box40 : Instr.box 40 v = bxA 40 v := rfl
@[go_sem] theorem run_bx40 (x : Id) : (bxA 40 (vI x)).run Tryd.prog w = .ok (.pointer (some ⟨w.heap.size, 0, none⟩)) (w.alloc (.cells (aI x) 40)) := run_bxA w 40 _
@[go_sem ↓] theorem alloc40 (h : Bool) : Instr.alloc 40 h v = alA 40 h v := rfl
@[go_sem ↓] theorem store40 (u : Value) : Instr.storeAt 40 v u = stA 40 v u := rfl
@[go_sem] theorem run_st40 (g : Nat) (x : Id) : (stA 40 (.pointer (some ⟨g, 0, none⟩)) (vI x)).run Tryd.prog w = if rowOk w g 32 = true then .ok () (w.setRow g (aI x)) else (stB 40 (.pointer (some ⟨g, 0, none⟩)) (vI x)).run Tryd.prog w := run_stA_if w 40 g _ 32 size40 (by simp [cI_length]) (by simpa using cI_one x)
@[go_sem] theorem rowOk_n40 (x : Id) (ty : TypeId) (g : Nat) (hg : g = w.heap.size) : rowOk (w.alloc (.cells (aI x) ty)) g 32 = true := rowOk_new w _ ty g 32 hg (by simp [aI, cI_length])
@[go_sem] theorem okA_n40 (x : Id) (ty : TypeId) (g : Nat) (hg : g = w.heap.size) : okA (w.alloc (.cells (aI x) ty)) ⟨g, 0, none⟩ 32 = true := okA_new w _ ty g 32 hg (cI_length x)
@[go_sem] theorem rdA_n40 (x : Id) (ty : TypeId) (g : Nat) (hg : g = w.heap.size) : rdA (w.alloc (.cells (aI x) ty)) ⟨g, 0, none⟩ 32 = vI x := rdA_new w _ ty g 32 hg (cI_length x)
theorem under22 : ∃ d, Tryd.prog.underlying 22 = some d ∧ (match d with | .struct _ | .array _ _ => true | _ => false) = true := ⟨_, Tryd.underlying22, rfl⟩
theorem size22 : (Tryd.prog.info? 22).map (·.size) = some 32 := by kernel_rfl
@[go_sem ↓] theorem load22 : Instr.loadAt 22 v = ldA 22 v := rfl
@[go_sem] theorem run_ld22 (ad : Addr) : (ldA 22 (.pointer (some ad))).run Tryd.prog w = if okA w ad 32 = true then .ok (rdA w ad 32) w else (ldB 22 (.pointer (some ad))).run Tryd.prog w := run_ldA_if w 22 ad 32 _ Tryd.underlying22 rfl size22
@[go_sem ↓] theorem blt22 (parts : Array (Nat × Value)) : Instr.build 22 parts = blA 22 parts := rfl
theorem under86 : ∃ d, Tryd.prog.underlying 86 = some d ∧ (match d with | .struct _ | .array _ _ => true | _ => false) = true := ⟨_, Tryd.underlying86, rfl⟩
theorem size86 : (Tryd.prog.info? 86).map (·.size) = some 33 := by kernel_rfl
@[go_sem ↓] theorem load86 : Instr.loadAt 86 v = ldA 86 v := rfl
@[go_sem] theorem run_ld86 (ad : Addr) : (ldA 86 (.pointer (some ad))).run Tryd.prog w = if okA w ad 33 = true then .ok (rdA w ad 33) w else (ldB 86 (.pointer (some ad))).run Tryd.prog w := run_ldA_if w 86 ad 33 _ Tryd.underlying86 rfl size86
@[go_sem ↓] theorem blt86 (parts : Array (Nat × Value)) : Instr.build 86 parts = blA 86 parts := rfl
@[go_sem ↓] theorem box86 : Instr.box 86 v = bxA 86 v := rfl
@[go_sem] theorem run_bx86 (a : Art) : (bxA 86 (vA a)).run Tryd.prog w = .ok (.pointer (some ⟨w.heap.size, 0, none⟩)) (w.alloc (.cells (aA a) 86)) := run_bxA w 86 _
@[go_sem ↓] theorem alloc86 (h : Bool) : Instr.alloc 86 h v = alA 86 h v := rfl
@[go_sem ↓] theorem store86 (u : Value) : Instr.storeAt 86 v u = stA 86 v u := rfl
@[go_sem] theorem run_st86 (g : Nat) (a : Art) : (stA 86 (.pointer (some ⟨g, 0, none⟩)) (vA a)).run Tryd.prog w = if rowOk w g 33 = true then .ok () (w.setRow g (aA a)) else (stB 86 (.pointer (some ⟨g, 0, none⟩)) (vA a)).run Tryd.prog w := run_stA_if w 86 g _ 33 size86 (by simp [cA_length]) (by simpa using cA_one a)
@[go_sem] theorem rowOk_n86 (a : Art) (ty : TypeId) (g : Nat) (hg : g = w.heap.size) : rowOk (w.alloc (.cells (aA a) ty)) g 33 = true := rowOk_new w _ ty g 33 hg (by simp [aA, cA_length])
@[go_sem] theorem okA_n86 (a : Art) (ty : TypeId) (g : Nat) (hg : g = w.heap.size) : okA (w.alloc (.cells (aA a) ty)) ⟨g, 0, none⟩ 33 = true := okA_new w _ ty g 33 hg (cA_length a)
@[go_sem] theorem rdA_n86 (a : Art) (ty : TypeId) (g : Nat) (hg : g = w.heap.size) : rdA (w.alloc (.cells (aA a) ty)) ⟨g, 0, none⟩ 33 = vA a := rdA_new w _ ty g 33 hg (cA_length a)
theorem under45 : ∃ d, Tryd.prog.underlying 45 = some d ∧ (match d with | .struct _ | .array _ _ => true | _ => false) = true := ⟨_, Tryd.underlying45, rfl⟩
theorem size45 : (Tryd.prog.info? 45).map (·.size) = some 39 := by kernel_rfl
@[go_sem ↓] theorem load45 : Instr.loadAt 45 v = ldA 45 v := rfl
@[go_sem] theorem run_ld45 (ad : Addr) : (ldA 45 (.pointer (some ad))).run Tryd.prog w = if okA w ad 39 = true then .ok (rdA w ad 39) w else (ldB 45 (.pointer (some ad))).run Tryd.prog w := run_ldA_if w 45 ad 39 _ Tryd.underlying45 rfl size45
@[go_sem ↓] theorem blt45 (parts : Array (Nat × Value)) : Instr.build 45 parts = blA 45 parts := rfl
@[go_sem ↓] theorem box45 : Instr.box 45 v = bxA 45 v := rfl
@[go_sem] theorem run_bx45 (c : Cm) : (bxA 45 (vC c)).run Tryd.prog w = .ok (.pointer (some ⟨w.heap.size, 0, none⟩)) (w.alloc (.cells (aC c) 45)) := run_bxA w 45 _
@[go_sem ↓] theorem alloc45 (h : Bool) : Instr.alloc 45 h v = alA 45 h v := rfl
@[go_sem ↓] theorem store45 (u : Value) : Instr.storeAt 45 v u = stA 45 v u := rfl
@[go_sem] theorem run_st45 (g : Nat) (c : Cm) : (stA 45 (.pointer (some ⟨g, 0, none⟩)) (vC c)).run Tryd.prog w = if rowOk w g 39 = true then .ok () (w.setRow g (aC c)) else (stB 45 (.pointer (some ⟨g, 0, none⟩)) (vC c)).run Tryd.prog w := run_stA_if w 45 g _ 39 size45 (by simp [cC_length]) (by simpa using cC_one c)
@[go_sem] theorem rowOk_n45 (c : Cm) (ty : TypeId) (g : Nat) (hg : g = w.heap.size) : rowOk (w.alloc (.cells (aC c) ty)) g 39 = true := rowOk_new w _ ty g 39 hg (by simp [aC, cC_length])
@[go_sem] theorem okA_n45 (c : Cm) (ty : TypeId) (g : Nat) (hg : g = w.heap.size) : okA (w.alloc (.cells (aC c) ty)) ⟨g, 0, none⟩ 39 = true := okA_new w _ ty g 39 hg (cC_length c)
@[go_sem] theorem rdA_n45 (c : Cm) (ty : TypeId) (g : Nat) (hg : g = w.heap.size) : rdA (w.alloc (.cells (aC c) ty)) ⟨g, 0, none⟩ 39 = vC c := rdA_new w _ ty g 39 hg (cC_length c)
theorem under68 : ∃ d, Tryd.prog.underlying 68 = some d ∧ (match d with | .struct _ | .array _ _ => true | _ => false) = true := ⟨_, Tryd.underlying68, rfl⟩
theorem size68 : (Tryd.prog.info? 68).map (·.size) = some 34 := by kernel_rfl
@[go_sem ↓] theorem load68 : Instr.loadAt 68 v = ldA 68 v := rfl
@[go_sem] theorem run_ld68 (ad : Addr) : (ldA 68 (.pointer (some ad))).run Tryd.prog w = if okA w ad 34 = true then .ok (rdA w ad 34) w else (ldB 68 (.pointer (some ad))).run Tryd.prog w := run_ldA_if w 68 ad 34 _ Tryd.underlying68 rfl size68
@[go_sem ↓] theorem blt68 (parts : Array (Nat × Value)) : Instr.build 68 parts = blA 68 parts := rfl
theorem under89 : ∃ d, Tryd.prog.underlying 89 = some d ∧ (match d with | .struct _ | .array _ _ => true | _ => false) = true := ⟨_, Tryd.underlying89, rfl⟩
theorem size89 : (Tryd.prog.info? 89).map (·.size) = some 34 := by kernel_rfl
@[go_sem ↓] theorem blt89 (parts : Array (Nat × Value)) : Instr.build 89 parts = blA 89 parts := rfl
theorem under120 : ∃ d, Tryd.prog.underlying 120 = some d ∧ (match d with | .struct _ | .array _ _ => true | _ => false) = true := ⟨_, Tryd.underlying120, rfl⟩
theorem size120 : (Tryd.prog.info? 120).map (·.size) = some 36 := by kernel_rfl
@[go_sem ↓] theorem blt120 (parts : Array (Nat × Value)) : Instr.build 120 parts = blA 120 parts := rfl
@[go_sem ↓] theorem box120 : Instr.box 120 v = bxA 120 v := rfl
theorem under91 : ∃ d, Tryd.prog.underlying 91 = some d ∧ (match d with | .struct _ | .array _ _ => true | _ => false) = true := ⟨_, Tryd.underlying91, rfl⟩
theorem size91 : (Tryd.prog.info? 91).map (·.size) = some 38 := by kernel_rfl
@[go_sem ↓] theorem blt91 (parts : Array (Nat × Value)) : Instr.build 91 parts = blA 91 parts := rfl
@[go_sem ↓] theorem box91 : Instr.box 91 v = bxA 91 v := rfl
@[go_sem] theorem run_al40 : (alA 40 true (.tuple #[])).run Tryd.prog w = .ok (.pointer (some ⟨w.heap.size, 0, none⟩)) (w.alloc (.cells (aI zI) 40)) := by kernel_rfl
@[go_sem] theorem run_al45 : (alA 45 true (.tuple #[])).run Tryd.prog w = .ok (.pointer (some ⟨w.heap.size, 0, none⟩)) (w.alloc (.cells (aC zC) 45)) := by kernel_rfl
@[go_sem] theorem run_al86 : (alA 86 true (.tuple #[])).run Tryd.prog w = .ok (.pointer (some ⟨w.heap.size, 0, none⟩)) (w.alloc (.cells (aA zA) 86)) := by kernel_rfl
@[go_sem] theorem run_bx91 (ch : Int) (vw : Value) (st : Int) (a : Art) (q : Option Addr) (vo : Value) : (bxA 91 (vSn ch vw st a q vo)).run Tryd.prog w = .ok (.pointer (some ⟨w.heap.size, 0, none⟩)) (w.alloc (.cells (aSn ch vw st a q vo) 91)) := run_bxA w 91 _
@[go_sem] theorem run_bx120 (a : Art) (ch sent : Int) (e : Bool) : (bxA 120 (vT a ch sent e)).run Tryd.prog w = .ok (.pointer (some ⟨w.heap.size, 0, none⟩)) (w.alloc (.cells (aT a ch sent e) 120)) := run_bxA w 120 _
@[go_sem ↓] theorem store89 (u : Value) : Instr.storeAt 89 v u = stA 89 v u := rfl
@[go_sem] theorem run_st89 (g k : Nat) (a : Art) (q : Option Addr) : (stA 89 (.pointer (some ⟨g, k, none⟩)) (vD a q)).run Tryd.prog w = if stOk w g k 34 = true then .ok () (stD w g k (cD a q)) else (stB 89 (.pointer (some ⟨g, k, none⟩)) (vD a q)).run Tryd.prog w := by
  split
  · rename_i h
    exact run_stA_off w 89 g k (cD a q) 34 h size89 (cD_length a q) (cD_one a q)
  · rfl
@[go_sem] theorem bl40_0  : (blA 40 #[]).run Tryd.prog w = .ok (vI zI) w := by kernel_rfl
@[go_sem] theorem bl22_0  : (blA 22 #[]).run Tryd.prog w = .ok (vI zI) w := by kernel_rfl
@[go_sem] theorem bl86_2 (s : ByteArray) (x : Id) : (blA 86 #[(0, vI x), (1, .string s)]).run Tryd.prog w = .ok (vA (x, s)) w := by
  revert x
  refine Id.cases fun a0 a1 a2 a3 a4 a5 a6 a7 a8 a9 a10 a11 a12 a13 a14 a15 a16 a17 a18 a19 a20 a21 a22 a23 a24 a25 a26 a27 a28 a29 a30 a31 => ?_
  kernel_rfl
@[go_sem] theorem bl89_0  : (blA 89 #[]).run Tryd.prog w = .ok (vD zA none) w := by kernel_rfl
@[go_sem] theorem bl91_1 (n : Int) : (blA 91 #[(0, .int .i64 n)]).run Tryd.prog w = .ok (vSn n (.slice none 0 0) 0 zA none (.slice none 0 0)) w := by kernel_rfl
@[go_sem] theorem bl45_0  : (blA 45 #[]).run Tryd.prog w = .ok (vC zC) w := by kernel_rfl
@[go_sem] theorem bl45_2 (n : Int) (x : Id) : (blA 45 #[(0, .int .i64 n), (2, vI x)]).run Tryd.prog w = .ok (vC ⟨n, ⟨#[]⟩, x, 0, 0, 0, 0, ⟨#[]⟩⟩) w := by
  revert x
  refine Id.cases fun a0 a1 a2 a3 a4 a5 a6 a7 a8 a9 a10 a11 a12 a13 a14 a15 a16 a17 a18 a19 a20 a21 a22 a23 a24 a25 a26 a27 a28 a29 a30 a31 => ?_
  kernel_rfl
@[go_sem] theorem bl45_3 (n m : Int) (x : Id) : (blA 45 #[(0, .int .i64 n), (2, vI x), (3, .int .i64 m)]).run Tryd.prog w = .ok (vC ⟨n, ⟨#[]⟩, x, m, 0, 0, 0, ⟨#[]⟩⟩) w := by
  revert x
  refine Id.cases fun a0 a1 a2 a3 a4 a5 a6 a7 a8 a9 a10 a11 a12 a13 a14 a15 a16 a17 a18 a19 a20 a21 a22 a23 a24 a25 a26 a27 a28 a29 a30 a31 => ?_
  kernel_rfl
@[go_sem] theorem bl45_4 (n m : Int) (x : Id) : (blA 45 #[(0, .int .i64 n), (2, vI x), (4, .int .i64 m)]).run Tryd.prog w = .ok (vC ⟨n, ⟨#[]⟩, x, 0, m, 0, 0, ⟨#[]⟩⟩) w := by
  revert x
  refine Id.cases fun a0 a1 a2 a3 a4 a5 a6 a7 a8 a9 a10 a11 a12 a13 a14 a15 a16 a17 a18 a19 a20 a21 a22 a23 a24 a25 a26 a27 a28 a29 a30 a31 => ?_
  kernel_rfl
@[go_sem] theorem bl45_7 (n m : Int) (s : ByteArray) (x : Id) : (blA 45 #[(0, .int .i64 n), (2, vI x), (4, .int .i64 m), (7, .string s)]).run Tryd.prog w = .ok (vC ⟨n, ⟨#[]⟩, x, 0, m, 0, 0, s⟩) w := by
  revert x
  refine Id.cases fun a0 a1 a2 a3 a4 a5 a6 a7 a8 a9 a10 a11 a12 a13 a14 a15 a16 a17 a18 a19 a20 a21 a22 a23 a24 a25 a26 a27 a28 a29 a30 a31 => ?_
  kernel_rfl
@[go_sem] theorem bl68_1  (x : Id) : (blA 68 #[(0, vI x)]).run Tryd.prog w = .ok (vO (x, 0, 0)) w := by
  revert x
  refine Id.cases fun a0 a1 a2 a3 a4 a5 a6 a7 a8 a9 a10 a11 a12 a13 a14 a15 a16 a17 a18 a19 a20 a21 a22 a23 a24 a25 a26 a27 a28 a29 a30 a31 => ?_
  kernel_rfl
@[go_sem] theorem bl68_3 (n m : Int) (x : Id) : (blA 68 #[(0, vI x), (1, .int .i64 n), (2, .int .i64 m)]).run Tryd.prog w = .ok (vO (x, n, m)) w := by
  revert x
  refine Id.cases fun a0 a1 a2 a3 a4 a5 a6 a7 a8 a9 a10 a11 a12 a13 a14 a15 a16 a17 a18 a19 a20 a21 a22 a23 a24 a25 a26 a27 a28 a29 a30 a31 => ?_
  kernel_rfl
@[go_sem] theorem bl120_4 (n m : Int) (s : ByteArray) (x : Id) : (blA 120 #[(0, vI x), (1, .string s), (2, .int .i64 n), (3, .int .i64 m)]).run Tryd.prog w = .ok (vT (x, s) n m false) w := by
  revert x
  refine Id.cases fun a0 a1 a2 a3 a4 a5 a6 a7 a8 a9 a10 a11 a12 a13 a14 a15 a16 a17 a18 a19 a20 a21 a22 a23 a24 a25 a26 a27 a28 a29 a30 a31 => ?_
  kernel_rfl
@[go_sem] theorem bl89_1 (s : ByteArray) (x : Id) : (blA 89 #[(0, vA (x, s))]).run Tryd.prog w = .ok (vD (x, s) none) w := by
  revert x
  refine Id.cases fun a0 a1 a2 a3 a4 a5 a6 a7 a8 a9 a10 a11 a12 a13 a14 a15 a16 a17 a18 a19 a20 a21 a22 a23 a24 a25 a26 a27 a28 a29 a30 a31 => ?_
  kernel_rfl
/-- The cells of lists, as a block holds them. -/
def aAs (xs : List Art) : Array Value := (xs.flatMap cA).toArray
def aOs (xs : List Out) : Array Value := (xs.flatMap cO).toArray
@[go_sem ↓] theorem bs84 (n : Nat) (parts : Array (Nat × Value)) : Instr.buildSlice 84 n parts = bsA 84 n parts := rfl
@[go_sem ↓] theorem bs65 (n : Nat) (parts : Array (Nat × Value)) : Instr.buildSlice 65 n parts = bsA 65 n parts := rfl
theorem vA_cells (a : Art) : (vA a).cells.size = 33 := by simp [vA, Value.cells, cA_length]
theorem vO_cells (x : Out) : (vO x).cells.size = 34 := by simp [vO, Value.cells, cO_length]
theorem run_bs84 (xs : List Art) (h : xs.length ≤ 100) : (bsA 84 xs.length (xs.zipIdx.map fun x => (x.2, vA x.1)).toArray).run Tryd.prog w = .ok (.slice (some ⟨w.heap.size, 0, none⟩) xs.length xs.length) (w.alloc (.cells (aAs xs) 86)) := by
  obtain ⟨i, z, h1, h2, h3⟩ := info_of (show (Tryd.prog.info? 86).map (fun i => (i.zero.map (·.cells.size), i.size, i.bytes)) = some (some 33, 33, 48) by kernel_rfl)
  have := run_bsA w vA 84 86 i z 33 Tryd.underlying84 h1 h2 h3 vA_cells xs (by omega)
  exact this
theorem run_bs65 (xs : List Out) (h : xs.length ≤ 100) : (bsA 65 xs.length (xs.zipIdx.map fun x => (x.2, vO x.1)).toArray).run Tryd.prog w = .ok (.slice (some ⟨w.heap.size, 0, none⟩) xs.length xs.length) (w.alloc (.cells (aOs xs) 68)) := by
  obtain ⟨i, z, h1, h2, h3⟩ := info_of (show (Tryd.prog.info? 68).map (fun i => (i.zero.map (·.cells.size), i.size, i.bytes)) = some (some 34, 34, 48) by kernel_rfl)
  have := run_bsA w vO 65 68 i z 34 Tryd.underlying65 h1 h2 h3 vO_cells xs (by omega)
  exact this
@[go_sem] theorem run_bs84_0 : (bsA 84 0 #[]).run Tryd.prog w = .ok (.slice (some ⟨w.heap.size, 0, none⟩) 0 0) (w.alloc (.cells (aAs []) 86)) := run_bs84 w [] (by simp)
@[go_sem] theorem run_bs84_1 (a : Art) : (bsA 84 1 #[(0, vA a)]).run Tryd.prog w = .ok (.slice (some ⟨w.heap.size, 0, none⟩) 1 1) (w.alloc (.cells (aAs [a]) 86)) := run_bs84 w [a] (by simp)
@[go_sem] theorem run_bs65_1 (x : Out) : (bsA 65 1 #[(0, vO x)]).run Tryd.prog w = .ok (.slice (some ⟨w.heap.size, 0, none⟩) 1 1) (w.alloc (.cells (aOs [x]) 68)) := run_bs65 w [x] (by simp)
end
end Go.Proofs.YtlelecnafdddhaaDoor
