/- bulletinlaw34.known: the example. -/
import Derived.Test.YtgojaelkdpabkaaGreatDoorNil
namespace Go.Proofs.YtgojaelkdpabkaaGreatDoor
open Go.RowKit
section
variable (w : World)
theorem aQn_32 (x : Qn) : (aQn x)[32]? = some (.int .i64 x.2.1) := by unfold aQn; rw [List.getElem?_toArray]; exact cQn_hi x 0
theorem aQn_33 (x : Qn) : (aQn x)[33]? = some (.int .i64 x.2.2) := by unfold aQn; rw [List.getElem?_toArray]; exact cQn_hi x 1
theorem cQn_id (x : Qn) : ((cQn x).drop 0).take 32 = cI x.1 := by
  unfold cQn
  rw [List.drop_zero, List.take_append_of_le_length (by rw [cI_length]; omega), List.take_of_length_le (by rw [cI_length]; omega)]
theorem eqsQn (a b : Qn) : (Op.eqFields 9999 (cQn a).toArray (cQn b).toArray (Tryz.prog.fieldsOf 53).toList).run Tryz.prog w = .ok (decide (a = b)) w := by
  simp only [Program.fieldsOf, Tryz.underlying53]
  refine Eq.trans (eqF_cons w (by decide) (idpartC w _ 0 a.1 (cQn_id a)) (idpartC w _ 0 b.1 (cQn_id b)) (eqidC w 9997 _ _) (eqF_cons w (by decide) (part_c w 3 _ 32 _ _ Tryz.underlying3 rfl (aQn_32 a)) (part_c w 3 _ 32 _ _ Tryz.underlying3 rfl (aQn_32 b)) (run_equalIn_int w 9998 3 .i64 .i64 _ _ Tryz.underlying3) (eqF_cons w (by decide) (part_c w 3 _ 33 _ _ Tryz.underlying3 rfl (aQn_33 a)) (part_c w 3 _ 33 _ _ Tryz.underlying3 rfl (aQn_33 b)) (run_equalIn_int w 9998 3 .i64 .i64 _ _ Tryz.underlying3) (eqF_nil w 9999 _ _)))) ?_
  congr 1
  rw [Bool.eq_iff_iff]
  simp only [Bool.and_eq_true, beq_iff_eq, decide_eq_true_eq, and_true]
  obtain ⟨a1, a2, a3⟩ := a
  obtain ⟨b1, b2, b3⟩ := b
  simp [Prod.mk.injEq]
theorem prelQn : Tryz.prog.underlying 53 = some (.struct (Tryz.prog.fieldsOf 53)) := by rw [Program.fieldsOf, Tryz.underlying53]
theorem heldQn : Tryz.prog.stoodInHeld 53 = false := by kernel_rfl
theorem guardQn : Tryz.prog.eqGuardType Tryz.prog.depth 53 = false := by kernel_rfl
@[go_sem] theorem eqGuardQn (op : BinOp) (x y : Operand) (a b : Qn) : (eqGuard op 53 x y (vQn a) (vQn b)).run Tryz.prog w = .ok () w := run_eqGuard_agg w op 53 x y _ _ guardQn
@[go_sem] theorem neqQn (a b : Qn) : (binOp .neq 53 (vQn a) (vQn b)).run Tryz.prog w = .ok (.bool (!decide (a = b))) w := by
  unfold vQn
  rw [run_neq_struct, run_equalIn_struct w 9999 53 _ _ prelQn heldQn, eqsQn]
  rfl
end
/-- The identity with one byte. -/
def idB (n : UInt8) : Id := ⟨n :: List.replicate 31 0, by rw [List.length_cons, List.length_replicate]⟩
theorem idB_ne (n : UInt8) (h : n ≠ 0) : idB n ≠ zI := by
  intro e
  have h1 := congrArg (fun x : Id => x.1.head?) e
  simp [idB, zI] at h1
  exact h h1
def cOff1 : Cm := ⟨2, ⟨#[]⟩, idB 1, 3, 0, 0, 0, ⟨#[]⟩⟩
def cWant1 : Cm := ⟨3, ⟨#[]⟩, idB 1, 0, 0, 0, 0, ⟨#[]⟩⟩
def cData1 : Cm := ⟨7, ⟨#[]⟩, idB 1, 0, 0, 0, 0, ⟨#[97, 98, 99]⟩⟩
def cDone1 : Cm := ⟨8, ⟨#[]⟩, idB 1, 0, 0, 0, 0, ⟨#[]⟩⟩
theorem chk_off1 : chk cOff1 = 0 := by unfold chk chkF psC; simp only [isE]; decide +kernel
theorem chk_want1 : chk cWant1 = 0 := by unfold chk chkF psC; simp only [isE]; decide +kernel
theorem chk_data1 : chk cData1 = 0 := by unfold chk chkF psC crL; simp only [isE]; decide +kernel
theorem chk_done1 : chk cDone1 = 0 := by unfold chk chkF psC; simp only [isE]; decide +kernel
def tkA : Tk := ⟨2, true, [], []⟩
def tkB : Tk := ⟨2, true, [⟨idB 1, 3, 1, ⟨#[]⟩⟩], []⟩
def tkC : Tk := ⟨2, true, [⟨idB 1, 3, 2, ⟨#[]⟩⟩], []⟩
def tkD : Tk := ⟨2, true, [⟨idB 1, 3, 2, ⟨#[97, 98, 99]⟩⟩], []⟩
def tkE : Tk := ⟨2, true, [⟨idB 1, 3, 3, ⟨#[97, 98, 99]⟩⟩], []⟩
theorem ex_off : offerT tkA cOff1 = (tkB, [(idB 1, 3, 0)], 0) := rfl
theorem ex_want : answerT tkB cWant1 = (tkC, cWant1, 0) := by
  unfold answerT
  rw [if_neg (by rw [chk_want1]; decide), if_neg (by decide)]
  rfl
theorem ex_data : dataT tkC cData1 = (tkD, 0) := rfl
theorem ex_done : doneT tkD cDone1 = (tkE, [(idB 1, ⟨#[97, 98, 99]⟩)], 0) := rfl
theorem kn_off (b : Nat) (F : List Nat) (w : World) (h : TkAt b tkA F w) (hL : FormsAt w) : Calls Tryz.prog 15 #[.pointer (some ⟨b, 0, none⟩), vC cOff1] w (HearP b tkB [(idB 1, 3, 0)] [] 0 F w) :=
  hear15_go b _ _ _ _ _ F cOff1 w h hL (by decide) rfl chk_off1 37 rfl (enters_of Tryz.func37 (by kernel_rfl) rfl) (fun u hu => by
    have e := offer37_none b tkA F cOff1 u hu (by decide) (by decide) rfl
    rw [ex_off] at e
    exact e)
theorem kn_data (b : Nat) (F : List Nat) (w : World) (h : TkAt b tkC F w) (hL : FormsAt w) : Calls Tryz.prog 15 #[.pointer (some ⟨b, 0, none⟩), vC cData1] w (HearP b tkD [] [] 0 F w) :=
  hear15_go b _ _ _ _ _ F cData1 w h hL (by decide) rfl chk_data1 38 rfl (enters_of Tryz.func38 (by kernel_rfl) rfl) (fun u hu => by
    have e := data38 b tkC F cData1 u hu (by decide) (by decide) (by decide)
    rw [ex_data] at e
    exact e)
theorem kn_done (b : Nat) (F : List Nat) (w : World) (h : TkAt b tkD F w) (hL : FormsAt w) : Calls Tryz.prog 15 #[.pointer (some ⟨b, 0, none⟩), vC cDone1] w (HearP b tkE [] [(idB 1, ⟨#[97, 98, 99]⟩)] 0 F w) :=
  hear15_go b _ _ _ _ _ F cDone1 w h hL (by decide) rfl chk_done1 39 rfl (enters_of Tryz.func39 (by kernel_rfl) rfl) (fun u hu => by
    have e := done39 b tkD F cDone1 u hu (by decide) (by decide) (by decide)
    rw [ex_done] at e
    exact e)
section
variable (w : World)
@[go_sem] theorem bl_id1 : (blA 30 #[(0, .int .u8 1)]).run Tryz.prog w = .ok (vI (idB 1)) w := by kernel_rfl
@[go_sem] theorem bl_off1 : (blA 32 #[(0, .int .i64 2), (2, vI (idB 1)), (3, .int .i64 3)]).run Tryz.prog w = .ok (vC cOff1) w := by kernel_rfl
@[go_sem] theorem bl_want1 : (blA 32 #[(0, .int .i64 3), (2, vI (idB 1))]).run Tryz.prog w = .ok (vC cWant1) w := by kernel_rfl
@[go_sem] theorem bl_data1 : (blA 32 #[(0, .int .i64 7), (2, vI (idB 1)), (7, .string ⟨#[97, 98, 99]⟩)]).run Tryz.prog w = .ok (vC cData1) w := by kernel_rfl
@[go_sem] theorem bl_done1 : (blA 32 #[(0, .int .i64 8), (2, vI (idB 1))]).run Tryz.prog w = .ok (vC cDone1) w := by kernel_rfl
@[go_sem] theorem bl_qn1 : (blA 53 #[(0, vI (idB 1)), (1, .int .i64 3)]).run Tryz.prog w = .ok (vQn (idB 1, 3, 0)) w := by kernel_rfl
end
theorem knownL (w : World) (hL : Laid w) : Calls Tryz.prog 36 #[] w fun e w' => e = .returned (.bool true) ∧ Below w.heap.size w w' := by
  have HL := Lib.hid hL
  clear hL
  go_enter Tryz.func36, Tryz.ntmps36
  go_wp2_with (go_at_call 62; refine (known11 w HL.out).mono ?_; rintro e w2 ⟨rfl, hb2⟩; have H2 := Lib.hid hb2; clear hb2)
  go_ret
  exact ⟨rfl, H2.out⟩
theorem kn_below {F : List Nat} {w w2 w' : World} {b : Nat} (hb : w.heap.size = b) (h : Below w.heap.size w w2) (hk : Kp [b] F w2 w') : Below w.heap.size w w' := by
  have h2 : Below w.heap.size w2 w' := hk.below (fun k hm => by rw [List.mem_singleton.1 hm]; exact Nat.le_of_eq hb) h.size
  exact Below.trans h h2
theorem qn_one {F : List Nat} {w : World} {q : SlV} {x : Qn} (h : SlF F w cQn q [x]) : ∃ ad c, q = (some ad, 1, c) ∧ okA w ad 34 = true ∧ rdA w ad 34 = vQn x := by
  obtain ⟨A, n, c⟩ := q
  obtain ⟨h1, h2, h3, -⟩ := h
  obtain ⟨ad, e, hat⟩ := h3 (by simp)
  cases e
  have hn : n = 1 := h1.symm
  subst hn
  have hat2 : At w ad (cQn x) := by simpa using hat
  have q1 := hat2.ok
  have q2 := hat2.rd
  rw [cQn_length] at q1 q2
  exact ⟨ad, c, rfl, q1, q2⟩
theorem tx_one {F : List Nat} {w : World} {q : SlV} {x : Txt} (h : SlF F w cTx q [x]) : ∃ ad c, q = (some ad, 1, c) ∧ At w ad (cTx x) := by
  obtain ⟨A, n, c⟩ := q
  obtain ⟨h1, h2, h3, -⟩ := h
  obtain ⟨ad, e, hat⟩ := h3 (by simp)
  cases e
  have hn : n = 1 := h1.symm
  subst hn
  exact ⟨ad, c, rfl, by simpa using hat⟩
theorem sl_none {α : Type} {F : List Nat} {w : World} {enc : α → List Value} {q : SlV} (h : SlF F w enc q []) : q.2.1 = 0 := h.1.symm
theorem TkAt.shrink {b : Nat} {s : Tk} {F : List Nat} {w : World} (h : TkAt b s F w) : ∃ F2, TkAt b s F2 w ∧ Kp F F2 w w ∧ ∀ k ∈ F2, k < w.heap.size := by
  obtain ⟨va, vk, h⟩ := h
  obtain ⟨F2, h1, h2, h3⟩ := h.shrink
  exact ⟨F2, ⟨va, vk, h1⟩, h2, h3⟩
/-- The variable that holds the answer. -/
theorem hold_c (w5 : World) {F5 : List Nat} (hF : ∀ k ∈ F5, k < w5.heap.size) (d : Cm) : ∃ r W, w5.heap.size = r ∧ rowOk (w5.alloc (.cells (aC zC) 32)) r 39 = true ∧ (w5.alloc (.cells (aC zC) 32)).setRow r (aC d) = W ∧ Row W r (cC d) 32 ∧ Below w5.heap.size w5 W ∧ r ∉ F5 := by
  have hr := Row.new w5 (cC zC) 32
  refine ⟨_, _, rfl, hr.rowOk (cC_length zC), rfl, ?_, Below.setRow' (below_alloc _ _) (Nat.le_refl _) _, fun hm => Nat.lt_irrefl _ (hF _ hm)⟩
  exact hr.setRow (cC d)
set_option maxRecDepth 100000 in
set_option maxHeartbeats 800000 in
theorem known34 (w : World) (hL : Laid w) : Calls Tryz.prog 11 #[] w fun e w' => e = .returned (.bool true) ∧ Below w.heap.size w w' := by
  have HL := Lib.hid hL
  clear hL
  obtain ⟨b, hb⟩ : ∃ b, w.heap.size = b := ⟨_, rfl⟩
  have HBB := Lib.hid hb
  have HO := Lib.hid (show openT (Tk.new 2) = (tkA, 0) from rfl)
  have HX2 := Lib.hid ex_want
  go_enter Tryz.func11, Tryz.ntmps11
  go_wp2_with (first
    | (go_at_call 15; refine (kn_done b F7 w7 H7.out.1 (HL.out.keep (kn_below HBB.out H2.out.2 H7.out.2.1)).forms).mono ?_; rintro e w8 ⟨q8, l8, rfl, F8, hT8, hK8, -, hl8⟩; obtain ⟨ad8, c8, rfl, hat8⟩ := tx_one hl8; have s8 : w8.cell? ⟨ad8.block, ad8.off + 32, none⟩ = some (.string ⟨#[97, 98, 99]⟩) := hat8.2 32 _ rfl; have j8 : w8.cell? ⟨r6, 0, none⟩ = some (.int .i64 3) := (H7.out.2.2.1.kp hK8 H7.out.2.2.2).cell 0; have H8 := Lib.hid (H7.out.2.1.trans hK8); clear hT8 hK8 hl8 hat8)
    | (go_at_call 15; refine (kn_data b F6 W6 H6.out.1 (HL.out.keep (kn_below HBB.out H2.out.2 H6.out.2.1)).forms).mono ?_; rintro e w7 ⟨q7, l7, rfl, F7, hT7, hK7, -, -⟩; have H7 := Lib.hid (And.intro hT7 (And.intro (H6.out.2.1.trans hK7) (And.intro (H6.out.2.2.1.kp hK7 H6.out.2.2.2) (hK7.out r6 H6.out.2.2.1.lt H6.out.2.2.2).1))); clear hT7 hK7)
    | (go_at_call 16; refine (answer16_v3 b tkB F4 cWant1 w4 H4.out.1 (HL.out.keep (kn_below HBB.out H2.out.2 H4.out.2)).forms (by decide) (by decide) (by decide) chk_want1 rfl).mono ?_; rw [HX2.out]; rintro e w5 ⟨rfl, F5, hT5, hK5⟩; obtain ⟨F6, hT6, hK6, hF6⟩ := hT5.shrink; obtain ⟨r6, W6, hr6, ro6, hW6, hrow6, hb6, hn6⟩ := hold_c w5 hF6 cWant1; have H6 := Lib.hid (And.intro (hT6.keep hb6) (And.intro (((H4.out.2.trans hK5).trans hK6).trans (Kp.of_below hb6)) (And.intro hrow6 hn6))); clear hT5 hK5 hT6 hK6 hF6 hrow6 hb6 hn6)
    | (go_at_call 15; refine (kn_off b F3 w3 H3.out.1 (HL.out.keep (kn_below HBB.out H2.out.2 H3.out.2)).forms).mono ?_; rintro e w4 ⟨q4, l4, rfl, F4, hT4, hK4, hq4, -⟩; obtain ⟨ad4, c4, rfl, r41, r42⟩ := qn_one hq4; have H4 := Lib.hid (And.intro hT4 (H3.out.2.trans hK4)); clear hT4 hK4 hq4)
    | (go_at_call 17; refine (open17 b (Tk.new 2) [b] w2 H2.out.1).mono ?_; rw [HO.out]; rintro e w3 ⟨rfl, F3, hT3, hK3⟩; have H3 := Lib.hid (And.intro hT3 hK3); clear hT3 hK3)
    | (go_at_call 36; refine (knownL w1 (HL.out.keep H1.out.2)).mono ?_; rintro e w2 ⟨rfl, hb2⟩; have H2 := Lib.hid (And.intro (H1.out.1.keep hb2) (Below.step H1.out.2 hb2)); clear hb2)
    | (go_at_call 13; refine (new13_ok 2 (by decide) (by decide) w).mono ?_; rintro e w1 ⟨rfl, hT1, hb1⟩; rw [hb]; rw [hb] at hT1; have H1 := Lib.hid (And.intro hT1 hb1); clear hT1 hb1))
  go_ret
  exact ⟨rfl, kn_below HBB.out H2.out.2 H8.out⟩
end Go.Proofs.YtgojaelkdpabkaaGreatDoor
