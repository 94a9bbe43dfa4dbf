/- digest: Protect. -/
import Derived.Test.YtibelollgdnidaaGreatDoorMMr3
import Derived.Test.YtibelollgdnidaaGreatDoorMTak
namespace Go.Proofs.YtibelollgdnidaaGreatDoor
open Go.RowKit
attribute [local go_sem] Oper.semAt_some
section
variable {B b : Nat} {l : List UInt8} {F : List Nat} {w w' : World}
theorem Bd.byteX (h : Bd B b l F w) (c : UInt8) (cc : Int) (hcc : ((c.toNat : Nat) : Int) = cc) (hs : l.length + 1 ≤ 1000000000) : Calls Tryz.prog 84 #[.pointer (some ⟨b, 0, none⟩), .int .u8 cc] w fun e w' => e = .returned .nilIface ∧ Bd B b (l ++ [c]) F w' ∧ Frm B F w w' := by
 obtain ⟨q, v, h1, h2, h3, h4⟩ := h
 refine (h1.byte c cc hcc hs h4).mono ?_
 rintro e w' ⟨rfl, v', h5, h6⟩
 have h7 := Bd.turn h1 h2 h3 h4 h5 h6
 refine ⟨rfl, h7.1, h7.2.1, h7.2.2, ⟨h6.size, fun k o hk ho => (h6.out k (Array.getElem?_eq_some_iff.1 hk).1 (fun e => ?_) (fun e => ?_)).trans hk⟩⟩
 ·rw [e, show w.heap[b]? = _ from h1.row] at hk
  injection hk with hk
  rw [← hk] at ho
  cases ho
 ·obtain ⟨cur, hc⟩ := h1.ownc e.symm
  rw [hc] at hk
  injection hk with hk
  rw [← hk] at ho
  cases ho
theorem Below.putObj {B : Nat} {a w : World} (h : Below B a w) {k : Nat} (hk : B ≤ k) (o : Obj) : Below B a (w.putObj k o) :=
 ⟨h.os, h.tape, h.output, by simpa [World.putObj] using h.size, fun j hj => (World.putObj_heap_other (by omega)).trans (h.block j hj)⟩
theorem Bd.string_d (h : Bd B b l F w) {D : Nat} {ds : Option (List Deferred)} (hD : w.heap[D]? = some (.deferred ds)) : Calls Tryz.prog 52 #[.pointer (some ⟨b, 0, none⟩)] w fun e w' => e = .returned (.string ⟨l.toArray⟩) ∧ Below B w w' ∧ w'.heap[D]? = some (.deferred ds) := by
 obtain ⟨q, v, h1, h2, h3, h4⟩ := h
 refine (Tryz.Builder_String_any_k B b l w (Lib.IsBuilderF.of h1.at) h4).mono ?_
 rintro e w' ⟨rfl, -, h5, h6⟩
 refine ⟨rfl, h5, h6 D _ hD ?_ (fun c fz e => by cases e)⟩
 intro e
 have e := Option.some.inj e
 rw [e, show w.heap[b]? = _ from h1.row] at hD
 cases hD
end
set_option maxRecDepth 100000 in
set_option maxHeartbeats 1600000 in
theorem protect43 (s : List UInt8) (w : World) (h13 : (13 : UInt8) ∉ s) (hs : s.length ≤ 1000) : Calls Tryz.prog 43 #[.string (tx s)] w fun e w' => e = .returned (.tuple #[.string (tx (lnT ((piecesL s).map protL))), .int .i64 0]) ∧ Below w.heap.size w w' := by
 have hsz : ((tx s).size : Int) ≤ 1000 := by rw [tx_size]; omega
 have hB := Lib.hid (And.intro (Bd.new w) (below_alloc w (.cells #[.pointer none, .slice none 0 0] 93)))
 have HX := Lib.hid (And.intro h13 hs)
 have hC : ∀ u, Calls Tryz.prog 47 #[.string (tx s), .string ⟨#[13]⟩] u fun e w' => e = .returned (.bool false) ∧ u = w' := fun u => (has13 s u h13).mono (fun e w' h => ⟨h.1, h.2.symm⟩)
 have HC := Lib.hid hC
 clear h13 hs hC
 refine callsIn_wide.1 (callsIn_of_wp_marks (n := 5) Tryz.func43 rfl trivial (wpIn_wide.2 ?_))
 simp only [Tryz.ntmps43, List.size_toArray, List.length_cons, List.length_nil, Nat.reduceAdd, Nat.reduceSub, Array.replicate_succ, Array.replicate_zero, List.push_toArray, List.append_toArray, List.nil_append, List.cons_append]
 go_wp2_with (first
  | (go_at_call 47; refine (HC.out _).mono ?_; rintro e w2 ⟨rfl, rfl⟩)
  | (go_at_call 83; revert hB; generalize w.alloc (.cells #[.pointer none, .slice none 0 0] 93) = w5; intro hB; refine (splitSeq83 s _).mono ?_; rintro e w7 ⟨rfl, hsp, hb7, hz7⟩; have S7 := Lib.hid (And.intro (hB.out.1.more hb7 [w5.heap.size, w5.heap.size + 1, w5.heap.size + 2] (fun j hj => by simp only [List.mem_cons, List.not_mem_nil, or_false] at hj; omega)) (And.intro hsp (And.intro hz7 hb7))); clear hsp hb7 hz7))
 obtain ⟨N, hN⟩ : ∃ N, w5.heap.size = N := ⟨_, rfl⟩
 have hwN : w.heap.size < N := by obtain ⟨q, v, h1, -⟩ := hB.out.1; have := h1.row.lt; omega
 rw [hN] at S7 ⊢
 obtain ⟨b, hb⟩ : ∃ b, w.heap.size = b := ⟨_, rfl⟩
 have HBX := Lib.hid (And.intro hB.out.2 hb)
 rw [hb] at S7 hwN ⊢
 refine wpIn_wide.1 (range_split (m := 3) 5 (N + 1) N (N + 2) (by omega) (by omega) s (by have := HX.out.2; omega) rfl S7.out.2.1
  (fun pre W => ∃ F : List Nat, Bd b b (lnT (pre.map protL)) F W ∧ (N ∈ F ∧ N + 1 ∈ F ∧ N + 2 ∈ F) ∧ Below b w W) ?is ?io ?ia ?h0 ?asg ?body ?done)
 case is =>
  rintro pre W v ⟨F', h, hm, hw⟩
  exact ⟨F', h.othT (Oth.set N 0 v hm.1), hm, hw.setCell (Nat.le_of_lt hwN) v⟩
 case io =>
  rintro pre W k2 o o' hk2 ho hc ⟨F', h, hm, hw⟩
  exact ⟨F', h.othT (Oth.put k2 o o' ho hc), hm, Below.putObj hw (by have := S7.out.2.2.1; omega) o'⟩
 case ia =>
  rintro pre W o ⟨F', h, hm, hw⟩ hz
  exact ⟨F', h.othT (Oth.of_below (below_alloc _ _)), hm, hw.trans ((below_alloc W o).mono (by have := S7.out.2.2.1; omega))⟩
 case h0 =>
  refine ⟨_, S7.out.1, by simp, ?_⟩
  have h1 := HBX.out.1
  rw [hb] at h1
  exact h1.trans (S7.out.2.2.2.mono (Nat.le_of_lt hwN))
 case asg =>
  intro l p W K hK
  simp only [List.zip_toArray, List.zip_cons_cons, List.zip_nil_right, List.foldl_toArray', List.foldl_cons, List.foldl_nil]
  gi_wp2
  exact hK
 case body =>
  rintro l pre p W tm htm hp hWz ⟨F', h, hm, hw⟩
  have hz86 : tm.size = 23 := by rw [htm]; rfl
  have h4 : tm[4]?.getD undef = .pointer (some ⟨b, 0, none⟩) := by rw [htm]; rfl
  have h5 : tm[5]?.getD undef = .string (tx p) := by rw [htm]; rfl
  clear htm
  have hl := arr_of tm 23 hz86
  obtain ⟨z, hz⟩ : ∃ z : Nat → Value, (fun i => tm[i]?.getD undef) = z := ⟨_, rfl⟩
  rw [hz] at hl
  have hl2 : tm = #[z 0, z 1, z 2, z 3, z 4, z 5, z 6, z 7, z 8, z 9, z 10, z 11, z 12, z 13, z 14, z 15, z 16, z 17, z 18, z 19, z 20, z 21, z 22] := hl
  rw [show z 4 = _ from (congrFun hz 4).symm.trans h4, show z 5 = _ from (congrFun hz 5).symm.trans h5] at hl2
  clear hl hz hz86 h4 h5
  subst hl2
  obtain ⟨rr, hrr⟩ := hp
  have hnum := num_pieces (s := s) []
  have hple : ∀ q ∈ piecesL s, q.length ≤ 1000 := fun q hq => by have := lt_pieces (s := s) [] q hq; have := HX.out.2; simp only [List.length_nil] at *; omega
  have hle : (lnT ((pre ++ [p]).map protL)).length ≤ 1000 * 10000 := by
   have h1 : ∀ (m : List (List UInt8)), (∀ q ∈ m, q.length ≤ 1000) → (lnT (m.map protL)).length ≤ 1003 * m.length := by
    intro m
    induction m with
    | nil => intro _; exact Nat.le_refl _
    | cons q m ih =>
     intro hq
     have h2 := ih (fun x hx => hq x (List.mem_cons_of_mem _ hx))
     have h3 := hq q List.mem_cons_self
     have h4 : (protL q).length ≤ q.length + 2 := by unfold protL; split <;> simp
     rw [List.map_cons, lnT_cons, List.length_append, List.length_cons, List.length_cons]
     omega
   have h2 := h1 (pre ++ [p]) (fun q hq => hple q (by rw [hrr]; rcases List.mem_append.1 hq with hq | hq; exact List.mem_append.2 (Or.inl hq); rw [List.mem_singleton.1 hq]; simp))
   have h3 : (pre ++ [p]).length ≤ (piecesL s).length := by rw [hrr]; simp
   have := HX.out.2
   unfold piecesL at h3
   omega
  have hsn : lnT ((pre ++ [p]).map protL) = lnT (pre.map protL) ++ (protL p ++ [10]) := by rw [List.map_append, lnT_append]; simp [lnT]
  obtain ⟨PR, hPR⟩ : ∃ PR, lnT ((pre ++ [p]).map protL) = PR := ⟨_, rfl⟩
  rw [hPR] at hsn hle ⊢
  have hH := hasPre p [45] W
  rw [hasPre1] at hH
  have H8 := Lib.hid (And.intro h hm)
  have hfin : ∀ (W' : World), Bd b b PR F' W' → Frm b F' W W' → KeepsFrom w7.heap.size W W' ∧ K3 (N + 1) N (N + 2) W W' ∧ ∃ F, Bd b b PR F W' ∧ (N ∈ F ∧ N + 1 ∈ F ∧ N + 2 ∈ F) ∧ Below b w W' :=
   fun W' hw' hfr => ⟨hfr.oth.from _, ⟨hfr.keep _ hm.2.1, hfr.keep _ hm.1, hfr.keep _ hm.2.2⟩, F', hw', hm, hw.trans hfr.bel⟩
  have HFIN := Lib.hid hfin
  have hlen := congrArg List.length hsn
  rw [List.length_append, List.length_append] at hlen
  have h10 : ((10 : UInt8).toNat : Int) = 10 := rfl
  clear hfin h hm hw hrr hnum hple hPR
  by_cases hp45 : p.head? = some 45
  ·rw [decide_eq_true hp45] at hH
   have hpr : protL p = [45, 32] ++ p := by unfold protL; rw [if_pos hp45]; rfl
   rw [hpr] at hsn hlen
   rw [List.length_append] at hlen
   have HB := Lib.hid (And.intro (show lnT (pre.map protL) ++ bl ⟨#[45, 32]⟩ ++ bl (tx p) ++ [10] = PR by rw [hsn]; simp [bl_tx]; rfl) (show (lnT (pre.map protL)).length + 1 + p.length + 2 ≤ 100000000 by simp only [List.length_cons, List.length_nil] at hlen; omega))
   have HH := Lib.hid hH
   clear hH hsn hlen hle hpr hp45
   gi_wp2_with (first
    | (refine ⟨trivial, ?_⟩; gi_at_call 39; refine (CallsIn.inRound l (callsIn_wide.2 HH.out)).mono ?_; rintro e w2 ⟨rfl, rfl⟩)
    | (refine ⟨trivial, ?_⟩; gi_at_call 51; refine (CallsIn.inRound l (callsIn_wide.2 (usee HH (H8.out.1.strX ⟨#[45, 32]⟩ (by have := HB.out.2; show _ + 2 ≤ _; omega))))).mono ?_; rintro e w8 ⟨rfl, h8, f8⟩; have H9 := Lib.hid (And.intro h8 f8); clear h8 f8 HH)
    | (refine ⟨trivial, ?_⟩; gi_at_call 51; refine (CallsIn.inRound l (callsIn_wide.2 (usee H9 (H9.out.1.strX (tx p) (by have := HB.out.2; rw [List.length_append, tx_size]; show _ + 2 + _ ≤ _; omega))))).mono ?_; rintro e w9 ⟨rfl, h9, f9⟩; have H10 := Lib.hid (And.intro h9 (H9.out.2.trans f9)); clear h9 f9 H9)
    | (refine ⟨trivial, ?_⟩; gi_at_call 84; refine (CallsIn.inRound l (callsIn_wide.2 (usee H10 (H10.out.1.byteX 10 10 h10 (by have := HB.out.2; rw [List.length_append, List.length_append, bl_tx]; show _ + 2 + _ + 1 ≤ _; omega))))).mono ?_; rintro e w10 ⟨rfl, h11, f11⟩; rw [HB.out.1] at h11; have H11 := Lib.hid (And.intro h11 (H10.out.2.trans f11)); clear h11 f11 H10))
   exact HFIN.out _ H11.out.1 H11.out.2
  ·rw [decide_eq_false hp45] at hH
   have hpr : protL p = p := by unfold protL; rw [if_neg hp45]
   rw [hpr] at hsn hlen
   have HB := Lib.hid (And.intro (show lnT (pre.map protL) ++ bl (tx p) ++ [10] = PR by rw [hsn]; simp [bl_tx]) (show (lnT (pre.map protL)).length + 1 + p.length + 2 ≤ 100000000 by simp only [List.length_cons, List.length_nil] at hlen; omega))
   have HH := Lib.hid hH
   clear hH hsn hlen hle hpr hp45
   gi_wp2_with (first
    | (refine ⟨trivial, ?_⟩; gi_at_call 39; refine (CallsIn.inRound l (callsIn_wide.2 HH.out)).mono ?_; rintro e w2 ⟨rfl, rfl⟩)
    | (refine ⟨trivial, ?_⟩; gi_at_call 51; refine (CallsIn.inRound l (callsIn_wide.2 (usee HH (H8.out.1.strX (tx p) (by have := HB.out.2; rw [tx_size]; omega))))).mono ?_; rintro e w9 ⟨rfl, h9, f9⟩; have H10 := Lib.hid (And.intro h9 f9); clear h9 f9 HH)
    | (refine ⟨trivial, ?_⟩; gi_at_call 84; refine (CallsIn.inRound l (callsIn_wide.2 (usee H10 (H10.out.1.byteX 10 10 h10 (by have := HB.out.2; rw [List.length_append, bl_tx]; omega))))).mono ?_; rintro e w10 ⟨rfl, h11, f11⟩; rw [HB.out.1] at h11; have H11 := Lib.hid (And.intro h11 (H10.out.2.trans f11)); clear h11 f11 H10))
   exact HFIN.out _ H11.out.1 H11.out.2
 case done =>
  rintro D W hDz ⟨F', h, hm, hw⟩ hDd
  have H9 := Lib.hid (And.intro h (And.intro hDd hw))
  clear hm h hw hDd
  go_wp2_with (go_at_call 52; refine (H9.out.1.string_d H9.out.2.1).mono ?_; rintro e w9 ⟨rfl, hb9, hD9⟩; have H10 := Lib.hid (And.intro hb9 hD9); clear hb9 hD9)
  refine ⟨by simp, .inl ⟨D, _, rfl, run_takeDeferred H10.out.2, ?_⟩⟩
  refine ⟨_, results_tmp2 rfl _ _ _, rfl, ?_⟩
  rw [hb]
  exact Below.putObj (H9.out.2.2.trans H10.out.1) (by have := S7.out.2.2.1; omega) _
open Go.RowKit
def idK (n : Nat) : Id := ⟨UInt8.ofNat n :: List.replicate 31 0, by simp⟩
theorem plOk_of (l : List UInt8) (h : (l.all (fun c => decide (32 ≤ c.toNat) && decide (c.toNat ≤ 126)) && !(Lib.hasPrefix l [32]) && !(Lib.hasSuffix l [32]) && decide (l.length ≤ 200)) = true) : PlOk (tx l) := by
 simp only [Bool.and_eq_true, Bool.not_eq_true', List.all_eq_true, decide_eq_true_eq] at h
 obtain ⟨⟨⟨h1, h2⟩, h3⟩, h4⟩ := h
 refine ⟨fun i hi => h1 _ ?_, by rw [tx_data]; exact h2, by rw [tx_data]; exact h3, by rw [tx_size]; exact h4⟩
 have : (bl (tx l))[i]? = some (tx l)[i] := List.getElem?_eq_getElem (by rw [bl_length]; exact hi)
 rw [bl_tx] at this
 exact List.mem_of_getElem? this
def kx : It := ⟨[65], 0, [], idK 1, [45, 120]⟩
theorem kx_ok : ItOk kx where
 pf := plOk_of _ (by decide +kernel)
 f1 := by decide
 d := by decide
 ps := plOk_of _ (by decide +kernel)
 nf := by unfold nlB kx; decide
 ns := by unfold nlB kx; decide
 id := fun e => absurd (congrArg (fun x : Id => x.1.head?) e) (by decide)
 cr := by decide
 sz := by decide
theorem hdT2 : HdOk [84] 2 where
 pl := plOk_of _ (by decide +kernel)
 h1 := by decide
 h2 := by decide
 n1 := by decide
 n9 := by decide
 nl := by unfold nlB; decide +kernel
 hli := by decide +kernel
 hcu := by decide +kernel
theorem dg_made {w W3 W4 : World} {b4 : Nat} {v0 v1 v2 v3 v4 : Value} (h3 : w.alloc (.cells #[.string ⟨#[]⟩, .int .i64 0, .int .i64 0, .int .i64 0, .slice none 0 0] 39) = W3) (hb : w.heap.size = b4) (h4 : (((((W3.setCell ⟨b4, 0, none⟩ v0).setCell ⟨b4, 1, none⟩ v1).setCell ⟨b4, 2, none⟩ v2).setCell ⟨b4, 3, none⟩ v3).setCell ⟨b4, 4, none⟩ v4) = W4) : Below w.heap.size w W4 ∧ Row W4 b4 [v0, v1, v2, v3, v4] 39 ∧ Row W3 b4 [.string ⟨#[]⟩, .int .i64 0, .int .i64 0, .int .i64 0, .slice none 0 0] 39 := by
 subst h3 hb h4
 have r := Row.new w [.string ⟨#[]⟩, .int .i64 0, .int .i64 0, .int .i64 0, .slice none 0 0] 39
 exact ⟨(((((below_alloc w _).setCell (Nat.le_refl _) _).setCell (Nat.le_refl _) _).setCell (Nat.le_refl _) _).setCell (Nat.le_refl _) _).setCell (Nat.le_refl _) _, ((((r.set 0 _).set 1 _).set 2 _).set 3 _).set 4 _, r⟩
theorem own_it {w : World} {base : Nat} {v : Value} {xs : List It} (h : Own w base 36 36 cIt v xs) (hne : xs ≠ []) : ∃ g c, v = .slice (some ⟨g, 0, none⟩) xs.length c ∧ xs.length ≤ c ∧ base ≤ g ∧ g < w.heap.size ∧ ∀ k u, (xs.flatMap cIt)[k]? = some u → w.cell? ⟨g, k, none⟩ = some u := by
 rcases h.rowOf with ⟨_, e⟩ | ⟨g, c, cs, rfl, hb, hr, hc, hm, hl, ht⟩
 ·exact absurd e hne
 ·refine ⟨g, c, rfl, hc, hb, hr.lt, fun k u hk => ?_⟩
  have hlen : k < xs.length * 36 := by
   have := (List.getElem?_eq_some_iff.1 hk).1
   rwa [flatMap_length cIt 36 cIt_length] at this
  rw [hr.cell, ← hk, ← ht, List.getElem?_take, if_pos hlen]
set_option maxRecDepth 100000 in
set_option maxHeartbeats 3200000 in
theorem known14 (w0 w : World) (hL : Ldz w0 w) : Calls Tryz.prog 14 #[] w fun e w' => e = .returned (.bool true) ∧ Below w.heap.size w w' := by
 have e1 : ∀ u : World, (blA 34 #[(0, .int .u8 1)]).run Tryz.prog u = .ok (vI (idK 1)) u := fun u => by kernel_rfl
 have e2 : ∀ u : World, (blA 36 #[(0, .string ⟨#[65]⟩), (3, vI (idK 1)), (4, .string ⟨#[45, 120]⟩)]).run Tryz.prog u = .ok (vIt kx) u := fun u => by kernel_rfl
 obtain ⟨b1, hb1⟩ : ∃ b, w.heap.size = b := ⟨_, rfl⟩
 obtain ⟨W1, hW1⟩ : ∃ W, w.alloc (.cells (aIts [kx]) 36) = W := ⟨_, rfl⟩
 have bl1 := below_alloc w (.cells (aIts [kx]) 36)
 have sl1 := sl_newIt w kx
 rw [hW1] at bl1 sl1
 rw [hb1] at sl1
 obtain ⟨b2, hb2⟩ : ∃ b, W1.heap.size = b := ⟨_, rfl⟩
 obtain ⟨W2, hW2⟩ : ∃ W, W1.alloc (.cells #[.string ⟨#[]⟩, .int .i64 0, .int .i64 0, .int .i64 0, .slice none 0 0] 39) = W := ⟨_, rfl⟩
 obtain ⟨W3, hW3⟩ : ∃ W, (((((W2.setCell ⟨b2, 0, none⟩ (.string ⟨#[84]⟩)).setCell ⟨b2, 1, none⟩ (.int .i64 1)).setCell ⟨b2, 2, none⟩ (.int .i64 2)).setCell ⟨b2, 3, none⟩ (.int .i64 0)).setCell ⟨b2, 4, none⟩ (.slice (some ⟨b1, 0, none⟩) 1 1)) = W := ⟨_, rfl⟩
 obtain ⟨bl3, r3, r2⟩ := dg_made hW2 hb2 hW3
 have f0 := r2.fz 0
 have f1 := r2.fz 1
 have f2 := r2.fz 2
 have f3 := r2.fz 3
 have f4 := r2.fz 4
 have c0 := r2.cell 0
 have c1 := r2.cell 1
 have c2 := r2.cell 2
 have c3 := r2.cell 3
 have c4 := r2.cell 4
 have S3 := Lib.hid (show Row W3 b2 [.string ⟨#[84]⟩, .int .i64 1, .int .i64 2, .int .i64 0, .slice (some ⟨b1, 0, none⟩) 1 1] 39 ∧ DgM [84] 2 0 ⟨b1, 0, none⟩ 1 [kx] w0 W3 ∧ Below w.heap.size w W3 from
  ⟨r3, ⟨hdT2, by decide, by decide, by decide, by intro x hx; rw [List.mem_singleton.1 hx]; exact kx_ok, by simp, by decide +kernel, sl1.keep bl3, by decide, (hL.keep bl1).keep bl3⟩, Below.step bl1 bl3⟩)
 have HD : Hid (DgOk [84] 2 0 [kx]) := Lib.hid ⟨hdT2, by decide, by decide, by decide, by intro x hx; rw [List.mem_singleton.1 hx]; exact kx_ok, by simp⟩
 have hpr := fun u : World => protect43 [120, 10, 45, 121] u (by decide) (by decide)
 obtain ⟨P, hP⟩ : ∃ P : ByteArray, (⟨#[120, 10, 45, 32, 45, 121, 10]⟩ : ByteArray) = P := ⟨_, rfl⟩
 rw [show tx (lnT ((piecesL [120, 10, 45, 121]).map protL)) = P from hP ▸ (by decide +kernel)] at hpr
 obtain ⟨B, hB⟩ : ∃ B, tx (lnT (dgL [84] 2 0 [kx])) = B := ⟨_, rfl⟩
 have hbu := fun (u : World) (hu : Ldz w0 u) => burst13 w0 u [84] 2 0 [kx] hu HD.out (by decide +kernel)
 have hbd := fun (A4 : Addr) (u : World) (hu : DgM [84] 2 0 A4 1 [kx] w0 u) => bundle8 [84] 2 0 A4 1 [kx] w0 u hu
 rw [hB] at hbu
 simp only [hB] at hbd
 have HC := Lib.hid (And.intro hpr (And.intro hbd hbu))
 clear hpr hbd hbu bl1 bl3 sl1 r2 r3 hL hB HD
 go_enter Tryz.func14, Tryz.ntmps14
 go_wp2_with (first
  | (go_at_call 43; refine (HC.out.1 _).mono ?_; rintro e w4 ⟨rfl, hb4⟩; have S4 := Lib.hid (And.intro (S3.out.1.keep hb4) (And.intro (S3.out.2.1.keep hb4) (Below.step S3.out.2.2 hb4))); have d0 := S4.out.1.cell 0; have d1 := S4.out.1.cell 1; have d2 := S4.out.1.cell 2; have d3 := S4.out.1.cell 3; have d4 := S4.out.1.cell 4; clear hb4)
  | (go_at_call 8; refine (HC.out.2.1 _ _ S4.out.2.1).mono ?_; rintro e w5 ⟨rfl, hb5⟩; have S5 := Lib.hid (And.intro (S4.out.2.1.ldz.keep hb5) (Below.step S4.out.2.2 hb5)); clear hb5)
  | (go_at_call 13; refine (HC.out.2.2 _ S5.out.1).mono ?_; rintro e w6 ⟨v6, rfl, ho6, hb6⟩; obtain ⟨g, c, rfl, hgc, hgb, hgl, hgk⟩ := own_it ho6 (by decide); obtain ⟨b7, hb7⟩ : ∃ b, w6.heap.size = b := ⟨_, rfl⟩; obtain ⟨W7, hW7⟩ : ∃ W, w6.alloc (.cells #[.string ⟨#[]⟩, .int .i64 0, .int .i64 0, .int .i64 0, .slice none 0 0] 39) = W := ⟨_, rfl⟩; obtain ⟨W8, hW8⟩ : ∃ W, (((((W7.setCell ⟨b7, 0, none⟩ (.string (tx [84]))).setCell ⟨b7, 1, none⟩ (.int .i64 1)).setCell ⟨b7, 2, none⟩ (.int .i64 2)).setCell ⟨b7, 3, none⟩ (.int .i64 0)).setCell ⟨b7, 4, none⟩ (.slice (some ⟨g, 0, none⟩) 1 c)) = W := ⟨_, rfl⟩; obtain ⟨bl8, r8, r7⟩ := dg_made hW7 hb7 hW8; have p0 := r7.fz 0; have q0 := r7.cell 0; have p1 := r7.fz 1; have q1 := r7.cell 1; have p2 := r7.fz 2; have q2 := r7.cell 2; have p3 := r7.fz 3; have q3 := r7.cell 3; have p4 := r7.fz 4; have q4 := r7.cell 4; have x4 := r8.cell 4; obtain ⟨Q, hQ⟩ : ∃ Q : ByteArray, (⟨#[45, 120]⟩ : ByteArray) = Q := ⟨_, rfl⟩; have x35 : W8.cell? ⟨g, 35, none⟩ = some (.string Q) := (bl8.cell hgl).trans (hQ ▸ hgk 35 _ rfl); have S8 := Lib.hid (Below.step (Below.step S5.out.2 hb6) bl8); clear hgk hgl hgb hgc bl8 r8 r7 ho6 hb6))
 go_ret
 exact ⟨rfl, S8.out⟩
end Go.Proofs.YtibelollgdnidaaGreatDoor
