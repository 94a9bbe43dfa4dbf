/- What offers, wants and data do to a taker, at any identity; how a line of articles fills the lists. -/
import Derived.Test.YtgojaelkdpabkaaGreatDoorTkB
import Derived.Test.YtgojaelkdpabkaaGreatDoorAcc
namespace Go.Proofs.YtgojaelkdpabkaaGreatDoor
open Go.RowKit
section
variable (w : World)
@[go_sem] theorem blC_size (n z : Int) (x : Id) : (blA 32 #[(0, .int .i64 n), (2, vI x), (3, .int .i64 z)]).run Tryz.prog w = .ok (vC ⟨n, ⟨#[]⟩, x, z, 0, 0, 0, ⟨#[]⟩⟩) w := by
  revert x
  refine Id.cases fun a0 a1 a2 a3 a4 a5 a6 a7 a8 a9 a10 a11 a12 a13 a14 a15 a16 a17 a18 a19 a20 a21 a22 a23 a24 a25 a26 a27 a28 a29 a30 a31 => ?_
  kernel_rfl
@[go_sem] theorem blC_from (n f : Int) (x : Id) : (blA 32 #[(0, .int .i64 n), (2, vI x), (4, .int .i64 f)]).run Tryz.prog w = .ok (vC ⟨n, ⟨#[]⟩, x, 0, f, 0, 0, ⟨#[]⟩⟩) w := by
  revert x
  refine Id.cases fun a0 a1 a2 a3 a4 a5 a6 a7 a8 a9 a10 a11 a12 a13 a14 a15 a16 a17 a18 a19 a20 a21 a22 a23 a24 a25 a26 a27 a28 a29 a30 a31 => ?_
  kernel_rfl
@[go_sem] theorem blC_part (n f : Int) (t : ByteArray) (x : Id) : (blA 32 #[(0, .int .i64 n), (2, vI x), (4, .int .i64 f), (7, .string t)]).run Tryz.prog w = .ok (vC ⟨n, ⟨#[]⟩, x, 0, f, 0, 0, t⟩) w := by
  revert x
  refine Id.cases fun a0 a1 a2 a3 a4 a5 a6 a7 a8 a9 a10 a11 a12 a13 a14 a15 a16 a17 a18 a19 a20 a21 a22 a23 a24 a25 a26 a27 a28 a29 a30 a31 => ?_
  kernel_rfl
theorem bl_idB (z : Int) (c : UInt8) (h : z = (c.toNat : Int)) : (blA 30 #[(0, .int .u8 z)]).run Tryz.prog w = .ok (vI (idB c)) w := by
  subst h
  kernel_rfl
theorem bl_idN (i : Nat) (h : i < 200) : (blA 30 #[(0, .int .u8 ((i : Int) + 1))]).run Tryz.prog w = .ok (vI (idB (UInt8.ofNat (i + 1)))) w := bl_idB w _ _ (by rw [UInt8.toNat_ofNat']; omega)
end
/-- A slice of identities of the law's own, beside the taker. -/
def IdsO (w0 : World) (F : List Nat) (w : World) (v : Value) (xs : List Id) : Prop := Own w w0.heap.size 30 32 cI v xs ∧ ∀ k, v.ownBlock = some k → k ∉ F
section
variable {w0 w w' : World} {F F' : List Nat} {v v' : Value} {xs ys : List Id} {b : Nat} {s : Tk}
theorem IdsO.kp (h : IdsO w0 F w v xs) (hk : Kp F F' w w') : IdsO w0 F' w' v xs := ⟨h.1.same fun k e => (hk.out k (Own.lt h.1 k e).2 (h.2 k e)).2, fun k e => (hk.out k (Own.lt h.1 k e).2 (h.2 k e)).1⟩
theorem IdsO.keep (h : IdsO w0 F w v xs) (hb : Below w.heap.size w w') : IdsO w0 F w' v xs := ⟨h.1.keep hb, h.2⟩
theorem TkB.grow (h : TkB w0 b s F w) (ho : IdsO w0 F w v xs) (hg : w.grownBy w' v.ownBlock) (hn : Own w' w0.heap.size 30 32 cI v' ys) (hat : v'.ownBlock = v.ownBlock ∨ v'.ownBlock = some w.heap.size) : TkB w0 b s F w' ∧ IdsO w0 F w' v' ys := by
  have hs : ∀ k ∈ F, w'.heap[k]? = w.heap[k]? := fun k hk => hg.block k (h.lt k hk) (fun e => ho.2 k e.symm hk)
  obtain ⟨va, vk, ht⟩ := h.tk
  refine ⟨⟨⟨va, vk, ht.same hs⟩, h.inv, Own.grew ho.1 hg h.bel (Nat.le_refl _) h.bel.size, h.low, fun k hk => Nat.lt_of_lt_of_le (h.lt k hk) hg.size⟩, hn, fun k e => ?_⟩
  rcases hat with h1 | h1
  · exact ho.2 k (h1 ▸ e)
  · rw [h1] at e
    cases e
    exact fun hm => Nat.lt_irrefl _ (h.lt _ hm)
end
def offC (x : Id) (z : Int) : Cm := ⟨2, ⟨#[]⟩, x, z, 0, 0, 0, ⟨#[]⟩⟩
def wantC (x : Id) (f : Int) : Cm := ⟨3, ⟨#[]⟩, x, 0, f, 0, 0, ⟨#[]⟩⟩
def dataC (x : Id) (f : Int) (t : ByteArray) : Cm := ⟨7, ⟨#[]⟩, x, 0, f, 0, 0, t⟩
def doneC (x : Id) : Cm := ⟨8, ⟨#[]⟩, x, 0, 0, 0, 0, ⟨#[]⟩⟩
theorem psC_noname (v : Int) (x : Id) (z f n e : Int) (t : ByteArray) (hx : x ≠ zI) : psC ⟨v, ⟨#[]⟩, x, z, f, n, e, t⟩ = psL false true (z != 0) (f != 0) (n != 0) (e != 0) (!t.toList.isEmpty) := by
  unfold psC
  rw [decide_eq_false hx]
  simp only [isE]
  rfl
theorem chkF_ok {c : Cm} {fl most : Int} (h1 : bits BinOp.andNot .i64 (orL (psC c)) fl = 0) (h2 : bits BinOp.and .i64 fl 1 = 0) (h3 : c.id ≠ zI) (h4 : (rgs c).all (okR fl) = true) (h5 : bits BinOp.and .i64 fl 64 = 0) : chkF c fl most = 0 := by
  unfold chkF
  rw [if_neg (by rw [h1]; decide), if_neg (by rw [h2]; simp), if_neg (by rw [decide_eq_false h3]; simp), if_neg (by rw [h4]; decide), if_pos (by rw [h5]; rfl)]
theorem chk_off (x : Id) (z : Int) (hx : x ≠ zI) (h1 : 1 ≤ z) (h2 : z ≤ 65536) : chk (offC x z) = 0 := by
  rw [chk_form (offC x z) 2 rfl (by decide) (by decide)]
  refine chkF_ok (fl := 6) ?_ (by decide) hx ?_ (by decide)
  · show bits BinOp.andNot .i64 (orL (psC ⟨2, ⟨#[]⟩, x, z, 0, 0, 0, ⟨#[]⟩⟩)) 6 = 0
    rw [psC_noname _ _ _ _ _ _ _ hx, show (z != 0) = true by simpa using (by omega : z ≠ 0)]
    decide +kernel
  · show ([(4, z, 1, 65536), (8, 0, 0, 65536), (16, 0, 1, 1000), (32, 0, 1, 99)] : List Rg).all (okR 6) = true
    have e1 : okR 6 (8, 0, 0, 65536) = true := by decide
    have e2 : okR 6 (16, 0, 1, 1000) = true := by decide
    have e3 : okR 6 (32, 0, 1, 99) = true := by decide
    have e4 : okR 6 (4, z, 1, 65536) = true := by unfold okR; simp [h1, h2]
    simp only [List.all_cons, List.all_nil, e1, e2, e3, e4, Bool.and_true]
theorem chk_want (x : Id) (f : Int) (hx : x ≠ zI) (h1 : 0 ≤ f) (h2 : f ≤ 65536) : chk (wantC x f) = 0 := by
  rw [chk_form (wantC x f) 3 rfl (by decide) (by decide)]
  refine chkF_ok (fl := 10) ?_ (by decide) hx ?_ (by decide)
  · show bits BinOp.andNot .i64 (orL (psC ⟨3, ⟨#[]⟩, x, 0, f, 0, 0, ⟨#[]⟩⟩)) 10 = 0
    rw [psC_noname _ _ _ _ _ _ _ hx]
    cases (f != 0) <;> decide +kernel
  · show ([(4, 0, 1, 65536), (8, f, 0, 65536), (16, 0, 1, 1000), (32, 0, 1, 99)] : List Rg).all (okR 10) = true
    have e1 : okR 10 (4, 0, 1, 65536) = true := by decide
    have e2 : okR 10 (16, 0, 1, 1000) = true := by decide
    have e3 : okR 10 (32, 0, 1, 99) = true := by decide
    have e4 : okR 10 (8, f, 0, 65536) = true := by unfold okR; simp [h1, h2]
    simp only [List.all_cons, List.all_nil, e1, e2, e3, e4, Bool.and_true]
theorem chk_data (x : Id) (f : Int) (t : ByteArray) (hx : x ≠ zI) (h1 : 0 ≤ f) (h2 : f ≤ 65536) (ht : t.toList.isEmpty = false) (hz : (t.size : Int) ≤ 4096) (hr : crL t = false) : chk (dataC x f t) = 0 := by
  rw [chk_form (dataC x f t) 7 rfl (by decide) (by decide)]
  show chkF (dataC x f t) 74 4096 = 0
  unfold chkF
  have e0 : psC (dataC x f t) = psL false true false (f != 0) false false true := by
    show psC ⟨7, ⟨#[]⟩, x, 0, f, 0, 0, t⟩ = _
    rw [psC_noname _ _ _ _ _ _ _ hx, ht]
    rfl
  have e5 : (rgs (dataC x f t)).all (okR 74) = true := by
    show ([(4, 0, 1, 65536), (8, f, 0, 65536), (16, 0, 1, 1000), (32, 0, 1, 99)] : List Rg).all (okR 74) = true
    have e1 : okR 74 (4, 0, 1, 65536) = true := by decide
    have e2 : okR 74 (16, 0, 1, 1000) = true := by decide
    have e3 : okR 74 (32, 0, 1, 99) = true := by decide
    have e4 : okR 74 (8, f, 0, 65536) = true := by unfold okR; simp [h1, h2]
    simp only [List.all_cons, List.all_nil, e1, e2, e3, e4, Bool.and_true]
  rw [e0, if_neg (by cases (f != 0) <;> decide +kernel), if_neg (by rw [show bits BinOp.and .i64 74 1 = 0 by decide]; simp), if_neg (by rw [show (dataC x f t).id = x from rfl, decide_eq_false hx]; decide), if_neg (by rw [e5]; decide), if_neg (by decide)]
  show (if t.toList.isEmpty = true then 1 else if 4096 < (t.size : Int) then 5 else if _ then _ else _) = (0 : Int)
  rw [ht, if_neg (by decide), if_neg (by omega)]
  show (if crL t = true then _ else _) = (0 : Int)
  rw [hr]
  rfl
theorem chk_done (x : Id) (hx : x ≠ zI) : chk (doneC x) = 0 := by
  rw [chk_form (doneC x) 8 rfl (by decide) (by decide)]
  refine chkF_ok (fl := 2) ?_ (by decide) hx (by show ([(4, 0, 1, 65536), (8, 0, 0, 65536), (16, 0, 1, 1000), (32, 0, 1, 99)] : List Rg).all (okR 2) = true; decide) (by decide)
  show bits BinOp.andNot .i64 (orL (psC ⟨8, ⟨#[]⟩, x, 0, 0, 0, 0, ⟨#[]⟩⟩)) 2 = 0
  rw [psC_noname _ _ _ _ _ _ _ hx]
  decide +kernel
theorem answerT_want {s : Tk} {c : Cm} {k : Nat} (hc : chk c = 0) (hv : c.verb = 3) (hp : posL s.act c.id = some k) (h1 : (ptK s.act k).state = 1) (hf : c.from_ = 0 ∨ c.from_ = gotL s.kept c.id) :
    answerT s c = (⟨s.win, s.opn, s.act.set k (wantP s c k), withoutL s.kept c.id⟩, c, 0) := by
  unfold answerT
  rw [if_neg (by rw [hc]; decide), if_neg (by omega), hp]
  dsimp only
  rw [if_neg (by rw [h1]; decide), if_neg (by omega), if_pos hv]
theorem dataT_yes {s : Tk} {c : Cm} {k : Nat} (hp : rcvL s.act c.id = some k) (hf : c.from_ = (ptK s.act k).bytes.size) (hs : ¬ (ptK s.act k).size < (ptK s.act k).bytes.size + c.text.size) :
    dataT s c = ({ s with act := s.act.set k (addB (ptK s.act k) c.text) }, 0) := by
  unfold dataT
  rw [hp]
  dsimp only
  rw [if_neg (by rw [hf]; exact fun h => h rfl), if_neg hs]
section
variable {W : Int} {A K : List Pt} {x : Id} {z f : Int} {t e : ByteArray}
theorem pos_last (h : posL A x = none) (p : Pt) (hp : p.id = x) : posL (A ++ [p]) x = some A.length :=
  pos_hit (by rw [List.length_append]; exact Nat.lt_succ_self _) (fun j hj => by rw [List.getElem_append_left hj]; exact pos_none' h _ (List.getElem_mem hj)) (by simpa using hp)
theorem ptK_last (p : Pt) : ptK (A ++ [p]) A.length = p := by rw [ptK_eq (by rw [List.length_append]; exact Nat.lt_succ_self _)]; simp
theorem set_last (p q : Pt) : (A ++ [p]).set A.length q = A ++ [q] := by rw [List.set_append_right _ _ (Nat.le_refl _), Nat.sub_self]; rfl
theorem hear_off (hx : x ≠ zI) (h1 : 1 ≤ z) (h2 : z ≤ 65536) (ha : posL A x = none) (hw : (A.length : Int) < W) (hk : ∀ k (hk : k < K.length), posL K x = some k → K[k].size = z) : hearT ⟨W, true, A, K⟩ (offC x z) = (⟨W, true, A ++ [(⟨x, z, 1, ⟨#[]⟩⟩ : Pt)], K⟩, [(x, z, gotL K x)], [], 0) := by
  unfold hearT
  rw [if_neg (show ¬ (true = false) by decide), if_neg (by rw [chk_off x z hx h1 h2]; decide), if_pos (show (offC x z).verb = 2 from rfl)]
  have ho : offK ⟨W, true, A, K⟩ (offC x z) = K := by
    show (match posL K x with | some k => if (ptK K k).size = z then K else withoutL K x | none => K) = K
    cases hp : posL K x with
    | none => rfl
    | some k =>
      obtain ⟨hk2, _, _⟩ := pos_some hp
      show (if (ptK K k).size = z then K else withoutL K x) = K
      rw [ptK_eq hk2, if_pos (hk k hk2 hp)]
  have e1 : offerT ⟨W, true, A, K⟩ (offC x z) = (⟨W, true, A ++ [(⟨x, z, 1, ⟨#[]⟩⟩ : Pt)], K⟩, [(x, z, gotL K x)], 0) := by
    unfold offerT
    show (match posL A x with | some _ => _ | none => _) = _
    rw [ha]
    show (if W ≤ (A.length : Int) then _ else ((⟨W, true, A ++ [newP (offC x z)], offK ⟨W, true, A, K⟩ (offC x z)⟩ : Tk), [(x, z, gotL (offK ⟨W, true, A, K⟩ (offC x z)) x)], 0)) = _
    rw [if_neg (by omega), ho]
    rfl
  rw [e1]
theorem answer_want {o : Bool} {r : ByteArray} (hx : x ≠ zI) (h1 : 0 ≤ f) (h2 : f ≤ 65536) (ha : posL A x = none) (hf : f = 0 ∨ f = gotL K x) (hr : r = if 0 < f then (match posL K x with | some j => (ptK K j).bytes | none => ⟨#[]⟩) else ⟨#[]⟩) :
    answerT ⟨W, o, A ++ [(⟨x, z, 1, ⟨#[]⟩⟩ : Pt)], K⟩ (wantC x f) = (⟨W, o, A ++ [⟨x, z, 2, r⟩], withoutL K x⟩, wantC x f, 0) := by
  have hp := pos_last ha ⟨x, z, 1, ⟨#[]⟩⟩ rfl
  have hw : wantP ⟨W, o, A ++ [(⟨x, z, 1, ⟨#[]⟩⟩ : Pt)], K⟩ (wantC x f) A.length = ⟨x, z, 2, r⟩ := by
    unfold wantP
    show (⟨(ptK (A ++ [(⟨x, z, 1, ⟨#[]⟩⟩ : Pt)]) A.length).id, (ptK (A ++ [(⟨x, z, 1, ⟨#[]⟩⟩ : Pt)]) A.length).size, 2, if 0 < f then (match posL K x with | some j => (ptK K j).bytes | none => ⟨#[]⟩) else (ptK (A ++ [(⟨x, z, 1, ⟨#[]⟩⟩ : Pt)]) A.length).bytes⟩ : Pt) = _
    rw [ptK_last, hr]
  rw [answerT_want (k := A.length) (by exact chk_want x f hx h1 h2) rfl hp (by show (ptK (A ++ [(⟨x, z, 1, ⟨#[]⟩⟩ : Pt)]) A.length).state = 1; rw [ptK_last]) hf, hw]
  show ((⟨W, o, (A ++ [(⟨x, z, 1, ⟨#[]⟩⟩ : Pt)]).set A.length ⟨x, z, 2, r⟩, withoutL K x⟩ : Tk), wantC x f, (0 : Int)) = _
  rw [set_last]
theorem hear_data {o : Bool} (ho : o = true) (hx : x ≠ zI) (ha : posL A x = none) (hf : f = (e.size : Int)) (h2 : f ≤ 65536) (hs : (e.size : Int) + t.size ≤ z) (ht : t.toList.isEmpty = false) (hz : (t.size : Int) ≤ 4096) (hr : crL t = false) :
    hearT ⟨W, o, A ++ [(⟨x, z, 2, e⟩ : Pt)], K⟩ (dataC x f t) = (⟨W, o, A ++ [⟨x, z, 2, e ++ t⟩], K⟩, [], [], 0) := by
  subst ho
  unfold hearT
  rw [if_neg (show ¬ (true = false) by decide), if_neg (by rw [chk_data x f t hx (by omega) h2 ht hz hr]; decide), if_neg (show ¬ ((dataC x f t).verb = 2) by show ¬ ((7 : Int) = 2); decide), if_pos (show (dataC x f t).verb = 7 from rfl)]
  have hp := rcv_yes (pos_last ha ⟨x, z, 2, e⟩ rfl) (by rw [List.length_append]; exact Nat.lt_succ_self _) (by simp)
  have e1 : dataT ⟨W, true, A ++ [(⟨x, z, 2, e⟩ : Pt)], K⟩ (dataC x f t) = (⟨W, true, A ++ [⟨x, z, 2, e ++ t⟩], K⟩, 0) := by
    rw [dataT_yes (k := A.length) hp (by show f = ((ptK (A ++ [(⟨x, z, 2, e⟩ : Pt)]) A.length).bytes.size : Int); rw [ptK_last]; exact hf) (by show ¬ (ptK (A ++ [(⟨x, z, 2, e⟩ : Pt)]) A.length).size < ((ptK (A ++ [(⟨x, z, 2, e⟩ : Pt)]) A.length).bytes.size : Int) + (t.size : Int); rw [ptK_last]; show ¬ z < (e.size : Int) + (t.size : Int); omega)]
    show ((⟨W, true, (A ++ [(⟨x, z, 2, e⟩ : Pt)]).set A.length (addB (ptK (A ++ [(⟨x, z, 2, e⟩ : Pt)]) A.length) t), K⟩ : Tk), (0 : Int)) = _
    rw [ptK_last, set_last]
    rfl
  rw [e1]
end
/-- The identity of an article by its number. -/
def idN (j : Nat) : Id := idB (UInt8.ofNat (j + 1))
theorem idN_ne {j : Nat} (h : j < 200) : idN j ≠ zI := idB_ne _ (fun e => by
  have := congrArg UInt8.toNat e
  rw [UInt8.toNat_ofNat', UInt8.toNat_zero] at this
  omega)
theorem idN_inj {i j : Nat} (hi : i < 200) (hj : j < 200) (h : idN i = idN j) : i = j := by
  have h1 := congrArg (fun x : Id => x.1.head?) h
  simp only [idN, idB, List.head?_cons, Option.some.injEq] at h1
  have := congrArg UInt8.toNat h1
  rw [UInt8.toNat_ofNat', UInt8.toNat_ofNat'] at this
  omega
def abT : ByteArray := ⟨#[97, 98]⟩
def P2 (j : Nat) : Pt := ⟨idN j, 5, 2, abT⟩
def P4 (j : Nat) : Pt := ⟨idN j, 5, 4, abT⟩
def mkA (a i : Nat) : List Pt := (List.range' a (i - a)).map P2
def mkK (a : Nat) : List Pt := ((List.range a).map P4).drop (a - 8)
def stO (W : Int) (a i : Nat) : Tk := ⟨W, decide (a < i), mkA a i, mkK a⟩
theorem mem_mkA {a i : Nat} {p : Pt} (h : p ∈ mkA a i) : ∃ j, j < i ∧ a ≤ j ∧ p = P2 j := by
  obtain ⟨j, hj, rfl⟩ := List.mem_map.1 h
  rw [List.mem_range'_1] at hj
  exact ⟨j, by omega, hj.1, rfl⟩
theorem mem_mkK {a : Nat} {p : Pt} (h : p ∈ mkK a) : ∃ j, j < a ∧ p = P4 j := by
  obtain ⟨j, hj, rfl⟩ := List.mem_map.1 (List.mem_of_mem_drop h)
  exact ⟨j, List.mem_range.1 hj, rfl⟩
theorem posA_no {a i k : Nat} (hk : k < 200) (hi : i ≤ k) : posL (mkA a i) (idN k) = none := pos_none fun j hj e => by
  obtain ⟨q, h1, h2, h3⟩ := mem_mkA (List.getElem_mem hj)
  rw [h3] at e
  have := idN_inj (by omega) hk e
  omega
theorem posK_no {a k : Nat} (hk : k < 200) (hi : a ≤ k) : posL (mkK a) (idN k) = none := pos_none fun j hj e => by
  obtain ⟨q, h1, h3⟩ := mem_mkK (List.getElem_mem hj)
  rw [h3] at e
  have := idN_inj (by omega) hk e
  omega
theorem mkA_len (a i : Nat) : (mkA a i).length = i - a := by unfold mkA; rw [List.length_map, List.length_range']
theorem mkA_succ {a i : Nat} (h : a ≤ i) : mkA a (i + 1) = mkA a i ++ [P2 i] := by
  unfold mkA
  rw [show i + 1 - a = (i - a) + 1 by omega, List.range'_concat, List.map_append]
  congr 2
  rw [Nat.one_mul, show a + (i - a) = i by omega]
  rfl
theorem mkK_len (a : Nat) : (mkK a).length = min a 8 := by unfold mkK; rw [List.length_drop, List.length_map, List.length_range]; omega
theorem keep_mk {a : Nat} (h : a < 200) : keepP (mkK a) (P2 a) = mkK (a + 1) := by
  unfold keepP
  rw [if_neg (by show ¬ ((2 : Int) ≠ 2 ∨ abT.size = 0); decide)]
  unfold keepQ
  have h0 : withoutL (mkK a) (idN a) = mkK a := without_none (posK_no h (Nat.le_refl _))
  have h1 : withoutL (mkK a) (P2 a).id ++ [{ P2 a with state := 4 }] = ((List.range (a + 1)).map P4).drop (a - 8) := by
    show withoutL (mkK a) (idN a) ++ [P4 a] = _
    rw [h0, List.range_succ, List.map_append, List.drop_append_of_le_length (by rw [List.length_map, List.length_range]; omega)]
    rfl
  dsimp only
  rw [h1, List.length_drop, List.length_map, List.length_range]
  unfold mkK
  split
  · rw [List.drop_drop]
    congr 1
    omega
  · congr 1
    omega
theorem fold_mk : ∀ (n a : Nat), a + n < 200 → ((List.range' a n).map P2).foldl keepP (mkK a) = mkK (a + n)
  | 0, _, _ => rfl
  | n + 1, a, h => by
    rw [List.range'_succ, List.map_cons, List.foldl_cons, keep_mk (by omega), fold_mk n (a + 1) (by omega)]
    congr 1
    omega
theorem drop_mk {W : Int} {a i : Nat} (h : a < i) (hi : i < 200) : dropT (stO W a i) = (stO W i i, 0) := by
  unfold dropT
  rw [if_pos (show (stO W a i).opn = true from decide_eq_true h)]
  have h1 := fold_mk (i - a) a (by omega)
  rw [show a + (i - a) = i by omega] at h1
  show ((⟨W, false, [], (mkA a i).foldl keepP (mkK a)⟩ : Tk), (0 : Int)) = (⟨W, decide (i < i), mkA i i, mkK i⟩, 0)
  unfold mkA
  rw [h1, decide_eq_false (Nat.lt_irrefl i), Nat.sub_self]
  rfl
end Go.Proofs.YtgojaelkdpabkaaGreatDoor
