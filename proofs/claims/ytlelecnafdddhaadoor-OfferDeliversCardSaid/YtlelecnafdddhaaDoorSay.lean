/- slices.Clone; Sender.Say. -/
import Derived.Test.YtlelecnafdddhaaDoorTr
namespace Go.Proofs.YtlelecnafdddhaaDoor
open Go.RowKit
theorem eql_nil {P : Program} (w : World) (t e : TypeId) (a : Option Addr) (n c : Nat) (h : P.underlying t = some (.slice e)) : (binOp .eql t (.slice a n c) (.slice none 0 0)).run P w = .ok (.bool a.isNone) w := by
  simp only [binOp]
  simp [Op.equal, Op.maxDepth, Lib.run_equalIn_slice_nil w 9999 t e a n c 0 0 h]
@[go_sem] theorem eql84_nil (w : World) (a : Option Addr) (n c : Nat) : (binOp .eql 84 (.slice a n c) (.slice none 0 0)).run Tryd.prog w = .ok (.bool a.isNone) w := eql_nil w 84 86 a n c Tryd.underlying84
theorem Sl.none_ {α : Type} {w : World} {enc : α → List Value} {xs : List α} (h : Sl w enc none xs) : xs = [] := by
  cases xs with
  | nil => rfl
  | cons x xs =>
    obtain ⟨ad, h, _⟩ := h (by simp)
    cases h
set_option maxRecDepth 100000 in
set_option maxHeartbeats 800000 in
theorem clone39 (A : Option Addr) (n c : Nat) (xs : List Art) (w : World) (hn : xs.length = n) (hx : Sl w cA A xs) (hm : n ≤ 100000) :
    Calls Tryd.prog 39 #[.slice A n c] w fun e w' => ∃ A' n' c', e = .returned (.slice A' n' c') ∧ Own w' w.heap.size 86 33 cA (.slice A' n' c') xs ∧ Below w.heap.size w w' := by
  have HX := Lib.hid (And.intro hx (And.intro hn hm))
  cases A with
  | none =>
    have h0 := hx.none_
    subst h0
    clear hx hn hm
    go_enter Tryd.func39, Tryd.ntmps39
    go_wp2
    go_ret
    exact ⟨none, 0, 0, rfl, Own.nil _ _ _ _ _, Below.refl _ _⟩
  | some ad =>
    clear hx hn hm
    go_enter Tryd.func39, Tryd.ntmps39
    go_wp2_with (at_builtin; refine wpList_append_sl _ rfl (.tmp 5) (.tmp 6) 84 rfl w.heap.size 86 33 48 cA Tryd.underlying84 row86 (by decide) cA_length cA_one (.slice (some ⟨w.heap.size, 0, none⟩) 0 0) [] rfl (Own.lit (w := w) cA_length [] (Nat.le_refl _) (by simp)) (some ad) n c xs HX.out.2.1 rfl (HX.out.1.keep (below_alloc w (.cells (aAs []) 86))) (by have := HX.out.2.2; simp; omega) (by have := HX.out.2.2; simp; omega) (by simp) ?_)
    intro v2 w2 ho hg
    have hb := Own.grew (Own.lit (w := w) (e := 86) cA_length [] (Nat.le_refl _) (by simp)) hg (below_alloc w (.cells (aAs []) 86)) (Nat.le_refl _) (by simp)
    have H2 := Lib.hid (And.intro ho hb)
    obtain ⟨A2, c2, rfl, _, _⟩ := ho.sl
    clear ho hg hb
    go_wp2
    go_ret
    exact ⟨A2, xs.length, c2, rfl, H2.out.1, H2.out.2⟩
theorem cSn_set1 (ch : Int) (vw : Value) (st : Int) (a : Art) (q : Option Addr) (vo v : Value) : (cSn ch vw st a q vo).set 1 v = cSn ch v st a q vo := rfl
theorem cSn_set2 (ch : Int) (vw : Value) (st : Int) (a : Art) (q : Option Addr) (vo : Value) (n : Int) : (cSn ch vw st a q vo).set 2 (.int .i64 n) = cSn ch vw n a q vo := rfl
theorem cSn_set36 (ch : Int) (vw : Value) (st : Int) (a : Art) (q p : Option Addr) (vo : Value) : (cSn ch vw st a q vo).set 36 (.pointer p) = cSn ch vw st a p vo := by
  unfold cSn cD
  rw [show (36 : Nat) = 33 + 1 + 1 + 1 from rfl, List.set_cons_succ, List.set_cons_succ, List.set_cons_succ, List.append_assoc, show (33 : Nat) = (cA a).length + 0 by rw [cA_length], set_hi]
  simp
theorem cSn_set37 (ch : Int) (vw : Value) (st : Int) (a : Art) (q : Option Addr) (vo v : Value) : (cSn ch vw st a q vo).set 37 v = cSn ch vw st a q v := by
  unfold cSn
  rw [show (37 : Nat) = 34 + 1 + 1 + 1 from rfl, List.set_cons_succ, List.set_cons_succ, List.set_cons_succ, show (34 : Nat) = (cD a q).length + 0 by rw [cD_length], set_hi]
  rfl
theorem cSn_del (ch : Int) (vw : Value) (st : Int) (a a' : Art) (q q' : Option Addr) (vo : Value) : (cSn ch vw st a q vo).take 3 ++ cD a' q' ++ (cSn ch vw st a q vo).drop (3 + (cD a' q').length) = cSn ch vw st a' q' vo := by
  rw [cD_length]
  unfold cSn
  rw [show (3 + 34 : Nat) = 34 + 1 + 1 + 1 from rfl, List.drop_succ_cons, List.drop_succ_cons, List.drop_succ_cons, List.drop_append_of_le_length (by rw [cD_length]; omega), List.drop_of_length_le (by rw [cD_length]; omega)]
  rfl
/-- The row of a sender behind a store of its delivery. -/
theorem row_del {w : World} {b : Nat} {ch : Int} {vw : Value} {st : Int} {a : Art} {q : Option Addr} {vo : Value} (h : Row w b (cSn ch vw st a q vo) 91) (a' : Art) (q' : Option Addr) : Row (stD w b 3 (cD a' q')) b (cSn ch vw st a' q' vo) 91 := by
  have := h.stD 3 (cD a' q') (by rw [cSn_length, cD_length]; omega)
  rwa [cSn_del] at this
/-- The blocks of a sender after a call that stores into its row alone, with a list that lies in new memory. -/
theorem Rp.moved {b : Nat} {ch : Int} {s s' : St} {F : List Nat} {vw vo v : Value} {q : Option Addr} {w u : World} (h : Rp b ch s F vw vo q w) (ho : Own u w.heap.size 86 33 cA v s'.wait)
    (hrow : Row u b (cSn ch v s'.state s'.cur none vo) 91) (hout : s'.outs = s.outs) (hsnd : s'.snd = none) (hon : Only b w u) : ∃ F', Rep b ch s' F' u ∧ Kp F F' w u := by
  obtain ⟨F', hF1, hF2, hF3⟩ : ∃ F' : List Nat, (∀ k ∈ F, k ∈ F') ∧ (∀ k, v.ownBlock = some k → k ∈ F') ∧ (∀ k, k < w.heap.size → k ∉ F → k ∉ F') := by
    cases hv : v.ownBlock with
    | none => exact ⟨F, fun _ h => h, fun _ e => (by cases e), fun _ _ h => h⟩
    | some g =>
      refine ⟨g :: F, fun _ h => List.mem_cons_of_mem _ h, fun k e => by injection e with e; subst e; simp, fun k hk1 hk2 hm => ?_⟩
      rcases List.mem_cons.1 hm with e | hm
      · have := (ho.lt g hv).1; omega
      · exact hk2 hm
  have hlt := h.row.lt
  refine ⟨F', ⟨v, vo, none, ⟨hrow, ho.mono (Nat.zero_le _), ?_, fun _ => rfl, fun t ht => (by rw [hsnd] at ht; cases ht), hF1 b h.bF, fun k e => ⟨hF2 k e, fun e2 => ?_, fun e2 => ?_⟩, fun k e => ⟨hF1 k (h.oF k e).1, (h.oF k e).2⟩⟩⟩, ⟨hon.os, hon.tape, hon.output, hon.size, fun k hk1 hk2 => ⟨hF3 k hk1 hk2, hon.out k hk1 fun e => hk2 (e ▸ h.bF)⟩⟩⟩
  · rw [hout]
    exact h.oo.same fun k e => hon.out k (h.oo.lt k e).2 (h.oF k e).2
  · have := (ho.lt k e).1; omega
  · have h1 := (ho.lt k e).1
    have h2 := (h.oo.lt k e2).2
    omega
theorem rowA_id {w : World} {g : Nat} {a : Art} (h : Row w g (cA a) 86) : okA w ⟨g, 0, none⟩ 32 = true ∧ rdA w ⟨g, 0, none⟩ 32 = vI a.1 := by
  have := h.at_ (cA_id a)
  have h1 := this.ok
  have h2 := this.rd
  rw [cI_length] at h1 h2
  exact ⟨h1, h2⟩
theorem rowA_all {w : World} {g : Nat} {a : Art} (h : Row w g (cA a) 86) : okA w ⟨g, 0, none⟩ 33 = true ∧ rdA w ⟨g, 0, none⟩ 33 = vA a := by
  have := h.at_ (k := 0) (n := 33) (ds := cA a) (by rw [List.drop_zero, List.take_of_length_le (by rw [cA_length]; omega)])
  have h1 := this.ok
  have h2 := this.rd
  rw [cA_length] at h1 h2
  exact ⟨h1, h2⟩
theorem Only.stD {g : Nat} (w : World) (k : Nat) (ds : List Value) : Only g w (stD w g k ds) :=
  ⟨(setCells_os g ds k w).1, (setCells_os g ds k w).2.1, (setCells_os g ds k w).2.2, Nat.le_of_eq (setCells_size g ds k w).symm, fun j _ hj => heap_stD_other w g k ds j hj⟩
theorem cA_32 (a : Art) : (cA a)[32]? = some (.string a.2) := by
  unfold cA
  rw [List.getElem?_append_right (by rw [cI_length]; omega), cI_length]
  rfl
theorem offer_facts {b : Nat} {ch : Int} {s : St} {F : List Nat} {vw vo : Value} {q : Option Addr} {w w5 : World} (h : Rp b ch s F vw vo q w) (hst : s.state = 0) (x : Id) (t : ByteArray) (v : Value)
    (hb5 : Below ((w.alloc (.cells (aC zC) 45)).alloc (.cells (aA (x, t)) 86)).heap.size ((w.alloc (.cells (aC zC) 45)).alloc (.cells (aA (x, t)) 86)) w5) (U1 U2 U3 : World) (h1 : U1 = w5.setCell ⟨b, 1, none⟩ v) (h2 : U2 = stD U1 b 3 (cD (x, t) none)) (h3 : U3 = U2.setCell ⟨b, 2, none⟩ (.int .i64 1)) :
    (w5.cell? ⟨b, 1, none⟩ = some vw ∧ w5.frozen? ⟨b, 1, none⟩ = false) ∧ (stOk U1 b 3 34 = true ∧ okA U1 ⟨w.heap.size + 1, 0, none⟩ 33 = true ∧ rdA U1 ⟨w.heap.size + 1, 0, none⟩ 33 = vA (x, t)) ∧
    (U2.cell? ⟨b, 2, none⟩ = some (.int .i64 0) ∧ U2.frozen? ⟨b, 2, none⟩ = false) ∧ (okA U3 ⟨w.heap.size + 1, 0, none⟩ 32 = true ∧ rdA U3 ⟨w.heap.size + 1, 0, none⟩ 32 = vI x ∧ U3.cell? ⟨w.heap.size + 1, 32, none⟩ = some (.string t) ∧ rowOk U3 w.heap.size 39 = true) ∧
    Row U3 b (cSn ch v 1 (x, t) none vo) 91 ∧ Row U3 w.heap.size (cC zC) 45 ∧ Only b w U3 ∧ (∀ j, j ≠ b → U3.heap[j]? = w5.heap[j]?) := by
  have hlt := h.row.lt
  have hW2 : Below w.heap.size w ((w.alloc (.cells (aC zC) 45)).alloc (.cells (aA (x, t)) 86)) := Below.step (below_alloc w (.cells (aC zC) 45)) (below_alloc _ (.cells (aA (x, t)) 86))
  have hsz : (w.alloc (.cells (aC zC) 45)).heap.size = w.heap.size + 1 := by simp
  have row5 := h.row.keep (Below.step hW2 hb5)
  rw [hst] at row5
  have rowT5 : Row w5 (w.heap.size + 1) (cA (x, t)) 86 := by
    have := (Row.new (w.alloc (.cells (aC zC) 45)) (cA (x, t)) 86).keep hb5
    rwa [hsz] at this
  have rowR5 : Row w5 w.heap.size (cC zC) 45 := ((Row.new w (cC zC) 45).keep (below_alloc _ (.cells (aA (x, t)) 86))).keep hb5
  have row1 : Row U1 b (cSn ch v 0 s.cur q vo) 91 := by rw [h1]; exact row5.set 1 v
  have row2 : Row U2 b (cSn ch v 0 (x, t) none vo) 91 := by rw [h2]; exact row_del row1 (x, t) none
  have row3 : Row U3 b (cSn ch v 1 (x, t) none vo) 91 := by rw [h3]; exact row2.set 2 (.int .i64 1)
  have o1 : ∀ j, j ≠ b → U1.heap[j]? = w5.heap[j]? := fun j hj => by rw [h1]; exact heap_set_other w5 b 1 v j hj
  have o2 : ∀ j, j ≠ b → U2.heap[j]? = U1.heap[j]? := fun j hj => by rw [h2]; exact heap_stD_other U1 b 3 _ j hj
  have o3 : ∀ j, j ≠ b → U3.heap[j]? = U2.heap[j]? := fun j hj => by rw [h3]; exact heap_set_other U2 b 2 _ j hj
  have rowT1 := rowT5.same (o1 _ (by omega))
  have rowT3 := (rowT1.same (o2 _ (by omega))).same (o3 _ (by omega))
  have rowR3 := ((rowR5.same (o1 _ (by omega))).same (o2 _ (by omega))).same (o3 _ (by omega))
  refine ⟨⟨row5.cell 1, row5.fz 1⟩, ⟨Row.ok _ row1 3 34 (by rw [cSn_length]; omega), rowA_all rowT1⟩, ⟨row2.cell 2, row2.fz 2⟩, ⟨(rowA_id rowT3).1, (rowA_id rowT3).2, (rowT3.cell 32).trans (cA_32 (x, t)), rowR3.rok (cC_length zC)⟩, row3, rowR3, ?_, fun j hj => (o3 j hj).trans ((o2 j hj).trans (o1 j hj))⟩
  subst h3 h2 h1
  exact (((Only.of_below (Below.step hW2 hb5)).trans (Only.setCell b 1 w5 v)).trans (Only.stD _ 3 _)).trans (Only.setCell b 2 _ _)
set_option maxRecDepth 100000 in
set_option maxHeartbeats 1600000 in
theorem say18_offer (b : Nat) (ch : Int) (s : St) (F : List Nat) (x : Id) (t : ByteArray) (r : List Art) (w : World) (h : Rep b ch s F w) (h0 : s.state = 0) (hw : s.wait = (x, t) :: r) (hm : s.wait.length ≤ 100000) :
    Calls Tryd.prog 18 #[.pointer (some ⟨b, 0, none⟩)] w fun e w' => e = .returned (.tuple #[vC ⟨2, ⟨#[]⟩, x, (t.size : Int), 0, 0, 0, ⟨#[]⟩⟩, .bool true]) ∧ ∃ F', Rep b ch ⟨r, 1, (x, t), s.outs, none⟩ F' w' ∧ Kp F F' w w' := by
  obtain ⟨vw, vo, q, h⟩ := h
  have r1 := h.c1
  have r2 := h.c2
  rw [h0] at r2
  have hlt := h.row.lt
  obtain ⟨A, c, hvw, hc, hsl⟩ := h.ow.sl
  rw [hw, List.length_cons] at hvw hc
  rw [hw] at hsl
  obtain ⟨ad, hA, hok, hrd⟩ := Sl.art hsl (k := 0) (by simp)
  subst hA
  have hadlt : ad.block < w.heap.size := by
    obtain ⟨ad', e, hat⟩ := Sl.at_ cA_length hsl (k := 0) (by simp)
    obtain rfl : ad = ad' := by injection e
    have := hat.1
    rwa [block_of_add] at this
  rw [Nat.zero_mul, show ad.add 0 = ad from rfl] at hok hrd
  rw [List.getElem_cons_zero] at hrd
  have hcut := Sl.cut cA_length hsl (c := c) (k := 1) (by rw [List.length_cons]; exact hc)
  rw [List.drop_succ_cons, List.drop_zero] at hcut
  have hrl : r.length ≤ 100000 := by rw [hw, List.length_cons] at hm; omega
  subst hvw
  obtain ⟨n, hn⟩ : ∃ n, r.length = n := ⟨_, rfl⟩
  rw [hn] at r1 hc hrl
  have hc1 : c = 1 → Sl w cA (some ad) r := fun e => by rwa [if_pos e] at hcut
  have hc2 : ¬ c = 1 → Sl w cA (some ⟨ad.block, ad.off + 33, none⟩) r := fun e => by
    rw [if_neg e] at hcut
    rwa [show Option.map (fun x : Addr => x.add (1 * 33)) (some ad) = some ⟨ad.block, ad.off + 33, none⟩ from rfl] at hcut
  have HX := Lib.hid (And.intro h (And.intro hc1 (And.intro hc2 (And.intro hn h0))))
  clear h hsl hcut hw hm h0 hc1 hc2
  have q0 : (0 : Int) < (n : Int) + 1 := by omega
  go_enter Tryd.func18, Tryd.ntmps18
  go_wp2_with (go_at_call 39; refine (clone39 _ n _ r _ HX.out.2.2.2.1 ?_ hrl).mono ?_; (first | exact (HX.out.2.1 (by assumption)).keep (Below.step (below_alloc w (.cells (aC zC) 45)) (below_alloc _ (.cells (aA (x, t)) 86))) | exact (HX.out.2.2.1 (by assumption)).keep (Below.step (below_alloc w (.cells (aC zC) 45)) (below_alloc _ (.cells (aA (x, t)) 86)))); rintro e w5 ⟨A5, n5, c5, rfl, ho5, hb5⟩; obtain ⟨⟨j1, j2⟩, ⟨j3, j4, j5⟩, ⟨j6, j7⟩, ⟨j8, j9, j10, j11⟩, z1, z2, z3, z4⟩ := offer_facts HX.out.1 HX.out.2.2.2.2 x t (.slice A5 n5 c5) hb5 _ _ _ rfl rfl rfl; have HO := Lib.hid (And.intro ho5 (And.intro z1 (And.intro z2 (And.intro z3 z4)))); clear ho5 hb5 z1 z2 z3 z4)
  all_goals
    have ho := HO.out.1
    have hsz : w.heap.size + 2 ≤ ((w.alloc (.cells (aC zC) 45)).alloc (.cells (aA (x, t)) 86)).heap.size := by simp
    exact bodyPost_ret (v := .tuple #[vC ⟨2, ⟨#[]⟩, x, (t.size : Int), 0, 0, 0, ⟨#[]⟩⟩, .bool true]) (results_c2 (ad := ⟨w.heap.size, 0, none⟩) rfl rfl (load_C (HO.out.2.2.1.setRow (ds := cC ⟨2, ⟨#[]⟩, x, (t.size : Int), 0, 0, 0, ⟨#[]⟩⟩))) rfl) rfl
      ⟨rfl, Rp.moved (s' := ⟨r, 1, (x, t), s.outs, none⟩) HX.out.1 ((ho.mono (by omega)).same fun k e => (heap_setRow_other _ _ _ _ (by have := (ho.lt k e).1; omega)).trans (HO.out.2.2.2.2 k (by have := (ho.lt k e).1; omega))) (HO.out.2.1.same (heap_setRow_other _ _ _ _ (by omega))) rfl rfl (HO.out.2.2.2.1.setRow (Nat.le_refl _) _)⟩
end Go.Proofs.YtlelecnafdddhaaDoor
