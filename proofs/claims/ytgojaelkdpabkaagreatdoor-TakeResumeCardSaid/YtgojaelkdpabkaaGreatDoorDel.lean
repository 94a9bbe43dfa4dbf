/- Slices of the call's own: one element stored, the slice cut, what lies behind it cleared. take.find and the function values; slices.IndexFunc. slices.DeleteFunc by an identity; take.without. -/
import Derived.Test.YtgojaelkdpabkaaGreatDoorTyT
import Derived.Lib.SliceRun
namespace Go.Proofs.YtgojaelkdpabkaaGreatDoor
section
open Go.RowKit
section
variable {α : Type} {w : World} {base : Nat} {e : TypeId} {s : Nat} {enc : α → List Value} {v : Value} {xs : List α}
theorem Own.rowOf (h : Own w base e s enc v xs) : (v = .slice none 0 0 ∧ xs = []) ∨ ∃ g c cs, v = .slice (some ⟨g, 0, none⟩) xs.length c ∧ base ≤ g ∧ Row w g cs e ∧ xs.length ≤ c ∧ c ≤ maxLen ∧ cs.length = c * s ∧ cs.take (xs.length * s) = xs.flatMap enc := by
  rcases h.2 with ⟨h1, h2⟩ | ⟨g, c, cur, h1, h2, h3, h4, h5, h6, h7⟩
  · exact Or.inl ⟨h1, List.eq_nil_of_length_eq_zero h2⟩
  · refine Or.inr ⟨g, c, cur.toList, h1, h2, ?_, h4, h5, by simpa using h6, h7⟩
    unfold Row
    simpa using h3
theorem Own.ofRow {g c : Nat} {cs : List Value} (hs : ∀ x, (enc x).length = s) (hb : base ≤ g) (hr : Row w g cs e) (hc : xs.length ≤ c) (hm : c ≤ maxLen) (hl : cs.length = c * s) (ht : cs.take (xs.length * s) = xs.flatMap enc) : Own w base e s enc (.slice (some ⟨g, 0, none⟩) xs.length c) xs := by
  refine ⟨flatMap_length enc s hs xs, Or.inr ⟨g, c, cs.toArray, rfl, hb, hr, hc, hm, by simpa using hl, by simpa using ht⟩⟩
theorem flatMap_set (hs : ∀ x, (enc x).length = s) (x : α) : ∀ (xs : List α) (i : Nat), i < xs.length → (xs.set i x).flatMap enc = (xs.flatMap enc).take (i * s) ++ enc x ++ (xs.flatMap enc).drop (i * s + s)
  | [], i, h => absurd h (Nat.not_lt_zero _)
  | y :: r, 0, _ => by
    have := hs y
    simp [List.flatMap_cons, this]
  | y :: r, i + 1, h => by
    have hy := hs y
    have ih := flatMap_set hs x r i (by simpa using h)
    rw [List.set_cons_succ, List.flatMap_cons, ih, List.flatMap_cons]
    have e1 : (i + 1) * s = (enc y).length + i * s := by rw [hy, Nat.succ_mul]; omega
    rw [e1, List.take_length_add_append, show (enc y).length + i * s + s = (enc y).length + (i * s + s) by omega, List.drop_length_add_append]
    simp
/-- One element stored. -/
theorem Own.store (h : Own w base e s enc v xs) (hs : ∀ x, (enc x).length = s) (i : Nat) (hi : i < xs.length) (x : α) : ∃ g c, v = .slice (some ⟨g, 0, none⟩) xs.length c ∧ xs.length ≤ c ∧ base ≤ g ∧ stOk w g (i * s) s = true ∧ Own (stD w g (i * s) (enc x)) base e s enc v (xs.set i x) ∧ One g w (stD w g (i * s) (enc x)) := by
  rcases h.rowOf with ⟨_, rfl⟩ | ⟨g, c, cs, rfl, hb, hr, hc, hm, hl, ht⟩
  · simp at hi
  · have hle : i * s + s ≤ xs.length * s := by
      have : (i + 1) * s ≤ xs.length * s := Nat.mul_le_mul_right _ hi
      rwa [Nat.succ_mul] at this
    have hle2 : xs.length * s ≤ c * s := Nat.mul_le_mul_right _ hc
    refine ⟨g, c, rfl, hc, hb, Row.ok w hr (i * s) s (by omega), ?_, One.stD _ _⟩
    have hr2 := hr.stD (i * s) (enc x) (by rw [hs]; omega)
    have hlen : (xs.set i x).length = xs.length := List.length_set
    rw [hs] at hr2
    have := Own.ofRow (xs := xs.set i x) hs hb hr2 (by rw [hlen]; exact hc) hm (by
      simp only [List.length_append, List.length_take, List.length_drop, hs]
      omega) (by
      rw [hlen, flatMap_set hs x xs i hi, ← ht]
      have e1 : (cs.take (i * s)).length = i * s := by rw [List.length_take]; omega
      have t1 : (cs.take (i * s)).take (xs.length * s) = cs.take (i * s) := by rw [List.take_take, Nat.min_eq_right (by omega)]
      have t2 : (enc x).take (xs.length * s - i * s) = enc x := List.take_of_length_le (by rw [hs]; omega)
      have t3 : (cs.take (xs.length * s)).take (i * s) = cs.take (i * s) := by rw [List.take_take, Nat.min_eq_left (by omega)]
      have t4 : (cs.take (xs.length * s)).drop (i * s + s) = (cs.drop (i * s + s)).take (xs.length * s - (i * s + s)) := List.drop_take
      rw [List.append_assoc, List.take_append, e1, t1, List.take_append, hs, t2, t3, t4, List.append_assoc, Nat.sub_sub])
    rwa [hlen] at this
/-- The slice cut. -/
theorem Own.cut (h : Own w base e s enc v xs) (hs : ∀ x, (enc x).length = s) {A : Option Addr} {n c : Nat} (hv : v = .slice A n c) (i : Nat) (hi : i ≤ xs.length) : Own w base e s enc (.slice A i c) (xs.take i) := by
  rcases h.rowOf with ⟨h1, rfl⟩ | ⟨g, c2, cs, h1, hb, hr, hc, hm, hl, ht⟩
  · rw [h1] at hv
    cases hv
    obtain rfl : i = 0 := by simpa using hi
    exact Own.nil _ _ _ _ _
  · rw [h1] at hv
    cases hv
    have hlen : (xs.take i).length = i := by rw [List.length_take]; omega
    have := Own.ofRow (xs := xs.take i) hs hb hr (by omega) hm hl (by
      rw [hlen]
      have e1 := congrArg (List.take (i * s)) ht
      rw [List.take_take, Nat.min_eq_left (Nat.mul_le_mul_right _ hi)] at e1
      rw [e1]
      conv => lhs; rw [← List.take_append_drop i xs, List.flatMap_append]
      rw [List.take_left' (by rw [flatMap_length enc s hs, hlen])])
    rwa [hlen] at this
/-- What lies behind the slice turns. -/
theorem Own.behind (h : Own w base e s enc v xs) (hs : ∀ x, (enc x).length = s) {g n c : Nat} (hv : v = .slice (some ⟨g, 0, none⟩) n c) (k : Nat) (hk : xs.length * s ≤ k) (ds : List Value) (hd : k + ds.length ≤ c * s) : Own (stD w g k ds) base e s enc v xs := by
  rcases h.rowOf with ⟨h1, rfl⟩ | ⟨g2, c2, cs, h1, hb, hr, hc, hm, hl, ht⟩
  · rw [h1] at hv
    cases hv
  · rw [h1] at hv
    cases hv
    rw [h1]
    refine Own.ofRow hs hb (hr.stD k ds (by omega)) hc hm ?_ ?_
    · simp only [List.length_append, List.length_take, List.length_drop]
      omega
    · rw [List.append_assoc, List.take_append, List.take_take, Nat.min_eq_left hk, List.length_take, show xs.length * s - min k cs.length = 0 by omega, List.take_zero, List.append_nil, ht]
end
theorem zeroCells_size (z : Array Value) (n : Nat) : (Builtin.zeroCells z n).size = n * z.size := by
  simp [Builtin.zeroCells]
/-- clear of a slice of rows. -/
theorem run_clear_row {P : Program} (w : World) (t e : TypeId) (i : TypeInfo) (z : Value) (s : Nat) (ht : P.underlying t = some (.slice e)) (hi : P.info? e = some i) (hz : i.zero = some z) (hzs : z.cells.size = s) (h1 : ∀ u ∈ z.cells.toList, u.oneCell' = true)
    {b o n c : Nat} {cs : List Value} {t2 : TypeId} (hr : Row w b cs t2) (ho : o + n * s ≤ cs.length) :
    ∃ ds, ds.length = n * s ∧ ∀ ty, (Builtin.clear_ #[t] ty #[.slice (some ⟨b, o, none⟩) n c]).run P w = .ok (.tuple #[]) (stD w b o ds) := by
  have hv : ∀ w, (zeroValue e).run P w = .ok z w := by
    intro w
    simp [zeroValue, typeInfo, hi, hz]
  rcases Nat.eq_zero_or_pos n with rfl | hn
  · refine ⟨[], by simp, fun ty => ?_⟩
    simp [Builtin.clear_, run_underlying ht, stD, World.setCells]
  · refine ⟨(Builtin.zeroCells z.cells n).toList, by rw [Array.length_toList, zeroCells_size, hzs], fun ty => ?_⟩
    have hl : (Builtin.zeroCells z.cells n).toList.length = n * s := by rw [Array.length_toList, zeroCells_size, hzs]
    have hst := run_storeCells_cells (P := P) b o (Builtin.zeroCells z.cells n).toList 0 w (fun j hj => by
      rw [hr.cell, Nat.add_zero, List.getElem?_eq_getElem (by omega)]; rfl) (fun j hj => hr.fz _) (fun u hu => ?_)
    · simp only [Nat.add_zero] at hst
      obtain ⟨m, rfl⟩ : ∃ m, n = m + 1 := ⟨n - 1, by omega⟩
      simp [Builtin.clear_, run_underlying ht, hv, hst, stD]
    · simp [Builtin.zeroCells] at hu
      obtain ⟨j, hj, rfl⟩ := hu
      refine h1 _ ?_
      rw [getElem!_pos z.cells _ (Nat.mod_lt _ (by
        rcases Nat.eq_zero_or_pos z.cells.size with h0 | h0
        · rw [h0] at hj
          omega
        · exact h0))]
      exact Array.getElem_mem_toList _
theorem clear_parts {w : World} {b o n c : Nat} {cs : List Value} {t2 : TypeId} (hr : Row w b cs t2) (ho : o + n * 35 ≤ cs.length) : ∃ ds, ds.length = n * 35 ∧ ∀ ty, (Builtin.clear_ #[78] ty #[.slice (some ⟨b, o, none⟩) n c]).run Tryz.prog w = .ok (.tuple #[]) (stD w b o ds) := by
  have hk : (Tryz.prog.info? 86).map (fun i => (i.zero, i.size)) = some (some (vA zA), 35) := by kernel_rfl
  cases hq : Tryz.prog.info? 86 with
  | none => rw [hq] at hk; cases hk
  | some i =>
    rw [hq] at hk
    simp only [Option.map_some, Option.some.injEq, Prod.mk.injEq] at hk
    exact run_clear_row (P := Tryz.prog) w 78 86 i (vA zA) 35 underPAs hq hk.1 (by simp [vA, Value.cells, cA_length]) (by simpa [vA, Value.cells] using cA_one zA) hr ho
end
section
open Go.RowKit
def posL (l : List Pt) (x : Id) : Option Nat := l.findIdx? (fun p => decide (p.id = x))
def idxL (l : List Pt) (x : Id) : Int := match posL l x with | some k => (k : Int) | none => -1
theorem pos_hit {l : List Pt} {x : Id} {k : Nat} (hk : k < l.length) (h : ∀ j (hj : j < k), l[j].id ≠ x) (hx : l[k].id = x) : posL l x = some k := by
  unfold posL
  rw [List.findIdx?_eq_some_iff_getElem]
  exact ⟨hk, by simpa using hx, fun j hj => by simpa using h j hj⟩
theorem pos_none {l : List Pt} {x : Id} (h : ∀ j (hj : j < l.length), l[j].id ≠ x) : posL l x = none := by
  unfold posL
  rw [List.findIdx?_eq_none_iff]
  intro p hp
  obtain ⟨j, hj, rfl⟩ := List.getElem_of_mem hp
  simpa using h j hj
theorem pos_some {l : List Pt} {x : Id} {k : Nat} (h : posL l x = some k) : ∃ hk : k < l.length, l[k].id = x ∧ ∀ j (hj : j < k), l[j].id ≠ x := by
  unfold posL at h
  rw [List.findIdx?_eq_some_iff_getElem] at h
  obtain ⟨h1, h2, h3⟩ := h
  exact ⟨h1, by simpa using h2, fun j hj => by simpa using h3 j hj⟩
theorem pos_none' {l : List Pt} {x : Id} (h : posL l x = none) : ∀ p ∈ l, p.id ≠ x := by
  unfold posL at h
  rw [List.findIdx?_eq_none_iff] at h
  intro p hp
  simpa using h p hp
theorem idx_some {l : List Pt} {x : Id} {k : Nat} (h : posL l x = some k) : idxL l x = (k : Int) := by unfold idxL; rw [h]
theorem idx_none {l : List Pt} {x : Id} (h : posL l x = none) : idxL l x = -1 := by unfold idxL; rw [h]
theorem find1_65 (p : Pt) (g : Nat) (x : Id) (w : World) (hr : Row w g (cI x) 30) : Calls Tryz.prog 65 #[vA p, .pointer (some ⟨g, 0, none⟩)] w fun e w' => e = .returned (.bool (decide (p.id = x))) ∧ Below w.heap.size w w' := by
  have rr := Row.okw (hr.keep (below_alloc w (.cells (aA p) 86))) (cI_length x)
  have r1 := rr.1
  have r2 : rdA (w.alloc (.cells (aA p) 86)) ⟨g, 0, none⟩ 32 = vI x := rr.2
  clear rr hr
  go_enter Tryz.func65, Tryz.ntmps65
  go_wp2
  go_ret
  exact ⟨rfl, below_alloc _ _⟩
theorem without1_67 (p : Pt) (g : Nat) (x : Id) (w : World) (hr : Row w g (cI x) 30) : Calls Tryz.prog 67 #[vA p, .pointer (some ⟨g, 0, none⟩)] w fun e w' => e = .returned (.bool (decide (p.id = x))) ∧ Below w.heap.size w w' := by
  have rr := Row.okw (hr.keep (below_alloc w (.cells (aA p) 86))) (cI_length x)
  have r1 := rr.1
  have r2 : rdA (w.alloc (.cells (aA p) 86)) ⟨g, 0, none⟩ 32 = vI x := rr.2
  clear rr hr
  go_enter Tryz.func67, Tryz.ntmps67
  go_wp2
  go_ret
  exact ⟨rfl, below_alloc _ _⟩
/-- A function that tells whether a part has the identity in block g. -/
structure IdFn (F g : Nat) (x : Id) (w : World) : Prop where
  enter : ∀ (args : Array Value) (W : World), Sem.run Tryz.prog (callFunc F args) W = .ok (.enter F args) W
  row : Row w g (cI x) 30
  call : ∀ (p : Pt) (u : World), Row u g (cI x) 30 → Calls Tryz.prog F #[vA p, .pointer (some ⟨g, 0, none⟩)] u fun e w' => e = .returned (.bool (decide (p.id = x))) ∧ Below u.heap.size u w'
theorem idFn65 {g : Nat} {x : Id} {w : World} (hr : Row w g (cI x) 30) : IdFn 65 g x w := ⟨enters_of Tryz.func65 (by kernel_rfl) rfl, hr, fun p u h => find1_65 p g x u h⟩
theorem idFn67 {g : Nat} {x : Id} {w : World} (hr : Row w g (cI x) 30) : IdFn 67 g x w := ⟨enters_of Tryz.func67 (by kernel_rfl) rfl, hr, fun p u h => without1_67 p g x u h⟩
set_option maxRecDepth 100000 in
set_option maxHeartbeats 1600000 in
theorem index64 (A : Option Addr) (c : Nat) (l : List Pt) (F g : Nat) (x : Id) (w : World) (hl : Sl w cA A l) (hn : l.length ≤ 1000000) (hF : IdFn F g x w) :
    Calls Tryz.prog 64 #[.slice A l.length c, .func (.func F) #[] #[.pointer (some ⟨g, 0, none⟩)]] w fun e w' => e = .returned (.int .i64 (idxL l x)) ∧ Below w.heap.size w w' := by
  have HF := Lib.hid hF
  have HS := Lib.hid hl
  clear hF hl
  go_enter Tryz.func64, Tryz.ntmps64
  go_wp2
  go_loopw [8] (fun i wr => ∃ k : Nat, i = .int .i64 k ∧ k ≤ l.length ∧ (∀ j (hj : j < k) (hj2 : j < l.length), l[j].id ≠ x) ∧ Below w.heap.size w wr) (fun i _ => l.length + 1 - (intOf i).toNat)
  case atStart => exact ⟨0, rfl, Nat.zero_le _, fun j hj => absurd hj (Nat.not_lt_zero _), Below.refl _ _⟩
  case round =>
    obtain ⟨k, rfl, hk, hp, hb⟩ := hrel
    by_cases hlt : k < l.length
    · have hlt1 : (k : Int) < (l.length : Int) := by omega
      obtain ⟨ad, rfl, ok1, rd1, _⟩ := Sl.pt (HS.out.keep hb) hlt
      obtain ⟨p, hpp⟩ : ∃ p, l[k] = p := ⟨_, rfl⟩
      rw [hpp] at rd1
      have HP := Lib.hid hpp
      have HB := Lib.hid (And.intro hp hb)
      have HE := HF.out.enter
      clear hp hb hpp
      by_cases hx : p.id = x
      · have hd : decide (p.id = x) = true := decide_eq_true hx
        have HN := Lib.hid (idx_some (pos_hit (l := l) (x := x) hlt (fun j hj => HB.out.1 j hj (by omega)) (by rw [HP.out]; exact hx)))
        clear hx
        go_wp2_with (refine (HF.out.call p wr (HF.out.row.keep HB.out.2)).mono ?_; rintro e w2 ⟨rfl, hb2⟩; have H2 := Lib.hid (Below.step HB.out.2 hb2); clear hb2)
        go_ret
        exact ⟨by rw [HN.out]; rfl, H2.out⟩
      · have hd : decide (p.id = x) = false := decide_eq_false hx
        have HXX := Lib.hid hx
        clear hx
        go_wp2_with (refine (HF.out.call p wr (HF.out.row.keep HB.out.2)).mono ?_; rintro e w2 ⟨rfl, hb2⟩; have H2 := Lib.hid (Below.step HB.out.2 hb2); clear hb2)
        go_roundw
        case rel =>
          refine ⟨k + 1, by go_num, by omega, fun j hj hj2 => ?_, H2.out⟩
          rcases Nat.lt_succ_iff_lt_or_eq.1 hj with h | h
          · exact HB.out.1 j h hj2
          · subst h
            rw [HP.out]
            exact HXX.out
        case measure => simp [intOf] <;> omega
    · have hlt1 : ¬ (k : Int) < (l.length : Int) := by omega
      have HN := Lib.hid (idx_none (pos_none (l := l) (x := x) fun j hj => hp j (by omega) hj))
      have HB := Lib.hid hb
      clear hp hb
      go_wp2
      go_ret
      exact ⟨by rw [HN.out]; rfl, HB.out⟩
set_option maxRecDepth 100000 in
theorem find40 (A : Option Addr) (c : Nat) (l : List Pt) (x : Id) (w : World) (hl : Sl w cA A l) (hn : l.length ≤ 1000000) :
    Calls Tryz.prog 40 #[.slice A l.length c, vI x] w fun e w' => e = .returned (.int .i64 (idxL l x)) ∧ Below w.heap.size w w' := by
  obtain ⟨b, hb⟩ : ∃ b, w.heap.size = b := ⟨_, rfl⟩
  have H1 := Lib.hid (And.intro (show Row (w.alloc (.cells (aI x) 30)) b (cI x) 30 by rw [← hb]; exact Row.new w (cI x) _) (And.intro (hl.keep (below_alloc w (.cells (aI x) 30))) (below_alloc w (.cells (aI x) 30))))
  clear hl
  go_enter Tryz.func40, Tryz.ntmps40
  go_wp2_with (go_at_call 64; refine (index64 A c l _ b x _ H1.out.2.1 hn (idFn65 H1.out.1)).mono ?_; rintro e w2 ⟨rfl, hb2⟩; have H2 := Lib.hid (Below.step H1.out.2.2 hb2); clear hb2)
  go_ret
  exact ⟨rfl, H2.out⟩
end
section
open Go.RowKit
theorem Own.slOf {α : Type} {w : World} {base : Nat} {e : TypeId} {s : Nat} {enc : α → List Value} {A : Option Addr} {n c : Nat} {xs : List α} (h : Own w base e s enc (.slice A n c) xs) : Sl w enc A xs := by
  obtain ⟨A', c', he, _, h2⟩ := Own.sl h
  rw [(Value.slice.inj he).1]
  exact h2
def noId (x : Id) (p : Pt) : Bool := !decide (p.id = x)
def withoutL (l : List Pt) (x : Id) : List Pt := l.filter (noId x)
theorem without_none {l : List Pt} {x : Id} (h : posL l x = none) : withoutL l x = l := by
  unfold withoutL
  rw [List.filter_eq_self]
  intro p hp
  simpa [noId] using pos_none' h p hp
theorem without_len (l : List Pt) (x : Id) : (withoutL l x).length ≤ l.length := List.length_filter_le _ _
theorem filter_take_succ (l : List Pt) (P : Pt → Bool) (j : Nat) (h : j < l.length) : (l.take (j + 1)).filter P = (l.take j).filter P ++ (if P l[j] then [l[j]] else []) := by
  rw [List.take_succ_eq_append_getElem h, List.filter_append]
  congr 1
  by_cases hp : P l[j] = true
  · simp [hp]
  · simp [hp]
theorem take_of_pos {l : List Pt} {x : Id} {k : Nat} (h : posL l x = some k) : (l.take (k + 1)).filter (noId x) = l.take k := by
  obtain ⟨hk, hx, hp⟩ := pos_some h
  rw [filter_take_succ l _ k hk, if_neg (by simp [noId, hx]), List.append_nil, List.filter_eq_self]
  intro p hp'
  obtain ⟨j, hj, rfl⟩ := List.getElem_of_mem hp'
  rw [List.length_take] at hj
  rw [List.getElem_take]
  simpa [noId] using hp j (by omega)
theorem part_store {w : World} {base : Nat} {n g0 c0 : Nat} {ys : List Pt} (h : Own w base 86 35 cA (.slice (some ⟨g0, 0, none⟩) n c0) ys) (i : Nat) (hi : i < ys.length) (p : Pt) :
    ∃ W, (stA 86 (.pointer (some ⟨g0, i * 35, none⟩)) (vA p)).run Tryz.prog w = .ok () W ∧ Own W base 86 35 cA (.slice (some ⟨g0, 0, none⟩) n c0) (ys.set i p) ∧ One g0 w W := by
  obtain ⟨g', c', e', _, _, h1, h2, h3⟩ := Own.store h cA_length i hi p
  cases e'
  exact ⟨_, run_stA_off w 86 g0 (i * 35) (cA p) 35 h1 sizePA (cA_length p) (cA_one p), h2, h3⟩
/-- Where DeleteFunc stands: i parts kept, j seen. -/
structure DelI (base g0 : Nat) (v : Value) (l : List Pt) (x : Id) (g : Nat) (w : World) (i j : Nat) (ys : List Pt) (wr : World) : Prop where
  len : ys.length = l.length
  own : Own wr base 86 35 cA v ys
  lt : i < j
  le : j ≤ l.length
  head : ys.take i = (l.take j).filter (noId x)
  rest : ys.drop j = l.drop j
  one : One g0 w wr
  row : Row wr g (cI x) 30
theorem DelI.get {base g0 : Nat} {v : Value} {l : List Pt} {x : Id} {g : Nat} {w : World} {i j : Nat} {ys : List Pt} {wr : World} (h : DelI base g0 v l x g w i j ys wr) (hj : j < l.length) : ys[j]'(by rw [h.len]; exact hj) = l[j] := by
  have := congrArg List.head? h.rest
  rw [List.head?_drop, List.head?_drop, List.getElem?_eq_getElem (by rw [h.len]; exact hj), List.getElem?_eq_getElem hj] at this
  exact Option.some.inj this
theorem DelI.skip {base g0 : Nat} {v : Value} {l : List Pt} {x : Id} {g : Nat} {w : World} {i j : Nat} {ys : List Pt} {wr w2 : World} (h : DelI base g0 v l x g w i j ys wr) (hj : j < l.length) (hx : noId x l[j] = false) (hb : Below wr.heap.size wr w2) : DelI base g0 v l x g w i (j + 1) ys w2 :=
  ⟨h.len, h.own.keep hb, by have := h.lt; omega, hj, by rw [filter_take_succ l _ j hj, hx, h.head]; simp, by rw [← List.drop_drop, h.rest, List.drop_drop], h.one.trans (One.of_below hb), h.row.keep hb⟩
theorem DelI.put {base g0 : Nat} {v : Value} {l : List Pt} {x : Id} {g : Nat} {w : World} {i j : Nat} {ys : List Pt} {wr w2 w3 : World} (h : DelI base g0 v l x g w i j ys wr) (hj : j < l.length) (hx : noId x l[j] = true) (hb : Below wr.heap.size wr w2) (ho : Own w3 base 86 35 cA v (ys.set i l[j])) (h1 : One g0 w2 w3) (hg : g ≠ g0) : DelI base g0 v l x g w (i + 1) (j + 1) (ys.set i l[j]) w3 := by
  have hi : i < ys.length := by rw [h.len]; have := h.lt; omega
  refine ⟨by rw [List.length_set, h.len], ho, by have := h.lt; omega, hj, ?_, ?_, (h.one.trans (One.of_below hb)).trans h1, h1.row (h.row.keep hb) hg⟩
  · rw [filter_take_succ l _ j hj, hx, ← h.head, List.take_succ_eq_append_getElem (by rw [List.length_set]; exact hi), List.getElem_set_self, List.take_set_of_le (Nat.le_refl i)]
    simp
  · rw [List.drop_set_of_lt (by have := h.lt; omega), ← List.drop_drop, h.rest, List.drop_drop]
set_option maxRecDepth 100000 in
set_option maxHeartbeats 3200000 in
theorem deleteFunc66 (base : Nat) (v : Value) (l : List Pt) (F g : Nat) (x : Id) (w : World) (hO : Own w base 86 35 cA v l) (hn : l.length ≤ 1000000) (hF : IdFn F g x w) (hg : v.ownBlock ≠ some g) :
    Calls Tryz.prog 66 #[v, .func (.func F) #[] #[.pointer (some ⟨g, 0, none⟩)]] w fun e w' => ∃ v', e = .returned v' ∧ Own w' base 86 35 cA v' (withoutL l x) ∧ w.grownBy w' v.ownBlock ∧ v'.ownBlock = v.ownBlock := by
  obtain ⟨A0, c0, rfl, hc0, hs0⟩ := Own.sl hO
  have HO := Lib.hid hO
  have HF := Lib.hid hF
  cases hpos : posL l x with
  | none =>
    have hi := idx_none hpos
    have HW := Lib.hid (without_none hpos)
    clear hO hF hg hpos
    go_enter Tryz.func66, Tryz.ntmps66
    go_wp2_with (go_at_call 64; refine (index64 A0 c0 l F g x w hs0 hn HF.out).mono ?_; rw [hi]; rintro e w2 ⟨rfl, hb2⟩; have H2 := Lib.hid hb2; clear hb2)
    go_ret
    exact ⟨_, rfl, by rw [HW.out]; exact HO.out.keep H2.out, ⟨H2.out.os, H2.out.tape, H2.out.output, H2.out.size, fun k hk _ => H2.out.block k hk⟩, rfl⟩
  | some k =>
    have hi := idx_some hpos
    obtain ⟨hk, hxk, _⟩ := pos_some hpos
    have HT := Lib.hid (take_of_pos hpos)
    rcases hO.rowOf with ⟨_, rfl⟩ | ⟨g0, c, cs, he, hb0, hr0, hc, _⟩
    · simp at hk
    cases he
    have hk1 : ((k : Int) == -1) = false := beq_eq_false_iff_ne.2 (by omega)
    have hgg : g ≠ g0 := fun e => hg (by rw [e]; rfl)
    clear hO hF hg hpos hxk hr0
    go_enter Tryz.func66, Tryz.ntmps66
    go_wp2_with (go_at_call 64; refine (index64 (some ⟨g0, 0, none⟩) c0 l F g x w hs0 hn HF.out).mono ?_; rw [hi]; rintro e w2 ⟨rfl, hb2⟩; have H2 := Lib.hid hb2; clear hb2)
    go_loopw [5, 6] (fun iv jv wr => ∃ (i j : Nat) (ys : List Pt), iv = .int .i64 i ∧ jv = .int .i64 j ∧ DelI base g0 (.slice (some ⟨g0, 0, none⟩) l.length c0) l x g w i j ys wr) (fun _ jv _ => l.length + 1 - (intOf jv).toNat)
    case atStart => exact ⟨k, k + 1, l, rfl, by go_num, rfl, HO.out.keep H2.out, Nat.lt_succ_self _, hk, HT.out.symm, rfl, One.of_below H2.out, HF.out.row.keep H2.out⟩
    case round =>
      obtain ⟨i, j, ys, rfl, rfl, hD⟩ := hrel
      by_cases hlt : j < l.length
      · have hlt1 : (j : Int) < (l.length : Int) := by omega
        have hsl := Own.slOf hD.own
        obtain ⟨ad, hae, ok1, rd1, -⟩ := Sl.pt hsl (show j < ys.length by rw [hD.len]; exact hlt)
        cases hae
        rw [add_off, Nat.zero_add] at ok1 rd1
        rw [hD.get hlt] at rd1
        obtain ⟨p, hpp⟩ : ∃ p, l[j] = p := ⟨_, rfl⟩
        rw [hpp] at rd1
        have HP := Lib.hid hpp
        have HD := Lib.hid hD
        have HE := HF.out.enter
        have hi1 : (i : Int) < (l.length : Int) := by have := hD.lt; omega
        obtain ⟨W3, hW3⟩ : ∃ W3, wr.alloc (.cells (aA p) 86) = W3 := ⟨_, rfl⟩
        obtain ⟨g3, hg3⟩ : ∃ g3, wr.heap.size = g3 := ⟨_, rfl⟩
        have H3 := Lib.hid (And.intro (show Row W3 g3 (cA p) 86 by rw [← hW3, ← hg3]; exact Row.new wr (cA p) _) (show Below wr.heap.size wr W3 by rw [← hW3]; exact below_alloc _ _))
        have r3 := (Row.okw H3.out.1 (cA_length p)).1
        have r4 : rdA W3 ⟨g3, 0, none⟩ 35 = vA p := (Row.okw H3.out.1 (cA_length p)).2
        clear hD hsl hpp
        by_cases hx : p.id = x
        · have hd : decide (p.id = x) = true := decide_eq_true hx
          have HN := Lib.hid (show noId x l[j] = false by rw [HP.out]; unfold noId; rw [hd]; rfl)
          clear hx
          go_wp2_with (refine (HF.out.call p W3 (HD.out.row.keep H3.out.2)).mono ?_; rintro e w2 ⟨rfl, hb2⟩; have H2b := Lib.hid (Below.step H3.out.2 hb2); clear hb2)
          go_roundw
          case rel => exact ⟨i, j + 1, ys, by go_num, by go_num, HD.out.skip hlt HN.out H2b.out⟩
          case measure => simp [intOf] <;> omega
        · have hd : decide (p.id = x) = false := decide_eq_false hx
          have HN := Lib.hid (show noId x l[j] = true by rw [HP.out]; unfold noId; rw [hd]; rfl)
          clear hx
          go_wp2_with (refine (HF.out.call p W3 (HD.out.row.keep H3.out.2)).mono ?_; rintro e w2 ⟨rfl, hb2⟩; have H2b := Lib.hid (And.intro (H3.out.1.keep hb2) (Below.step H3.out.2 hb2)); clear hb2 r3 r4; have r3 := (Row.okw H2b.out.1 (cA_length p)).1; have r4 := (show rdA w2 ⟨g3, 0, none⟩ 35 = vA p from (Row.okw H2b.out.1 (cA_length p)).2); obtain ⟨W5, st5, hO5, h15⟩ := part_store (HD.out.own.keep H2b.out.2) i (by rw [HD.out.len]; have := HD.out.lt; omega) p; have H5 := Lib.hid (And.intro hO5 h15); clear hO5 h15)
          go_roundw
          case rel => exact ⟨i + 1, j + 1, ys.set i p, by go_num, by go_num, by rw [← HP.out]; exact HD.out.put hlt HN.out H2b.out.2 (by rw [HP.out]; exact H5.out.1) H5.out.2 hgg⟩
          case measure => simp [intOf] <;> omega
      · have hlt1 : ¬ (j : Int) < (l.length : Int) := by omega
        obtain rfl : j = l.length := by have := hD.le; omega
        have hil := hD.lt
        have HD := Lib.hid hD
        clear hD
        have hyl : ys.length = l.length := HD.out.len
        have htl : (ys.take i).length = i := by rw [List.length_take]; omega
        have hcut := Own.cut HD.out.own cA_length rfl i (by omega)
        rcases HD.out.own.rowOf with ⟨he, _⟩ | ⟨g2, c2, cs2, he, _, hr2, hc2, _, hl2, _⟩
        · cases he
        have he2 := Value.slice.inj he
        obtain rfl : g2 = g0 := by have := he2.1; simp at this; exact this.symm
        obtain rfl : c2 = c0 := he2.2.2.symm
        obtain ⟨ds, hdl, hcl⟩ := clear_parts (o := i * 35) (n := l.length - i) (c := c2 - i) hr2 (by omega)
        have hO6 := Own.behind hcut cA_length rfl (i * 35) (by rw [htl]; exact Nat.le_refl _) ds (by omega)
        have HX := Lib.hid (And.intro hO6 (One.stD (g := g2) (w := wr) (i * 35) ds))
        clear hO6 hcut he he2 hr2
        go_wp2
        go_ret
        refine ⟨_, rfl, ?_, ⟨HX.out.2.os.trans HD.out.one.os, HX.out.2.tape.trans HD.out.one.tape, HX.out.2.output.trans HD.out.one.output, (HD.out.one.trans HX.out.2).size, fun k2 hk2 hne => (HD.out.one.trans HX.out.2).out k2 hk2 (fun e => hne (by rw [e]; rfl))⟩, rfl⟩
        have hw : withoutL l x = ys.take i := by rw [HD.out.head, List.take_length]; rfl
        rw [hw]
        exact HX.out.1
set_option maxRecDepth 100000 in
theorem without42 (base : Nat) (v : Value) (l : List Pt) (x : Id) (w : World) (hO : Own w base 86 35 cA v l) (hn : l.length ≤ 1000000) :
    Calls Tryz.prog 42 #[v, vI x] w fun e w' => ∃ v', e = .returned v' ∧ Own w' base 86 35 cA v' (withoutL l x) ∧ w.grownBy w' v.ownBlock ∧ v'.ownBlock = v.ownBlock := by
  obtain ⟨b, hb⟩ : ∃ b, w.heap.size = b := ⟨_, rfl⟩
  have H1 := Lib.hid (And.intro (show Row (w.alloc (.cells (aI x) 30)) b (cI x) 30 by rw [← hb]; exact Row.new w (cI x) _) (And.intro (hO.keep (below_alloc w (.cells (aI x) 30))) (below_alloc w (.cells (aI x) 30))))
  have hne : v.ownBlock ≠ some b := fun e => by have := (Own.lt hO b e).2; omega
  obtain ⟨A0, c0, rfl, hc0, _⟩ := Own.sl hO
  clear hO
  go_enter Tryz.func42, Tryz.ntmps42
  go_wp2_with (go_at_call 66; refine (deleteFunc66 base _ l _ b x _ H1.out.2.1 hn (idFn67 H1.out.1) hne).mono ?_; rintro e w2 ⟨v', rfl, h2⟩; have H2 := Lib.hid h2; clear h2)
  go_ret
  exact ⟨_, rfl, H2.out.1, ⟨H2.out.2.1.os.trans H1.out.2.2.os, H2.out.2.1.tape.trans H1.out.2.2.tape, H2.out.2.1.output.trans H1.out.2.2.output, Nat.le_trans H1.out.2.2.size H2.out.2.1.size, fun k hk hne => (H2.out.2.1.block k (Nat.lt_of_lt_of_le hk H1.out.2.2.size) hne).trans (H1.out.2.2.block k hk)⟩, H2.out.2.2⟩
end
end Go.Proofs.YtgojaelkdpabkaaGreatDoor
