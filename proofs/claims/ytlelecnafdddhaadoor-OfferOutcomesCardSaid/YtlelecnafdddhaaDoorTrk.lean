/- What a sender keeps track of: the articles ended, under way and waiting, in order. -/
import Derived.Test.YtlelecnafdddhaaDoorAppAt
namespace Go.Proofs.YtlelecnafdddhaaDoor
open Go.RowKit
def curL (s : St) : List Id := if s.state = 0 then [] else [s.cur.1]
def trackS (s : St) : List Id := s.outs.map (·.1) ++ (curL s ++ s.wait.map (·.1))
theorem track_say {ch : Int} (s : St) : trackS (sayS ch s).1 = trackS s := by
  unfold sayS
  by_cases h0 : s.state = 0
  · rw [if_pos h0]
    cases hw : s.wait with
    | nil => rfl
    | cons a r => unfold trackS curL; rw [if_pos h0, if_neg (by show ¬ (1 : Int) = 0; decide), hw]; rfl
  · rw [if_neg h0]
    by_cases h2 : s.state = 2
    · rw [if_pos h2]
      split
      · unfold trackS curL; rw [if_neg h0, if_neg (by show ¬ (3 : Int) = 0; decide)]
      · rfl
    · rw [if_neg h2]
theorem track_end (s : St) (h : s.state ≠ 0) (x y : Int) : trackS (endS s x y) = trackS s := by
  unfold trackS curL endS
  rw [if_neg h, if_pos rfl, List.map_append, List.append_assoc]
  rfl
theorem track_hear (s : St) (c : Cm) : trackS (hearS s c).1 = trackS s := by
  unfold hearS
  split
  · rfl
  · split
    · rfl
    · split
      · rfl
      · rename_i h8
        have h0 : s.state ≠ 0 := fun e => h8 (Or.inl e)
        split
        · split
          · unfold trackS curL; rw [if_neg h0, if_neg (by show ¬ (2 : Int) = 0; decide)]
          · rfl
        · split
          · exact track_end s h0 _ _
          · split
            · exact track_end s h0 _ _
            · split
              · exact track_end s h0 _ _
              · split
                · exact track_end s h0 _ _
                · rfl
theorem track_drop (s : St) : trackS (dropS s) = trackS s := by
  unfold dropS
  split
  · rfl
  · rename_i h0
    unfold trackS curL
    rw [if_neg h0, if_pos rfl]
    rfl
theorem track_op (ch : Int) (s : St) (x : Rop) (h0 : x.kind.toNat % 5 ≠ 0) (h4 : x.kind.toNat % 5 ≠ 4) : trackS (opS ch s x) = trackS s := by
  unfold opS
  rw [if_neg h0]
  split
  · exact track_say s
  · split
    · exact track_hear s _
    · rw [if_pos (by omega)]
      exact track_drop s
theorem track_add {s s' : St} {x : Id} {t : ByteArray} {e : Int} (h : addS s x t = (s', e)) : trackS s' = if e = 0 then trackS s ++ [x] else trackS s := by
  unfold addS at h
  by_cases h1 : x = zI ∨ t.toList.isEmpty = true
  · rw [if_pos h1] at h; injection h with a b; subst a b; rfl
  · rw [if_neg h1] at h
    by_cases h2 : 65536 < t.size
    · rw [if_pos h2] at h; injection h with a b; subst a b; rfl
    · rw [if_neg h2] at h
      by_cases h3 : crL t = true
      · rw [if_pos h3] at h; injection h with a b; subst a b; rfl
      · rw [if_neg h3] at h
        by_cases h4 : hasS s x = true
        · rw [if_pos h4] at h; injection h with a b; subst a b; rfl
        · rw [if_neg h4] at h
          by_cases h5 : 1024 ≤ s.wait.length
          · rw [if_pos h5] at h; injection h with a b; subst a b; rfl
          · rw [if_neg h5] at h; injection h with a b; subst a b
            rw [if_pos rfl]
            unfold trackS curL
            simp [List.append_assoc]
/-! ### an article's identity of the law's own -/
theorem store_id {cs : List Value} (x : Rop) (y : Id) (h : cs = cQ x) : cs.take 1 ++ cI y ++ cs.drop (1 + 32) = cQ { x with a := (y, x.a.2) } := by
  subst h
  have e : (cQ x).drop 33 = .string x.a.2 :: cK x.c := by
    unfold cQ cA
    rw [show (33 : Nat) = 32 + 1 from rfl, List.drop_succ_cons, List.append_assoc, List.drop_append_of_le_length (by rw [cI_length]; exact Nat.le_refl _), List.drop_of_length_le (by rw [cI_length]; exact Nat.le_refl _)]
    rfl
  rw [e]
  unfold cQ cA
  simp
def idC (c : UInt8) : Id := ⟨c :: List.replicate 31 0, by simp⟩
theorem u8_of (m : Nat) : ∃ c : UInt8, IntKind.u8.wrap (1 + (m : Int)) = (c.toNat : Int) := by
  refine ⟨UInt8.ofNat (1 + m), ?_⟩
  rw [UInt8.toNat_ofNat']
  simp [IntKind.wrap, IntKind.signed, IntKind.bits]
section
variable (w : World) (v : Value)
@[go_sem ↓] theorem store22 (u : Value) : Instr.storeAt 22 v u = stA 22 v u := rfl
@[go_sem] theorem run_st22 (g k : Nat) (x : Id) : (stA 22 (.pointer (some ⟨g, k, none⟩)) (vI x)).run Tryd.prog w = if stOk w g k 32 = true then .ok () (stD w g k (cI x)) else (stB 22 (.pointer (some ⟨g, k, none⟩)) (vI x)).run Tryd.prog w := by
  split
  · rename_i h
    exact run_stA_off w 22 g k (cI x) 32 h size22' (cI_length x) (cI_one x)
  · rfl
@[go_sem] theorem bl22_1 (c : UInt8) : (blA 22 #[(0, .int .u8 (c.toNat : Int))]).run Tryd.prog w = .ok (vI (idC c)) w := by kernel_rfl
@[go_sem] theorem run_al57 : (alA 57 true (.tuple #[])).run Tryd.prog w = .ok (.pointer (some ⟨w.heap.size, 0, none⟩)) (w.alloc (.cells (aQ ⟨0, zA, zK⟩) 57)) := by kernel_rfl
end
section
variable {w0 w w' : World} {b : Nat} {ch : Int} {s s' sr sr' : St} {r r' : Rs} {L L' : List (Nat × List Value × TypeId)} {v v' : Value} {xs ys : List Id}
theorem InvO.outs (h : InvO w0 b ch s sr r L v xs w) : Calls Tryd.prog 25 #[.pointer (some ⟨b, 0, none⟩)] w fun e w' => ∃ A n c, e = .returned (.slice A n c) ∧ s.outs.length = n ∧ Sl w' cO A s.outs ∧ InvO w0 b ch { s with outs := [] } sr r L v xs w' := by
  obtain ⟨M, h1, h2⟩ := h.inv
  refine h1.outs.mono ?_
  rintro e w' ⟨A, n, c, rfl, hn, hs, h3⟩
  refine ⟨A, n, c, rfl, hn, hs, ⟨M, h3, h2⟩, h.own.same fun k hk => ?_⟩
  obtain ⟨_, _, cs, h4⟩ := h2 k hk
  exact (h3.row (List.mem_append_left _ h4)).trans (h1.row (List.mem_append_left _ h4)).symm
/-- A row that was made later. -/
theorem InvR.addNew {U : World} (h : InvR w0 b ch s sr r L U) (hb : Below U.heap.size U w) {g : Nat} {cs : List Value} {ty : TypeId} (hg : U.heap.size ≤ g) (hrow : Row w g cs ty) : InvR w0 b ch s sr r ((g, cs, ty) :: L) w := by
  obtain ⟨F, h1, h2, h3, h4⟩ := h.rep
  refine ⟨Below.step h.bel hb, F, h1.keep hb, fun k hk => ⟨(h2 k hk).1, Nat.lt_of_lt_of_le (h2 k hk).2 hb.size⟩, fun x hx => ?_, (h4.new _ fun k hk => ?_).keep hb⟩
  · rcases List.mem_cons.1 hx with rfl | hx
    · exact ⟨hrow, fun hm => by have := (h2 _ hm).2; omega⟩
    · exact ⟨(h3 x hx).1.keep hb, (h3 x hx).2⟩
  · rcases List.mem_append.1 hk with hk | hk
    · exact Or.inl (List.mem_append_left _ hk)
    · rw [List.map_cons] at hk
      rcases List.mem_cons.1 hk with rfl | hk
      · exact Or.inr hg
      · exact Or.inl (List.mem_append_right _ hk)
/-- Outcomes, beside two slices of the call's own: one that lay there at U, one made since. -/
theorem InvO.outs2 {U : World} (h : InvO w0 b ch s sr r L v xs U) (hb : Below U.heap.size U w) (ho : Own w U.heap.size 40 32 cI v' ys) : Calls Tryd.prog 25 #[.pointer (some ⟨b, 0, none⟩)] w fun e w' => ∃ A n c, e = .returned (.slice A n c) ∧ s.outs.length = n ∧ Below w0.heap.size w0 w' ∧ Own w' w0.heap.size 40 32 cI v xs ∧ Own w' U.heap.size 40 32 cI v' ys := by
  obtain ⟨M, h1, h2⟩ := h.inv
  have h1' := h1.below hb
  have fin : ∀ {M2 : List (Nat × List Value × TypeId)}, InvR w0 b ch s sr r (M2 ++ (M ++ L)) w → (∀ k, v'.ownBlock = some k → ∃ cs, (k, cs, (40 : TypeId)) ∈ M2) → Calls Tryd.prog 25 #[.pointer (some ⟨b, 0, none⟩)] w fun e w' => ∃ A n c, e = .returned (.slice A n c) ∧ s.outs.length = n ∧ Below w0.heap.size w0 w' ∧ Own w' w0.heap.size 40 32 cI v xs ∧ Own w' U.heap.size 40 32 cI v' ys := fun {M2} hI hM => by
    refine hI.outs.mono ?_
    rintro e w' ⟨A, n, c, rfl, hn, hs, h3⟩
    refine ⟨A, n, c, rfl, hn, h3.bel, (h.own.keep hb).same fun k hk => ?_, ho.same fun k hk => ?_⟩
    · obtain ⟨_, _, cs, h4⟩ := h2 k hk
      exact (h3.row (List.mem_append_right _ (List.mem_append_left _ h4))).trans (hI.row (List.mem_append_right _ (List.mem_append_left _ h4))).symm
    · obtain ⟨cs, h4⟩ := hM k hk
      exact (h3.row (List.mem_append_left _ h4)).trans (hI.row (List.mem_append_left _ h4)).symm
  rcases ho.2 with ⟨rfl, _⟩ | ⟨g, cap, cur, rfl, hgb, hcur, _⟩
  · exact fin (M2 := []) h1' fun k e => by cases e
  · have hrow : Row w g cur.toList 40 := by unfold Row; rw [hcur]
    exact fin (M2 := [(g, cur.toList, 40)]) (h1.addNew hb hgb hrow) fun k e => by
      obtain rfl : g = k := Option.some.inj e
      exact ⟨cur.toList, List.mem_singleton.2 rfl⟩
theorem InvO.cu (h : InvO w0 b ch s sr r L v xs w) (g : Good ch s) : Calls Tryd.prog 21 #[.pointer (some ⟨b, 0, none⟩)] w fun e w' => e = .returned (.tuple #[vI s.cur.1, .bool (!decide (s.state = 0))]) ∧ Below w.heap.size w w' := by
  obtain ⟨F, h1, _⟩ := h.base.rep
  exact current21 b ch s F w h1 (fun e => by rw [g.idle e]; rfl)
theorem InvO.wa (h : InvO w0 b ch s sr r L v xs w) (hm : s.wait.length ≤ 100000) : Calls Tryd.prog 26 #[.pointer (some ⟨b, 0, none⟩)] w fun e w' => ∃ A n c, e = .returned (.slice A n c) ∧ s.wait.length = n ∧ Sl w' cI A (s.wait.map (·.1)) ∧ Below w.heap.size w w' := by
  obtain ⟨F, h1, _⟩ := h.base.rep
  exact waiting26 b ch s F w h1 hm
theorem InvO.two (h : InvO w0 b ch s sr r L v xs w) (x : Rop) (g : Good ch s) (gr : Good ch sr) (hL : Laid w0) (hm : s.outs.length ≤ 100000) (hmr : sr.outs.length ≤ 100000) (hk : x.kind.toNat % 5 ≠ 0) (hk4 : x.kind.toNat % 5 ≠ 4) :
    Calls Tryd.prog 22 #[.pointer (some ⟨b, 0, none⟩), vR r, vQ x] w fun e w' => ∃ r' ok, e = .returned (.tuple #[vR r', .bool ok]) ∧ InvO w0 b ch (opS ch s x) (opS ch sr x) r' L v xs w' := by
  obtain ⟨M, h1, h2⟩ := h.inv
  refine (do22_two w0 b ch s sr r x (M ++ L) w h1 g gr hL hm hmr hk hk4).mono ?_
  rintro e w' ⟨r', ok, rfl, h3⟩
  refine ⟨r', ok, rfl, ⟨M, h3, h2⟩, h.own.same fun k hk => ?_⟩
  obtain ⟨_, _, cs, h4⟩ := h2 k hk
  exact (h3.row (List.mem_append_left _ h4)).trans (h1.row (List.mem_append_left _ h4)).symm
theorem InvO.add (h : InvO w0 b ch s sr r L v xs w) (x : Id) (t : ByteArray) (g : Good ch s) : Calls Tryd.prog 15 #[.pointer (some ⟨b, 0, none⟩), vI x, .string t] w fun e w' => e = .returned (.int .i64 (addS s x t).2) ∧ InvO w0 b ch (addS s x t).1 sr r L v xs w' :=
  h.calls fun _ hM => hM.call (fun F hF => add15 b ch s F x t w hF (Nat.le_trans g.len (by decide)))
theorem InvO.size (h : InvO w0 b ch s sr r L v xs w) : w0.heap.size ≤ w.heap.size := h.base.bel.size
end
@[go_sem] theorem aQ_0 (x : Rop) : (aQ x)[0]? = some (.int .u8 (x.kind.toNat : Int)) := rfl
end Go.Proofs.YtlelecnafdddhaaDoor
