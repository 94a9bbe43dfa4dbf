/- ascii: classes of bytes. -/
import Derived.Test.YtibelollgdnidaaGreatDoorMMps
import Derived.BigQuiet
namespace Go.Proofs.YtibelollgdnidaaGreatDoor
open Go.RowKit
def visB (c : UInt8) : Bool := decide (33 ≤ c.toNat) && decide (c.toNat ≤ 126)
def blankB (c : UInt8) : Bool := decide (c.toNat = 32) || decide (c.toNat = 9)
def prB (c : UInt8) : Bool := visB c || decide (c.toNat = 32)
section
set_option maxHeartbeats 400000
theorem isVisible_b (c : UInt8) (w : World) : Calls Tryz.prog 54 #[vB c] w fun e w' => e = .returned (.bool (visB c)) ∧ w = w' := by
 go_enter Tryz.func54, Tryz.ntmps54
 go_wp2
 all_goals
  go_ret
  exact ⟨ret_bool (by unfold visB; rw [Bool.eq_iff_iff]; simp; try omega), rfl⟩
theorem isBlank_b (c : UInt8) (w : World) : Calls Tryz.prog 102 #[vB c] w fun e w' => e = .returned (.bool (blankB c)) ∧ w = w' := by
 go_enter Tryz.func102, Tryz.ntmps102
 go_wp2
 all_goals
  go_ret
  exact ⟨ret_bool (by unfold blankB; rw [Bool.eq_iff_iff]; simp; try omega), rfl⟩
theorem notBlank_b (c : UInt8) (w : World) : Calls Tryz.prog 110 #[vB c] w fun e w' => e = .returned (.bool (!blankB c)) ∧ w = w' := by
 go_enter Tryz.func110, Tryz.ntmps110
 go_wp2_with (go_at_call 102; refine (isBlank_b _ _).mono ?_; rintro e w' ⟨rfl, rfl⟩)
 go_ret
 exact ⟨rfl, rfl⟩
theorem isPrint_b (c : UInt8) (w : World) : Calls Tryz.prog 168 #[vB c] w fun e w' => e = .returned (.bool (prB c)) ∧ w = w' := by
 rcases hv : visB c with _ | _
 ·have H := Lib.hid hv
  go_enter Tryz.func168, Tryz.ntmps168
  go_wp2_with (go_at_call 54; refine (isVisible_b _ _).mono ?_; rintro e w' ⟨rfl, rfl⟩; rw [hv])
  all_goals
   go_ret
   exact ⟨ret_bool (by unfold prB; rw [H.out]; rw [Bool.eq_iff_iff]; simp; try omega), rfl⟩
 ·have H := Lib.hid hv
  go_enter Tryz.func168, Tryz.ntmps168
  go_wp2_with (go_at_call 54; refine (isVisible_b _ _).mono ?_; rintro e w' ⟨rfl, rfl⟩; rw [hv])
  all_goals
   go_ret
   exact ⟨ret_bool (by unfold prB; rw [H.out]; simp), rfl⟩
end
open Go.RowKit
theorem underSs : Tryz.prog.underlying 29 = some (.slice 9) := Tryz.underlying29
theorem rowS : (Tryz.prog.info? 9).map (fun i => (i.zero.map (·.cells.size), i.size, i.bytes)) = some (some 1, 1, 16) := by kernel_rfl
theorem cS_one (s : ByteArray) : ∀ u ∈ cS s, u.oneCell' = true := by
 intro u hu
 obtain rfl : u = .string s := by simpa [cS] using hu
 rfl
theorem sl_newS (w : World) (s : ByteArray) : Sl (w.alloc (.cells #[.string s] 9)) cS (some ⟨w.heap.size, 0, none⟩) [s] :=
 fun _ => ⟨_, rfl, at_new w [.string s] 9 _ rfl⟩
def isSlS (xs : List ByteArray) : Value → World → Prop := fun v w => ∃ A n c, v = .slice A n c ∧ xs.length = n ∧ n ≤ c ∧ Sl w cS A xs
theorem Mono.slS (xs : List ByteArray) : Mono (isSlS xs) := fun _ _ _ hb ⟨A, n, c, h1, h2, h3, h4⟩ => ⟨A, n, c, h1, h2, h3, h4.keep hb⟩
structure WSt (B bs bw : Nat) (w0 : World) (s : ByteArray) (v : Value) (xs : List ByteArray) (w : World) : Prop where
 bl : Below B w0 w
 cs : w.cell? ⟨bs, 0, none⟩ = some (.string s)
 cw : w.cell? ⟨bw, 0, none⟩ = some v
 fw : w.frozen? ⟨bw, 0, none⟩ = false
 o1 : B ≤ bs
 o2 : bs < bw
 o3 : bw + 1 ≤ w.heap.size
 own : Own w (bw + 1) 9 1 cS v xs
theorem Own.keepSet {w : World} {base g : Nat} {e : TypeId} {v : Value} {xs : List ByteArray} (h : Own w base e 1 cS v xs) (hg : g < base) (u : Value) : Own (w.setCell ⟨g, 0, none⟩ u) base e 1 cS v xs := by
 refine ⟨h.1, h.2.imp id fun ⟨g', cap, cur, a1, a2, a3, r⟩ => ⟨g', cap, cur, a1, a2, ?_, r⟩⟩
 rw [Below.heap_setCell w ⟨g, 0, none⟩ u g' (by dsimp only; omega)]
 exact a3
theorem WSt.step {B bs bw : Nat} {w0 : World} {s : ByteArray} {v v2 : Value} {xs ys : List ByteArray} {w u w2 : World} (h : WSt B bs bw w0 s v xs w) (hE : Below w.heap.size w u) (ho : Own w2 (bw + 1) 9 1 cS v2 (xs ++ ys)) (hg : u.grownBy w2 v.ownBlock) :
  w2.cell? ⟨bw, 0, none⟩ = some v ∧ w2.frozen? ⟨bw, 0, none⟩ = false ∧ WSt B bs bw w0 s v2 (xs ++ ys) (w2.setCell ⟨bw, 0, none⟩ v2) := by
 have hs := hE.size
 have o1 := h.o1
 have o2 := h.o2
 have o3 := h.o3
 have hgs := hg.size
 have hne : ∀ k, k ≤ bw → some k ≠ v.ownBlock := fun k hk e => by have := Own.lt h.own k e.symm; omega
 have hblk : ∀ k, k ≤ bw → w2.heap[k]? = w.heap[k]? := fun k hk => (hg.block k (by omega) (hne k hk)).trans (hE.block k (by omega))
 have c1 : w2.cell? ⟨bw, 0, none⟩ = some v := (World.cell?_of_block (hblk bw (Nat.le_refl _))).trans h.cw
 have c2 : w2.frozen? ⟨bw, 0, none⟩ = false := (World.frozen?_of_block (hblk bw (Nat.le_refl _))).trans h.fw
 have c3 : w2.cell? ⟨bs, 0, none⟩ = some (.string s) := (World.cell?_of_block (hblk bs (by omega))).trans h.cs
 refine ⟨c1, c2, ?_, ?_, World.cell?_setCell_same' _ _ _ (by rw [c1]; rfl), by rw [World.frozen?_setCell]; exact c2, o1, o2, by simp only [World.setCell, Array.size_modify]; omega, Own.keepSet ho (by omega) _⟩
 ·refine Below.setCell (p := ⟨bw, 0, none⟩) ?_ (by dsimp only; omega) _
  exact Below.grown (h.bl.trans (hE.mono (by omega))) hg (by omega) fun k hk => by have := Own.lt h.own k hk; omega
 ·refine (World.cell?_setCell_other w2 _ _ v2 ?_).trans c3
  intro e
  injection e with e1 _ _
  omega
set_option maxRecDepth 100000 in
set_option maxHeartbeats 1600000 in
theorem collect51 (B bs bw : Nat) (w0 : World) (s : ByteArray) (v : Value) (xs : List ByteArray) (w : World) (hw : WSt B bs bw w0 s v xs w) (from_ to_ : Nat) (h1 : from_ ≤ to_) (h2 : to_ ≤ s.size) (hx : xs.length ≤ 4294967296) (hlt : from_ < to_) :
  Calls Tryz.prog 109 #[.int .i64 (from_ : Int), .int .i64 (to_ : Int), .pointer (some ⟨bw, 0, none⟩), .pointer (some ⟨bs, 0, none⟩)] w fun e w' => e = .returned (.tuple #[]) ∧ ∃ v', WSt B bs bw w0 s v' (xs ++ [s.extract from_ to_]) w' := by
 have HW := Lib.hid hw
 have HT := Lib.hid (And.intro h1 (And.intro h2 hx))
 have hc : (to_ : Int) > (from_ : Int) := by omega
 clear hw h1 h2 hx hlt
 go_enter Tryz.func109, Tryz.ntmps109
 go_wp2_with fail
 refine AnyO.wp_any_tail 6 (by kernel_rfl) (by kernel_rfl) (by kernel_rfl) (by kernel_rfl) (by kernel_rfl) (by kernel_rfl) (pstP [isV (v), isV (.string s), isV (.int .i64 (from_ : Int)), isV (.int .i64 (to_ : Int)), isV (.string (s.extract from_ to_)), isSlS [s.extract from_ to_]]) (MonoL.cons (Mono.v _) (MonoL.cons (Mono.v _) (MonoL.cons (Mono.v _) (MonoL.cons (Mono.v _) (MonoL.cons (Mono.v _) (MonoL.cons (Mono.slS _) MonoL.nil)))))) ?_ ?_
 ·intro i hi
  have hi2 : i = 0 ∨ i = 1 ∨ i = 2 ∨ i = 3 ∨ i = 4 ∨ i = 5 := by omega
  clear hi
  rcases hi2 with rfl | rfl | rfl | rfl | rfl | rfl
  all_goals
   refine AnyO.T rfl ?_; intro vs u hE hp ac hb K hK
   try have s2 : ac.tmps[2]?.getD undef = .pointer (some ⟨bw, 0, none⟩) := by rw [hb.out]; kernel_rfl
   try have s3 : ac.tmps[3]?.getD undef = .pointer (some ⟨bs, 0, none⟩) := by rw [hb.out]; kernel_rfl
   try have s0 : ac.tmps[0]?.getD undef = .int .i64 (from_ : Int) := by rw [hb.out]; kernel_rfl
   try have s1 : ac.tmps[1]?.getD undef = .int .i64 (to_ : Int) := by rw [hb.out]; kernel_rfl
   try have s10 : _ = _ := AnyO.sw 10 1 hb hp
   try have s11 : _ = _ := AnyO.sw 11 2 hb hp
   try have s12 : _ = _ := AnyO.sw 12 3 hb hp
   try have s13 : _ = _ := AnyO.sw 13 4 hb hp
   have r1_0 := cell_below HW.out.cw (Below.step (below_drew w) hE)
   have r1_1 := cell_below HW.out.cs (Below.step (below_drew w) hE)
   have r1_2 : (from_ : Int) ≤ (to_ : Int) := by have := HT.out.1; omega
   have r2_2 : (to_ : Int) ≤ (s.size : Int) := by have := HT.out.2.1; omega
   go_simp
   first | exact hK _ _ (Below.refl _ _) rfl | exact hK _ _ (below_alloc _ _) ⟨_, _, _, rfl, rfl, Nat.le_refl _, sl_newS _ _⟩
 ·intro vs u hE hp
  have e0 : _ = _ := hp 0 (by decide)
  have e1 : _ = _ := hp 1 (by decide)
  have e2 : _ = _ := hp 2 (by decide)
  have e3 : _ = _ := hp 3 (by decide)
  have e4 : _ = _ := hp 4 (by decide)
  obtain ⟨A_5, n_5, c_5, e5, h_5⟩ := show isSlS [s.extract from_ to_] (vs 5) u from hp 5 (by decide)
  clear hp
  have HE := Lib.hid (And.intro hE h_5); clear hE h_5
  rw [puts_range [some 9, some 10, some 11, some 12, some 13, some 14] (by kernel_rfl)]
  simp only [putL, Nat.reduceAdd, List.drop_succ_cons, List.drop_zero, e0, e1, e2, e3, e4, e5]
  clear e0 e1 e2 e3 e4 e5
  go_simp
  go_wp2_with (at_builtin; refine wpList_append_sl _ rfl (.tmp 9) (.tmp 14) 29 rfl (bw + 1) 9 1 16 cS underSs rowS (by decide) cS_length cS_one v xs rfl (Own.keep HW.out.own HE.out.1) _ _ _ [s.extract from_ to_] HE.out.2.1 rfl HE.out.2.2.2 (by have := HT.out.2.2; have : 1 = n_5 := HE.out.2.1; omega) (by have := HT.out.2.2; have : 1 = n_5 := HE.out.2.1; omega) (by have := HW.out.o3; have := HE.out.1.size; omega) ?_)
  intro v2 w2 ho hg
  have hst := WSt.step HW.out HE.out.1 ho hg
  have r1 : w2.cell? ⟨bw, 0, none⟩ = some v := hst.1
  have r2 : w2.frozen? ⟨bw, 0, none⟩ = false := hst.2.1
  have H2 := Lib.hid hst.2.2
  have hs2 : ∃ A c n, v2 = .slice A n c := by obtain ⟨A, c, e, _, _⟩ := ho.sl; exact ⟨A, c, _, e⟩
  obtain ⟨A2, c2, n2, rfl⟩ := hs2
  clear ho hg hst
  go_wp2
  go_end0
  exact ⟨rfl, _, H2.out⟩
set_option maxHeartbeats 400000 in
theorem collect51_no (k : Nat) (bs bw : Nat) (w : World) :
  Calls Tryz.prog 109 #[.int .i64 (k : Int), .int .i64 (k : Int), .pointer (some ⟨bw, 0, none⟩), .pointer (some ⟨bs, 0, none⟩)] w fun e w' => e = .returned (.tuple #[]) ∧ w' = w := by
 go_enter Tryz.func109, Tryz.ntmps109
 go_wp2
 go_end0
 exact ⟨rfl, rfl⟩
open Go.RowKit
def mkS (l : List UInt8) : ByteArray := ⟨l.toArray⟩
theorem bl_mkS (l : List UInt8) : bl (mkS l) = l := by simp [bl, mkS]
theorem mkS_bl (s : ByteArray) : mkS (bl s) = s := by simp [bl, mkS]
def fl (cur : List UInt8) : List (List UInt8) := if cur.isEmpty = true then [] else [cur]
def wl : List UInt8 → List UInt8 → List (List UInt8)
 | cur, [] => fl cur
 | cur, b :: r => if blankB b = true then fl cur ++ wl [] r else wl (cur ++ [b]) r
theorem fl_nil : fl [] = [] := rfl
theorem fl_cons {cur : List UInt8} (h : cur ≠ []) : fl cur = [cur] := by
 unfold fl
 rw [if_neg (by simpa using h)]
theorem wl_length : ∀ (l cur : List UInt8), (wl cur l).length ≤ l.length + 1
 | [], cur => by unfold wl fl; split <;> simp
 | b :: r, cur => by
  unfold wl
  have h1 := wl_length r []
  have h2 := wl_length r (cur ++ [b])
  have h3 : (fl cur).length ≤ 1 := by unfold fl; split <;> simp
  split <;> simp <;> omega
theorem wl_skip (l : List UInt8) : wl [] l = wl [] (l.drop (runL blankB l)) := by
 induction l with
 | nil => rfl
 | cons b r ih =>
  unfold runL
  rw [List.takeWhile_cons]
  by_cases h : blankB b = true
  ·rw [if_pos h, wl, if_pos h, fl_nil, List.nil_append, ih]
   rfl
  ·rw [if_neg h]
   rfl
theorem wl_word (l : List UInt8) : ∀ cur, wl cur l = fl (cur ++ l.take (runL (fun c => !blankB c) l)) ++ wl [] (l.drop (runL (fun c => !blankB c) l)) := by
 induction l with
 | nil => intro cur; simp [runL, wl, fl_nil]
 | cons b r ih =>
  intro cur
  unfold runL
  rw [List.takeWhile_cons]
  by_cases h : blankB b = true
  ·rw [if_neg (by simp [h]), wl, if_pos h]
   simp only [List.length_nil, List.take_zero, List.append_nil, List.drop_zero]
   rw [show wl [] (b :: r) = fl [] ++ wl [] r by rw [wl, if_pos h], fl_nil, List.nil_append]
  ·rw [if_pos (by simp [h]), wl, if_neg h, ih (cur ++ [b])]
   simp only [List.length_cons, List.take_succ_cons, List.drop_succ_cons, List.append_assoc, List.singleton_append]
   rfl
def words (s : ByteArray) : List ByteArray := (wl [] (bl s)).map mkS
theorem words_length (s : ByteArray) : (words s).length ≤ s.size + 1 := by
 unfold words
 rw [List.length_map, ← bl_length]
 exact wl_length _ _
theorem extract_mkS (s : ByteArray) (a b : Nat) : s.extract a b = mkS (((bl s).drop a).take (b - a)) := by
 rw [← mkS_bl (s.extract a b)]
 congr 1
 unfold bl
 rw [Lib.extract_data]
theorem words_step (s : ByteArray) (k f t : Nat) (hf : k + runL blankB ((bl s).drop k) = f) (ht : f + runL (fun c => !blankB c) ((bl s).drop f) = t) (xs : List ByteArray) (h : xs ++ (wl [] ((bl s).drop k)).map mkS = words s) :
  xs ++ (if f < t then [s.extract f t] else []) ++ (wl [] ((bl s).drop t)).map mkS = words s := by
 rw [← h, List.append_assoc]
 congr 1
 rw [wl_skip ((bl s).drop k), List.drop_drop, hf, wl_word ((bl s).drop f) [], List.drop_drop, ht, List.map_append, List.nil_append]
 congr 1
 have hn : runL (fun c => !blankB c) ((bl s).drop f) = t - f := by omega
 rw [hn]
 by_cases hlt : f < t
 ·rw [if_pos hlt, extract_mkS, fl_cons, List.map_singleton]
  intro e
  have h1 := congrArg List.length e
  have h2 := runL_le (fun c => !blankB c) ((bl s).drop f)
  rw [hn] at h2
  rw [List.length_take] at h1
  simp only [List.length_nil] at h1
  omega
 ·rw [if_neg hlt, show t - f = 0 by omega, List.take_zero]
  rfl
theorem drop_runL_le (p : UInt8 → Bool) (s : ByteArray) (k : Nat) (hk : k ≤ s.size) : k + runL p ((bl s).drop k) ≤ s.size := by
 have := runL_le p ((bl s).drop k)
 rw [List.length_drop, bl_length] at this
 omega
theorem runL_pos_blank (s : ByteArray) (k : Nat) (hk : k < s.size) : k < k + runL blankB ((bl s).drop k) + runL (fun c => !blankB c) ((bl s).drop (k + runL blankB ((bl s).drop k))) := by
 cases hp : blankB s[k] with
 | true => rw [runL_yes blankB s k hk hp]; omega
 | false =>
  rw [runL_no blankB s k hk hp, Nat.add_zero, runL_yes (fun c => !blankB c) s k hk (by simp [hp])]
  omega
set_option maxRecDepth 100000 in
set_option maxHeartbeats 1600000 in
theorem words21 (s : ByteArray) (w : World) (hs : s.size ≤ 1000000) :
  Calls Tryz.prog 66 #[.string s] w fun e w' => ∃ v, e = .returned v ∧ Own w' w.heap.size 9 1 cS v (words s) ∧ Below w.heap.size w w' := by
 have hcf1 : ∀ (args : Array Value) (W : World), Sem.run Tryz.prog (callFunc 102 args) W = .ok (.enter 102 args) W := enters_of Tryz.func102 (by kernel_rfl) rfl
 have hcf2 : ∀ (args : Array Value) (W : World), Sem.run Tryz.prog (callFunc 110 args) W = .ok (.enter 110 args) W := enters_of Tryz.func110 (by kernel_rfl) rfl
 have hk1 : ∀ k W, k ≤ s.size → _ := fun k W h => skip_p 102 blankB isBlank_b hcf1 s k W h (by omega)
 have hk2 : ∀ k W, k ≤ s.size → _ := fun k W h => skip_p 110 (fun c => !blankB c) notBlank_b hcf2 s k W h (by omega)
 have HK := Lib.hid (And.intro hk1 (And.intro hk2 hs))
 clear hk1 hk2 hcf1 hcf2 hs
 go_enter Tryz.func66, Tryz.ntmps66
 go_wp2_with fail
 go_loopw [5] (fun i wr => ∃ (k : Nat) (v : Value) (xs : List ByteArray), k ≤ s.size ∧ i = .int .i64 (k : Int) ∧ WSt w.heap.size w.heap.size (w.heap.size + 1) w s v xs wr ∧ xs ++ (wl [] ((bl s).drop k)).map mkS = words s) (fun i _ => s.size - (intOf i).toNat)
 case atStart =>
  refine ⟨0, .slice none 0 0, [], Nat.zero_le _, rfl, ⟨?_, ?_, ?_, ?_, Nat.le_refl _, by omega, by simp, Own.nil _ _ _ _ _⟩, by rw [List.drop_zero]; rfl⟩
  ·exact ((Below.refl _ _).alloc (Nat.le_refl _) _).alloc (by simp) _
  ·simp [go_sem]
  ·simp [go_sem]
  ·simp [go_sem]
 case round =>
  obtain ⟨k, v, xs, hk, rfl, hst, hws⟩ := hrel
  have hxl : xs.length ≤ 4294967296 := by
   have h1 := words_length s
   rw [← hws, List.length_append] at h1
   have := HK.out.2.2
   omega
  have r1 := hst.cs
  have r2 := hst.cw
  have HS := Lib.hid (And.intro hst (And.intro hws hxl))
  clear hst hws hxl
  by_cases hlt : k < s.size
  ·obtain ⟨f, hf⟩ : ∃ f, k + runL blankB ((bl s).drop k) = f := ⟨_, rfl⟩
   obtain ⟨t, ht⟩ : ∃ t, f + runL (fun c => !blankB c) ((bl s).drop f) = t := ⟨_, rfl⟩
   have hkt : k < t := by have := runL_pos_blank s k hlt; rw [hf, ht] at this; exact this
   have hfl : f ≤ s.size := by rw [← hf]; exact drop_runL_le _ s k hk
   have htl : t ≤ s.size := by rw [← ht]; exact drop_runL_le _ s f hfl
   have hft : f ≤ t := by omega
   have hc1 := HK.out.1 k
   have hc2 := HK.out.2.1 f
   rw [hf] at hc1
   rw [ht] at hc2
   have hnx := words_step s k f t hf ht xs HS.out.2.1
   have HC := Lib.hid (And.intro hc1 (And.intro hc2 (And.intro hkt (And.intro hfl (And.intro htl (And.intro hft hnx))))))
   clear hc1 hc2 hf ht hkt hfl htl hft hnx
   have T0 := Lib.hid trivial
   by_cases hq : f < t
   ·have HQ := Lib.hid hq
    clear hq
    go_wp2_with (first
     | (go_at_call 107; have hh := T0; clear hh T0; refine (HC.out.1 _ hk).mono ?_; rintro e w1 ⟨rfl, rfl⟩)
     | (go_at_call 107; refine (HC.out.2.1 _ HC.out.2.2.2.1).mono ?_; rintro e w1 ⟨rfl, rfl⟩)
     | (go_at_call 109; refine (collect51 _ _ _ w s v xs _ HS.out.1 f t HC.out.2.2.2.2.2.1 HC.out.2.2.2.2.1 HS.out.2.2 HQ.out).mono ?_; rintro e w1 ⟨rfl, v2, hst2⟩; have H2 := Lib.hid hst2; clear hst2))
    go_roundw
    case rel => exact ⟨t, v2, _, HC.out.2.2.2.2.1, rfl, H2.out, by have := HC.out.2.2.2.2.2.2; rwa [if_pos HQ.out] at this⟩
    case measure => have := HC.out.2.2.1; simp [intOf]; omega
   ·have HQ := Lib.hid hq
    clear hq
    obtain rfl : f = t := by have := HQ.out; have := HC.out.2.2.2.2.2.1; omega
    go_wp2_with (first
     | (go_at_call 107; have hh := T0; clear hh T0; refine (HC.out.1 _ hk).mono ?_; rintro e w1 ⟨rfl, rfl⟩)
     | (go_at_call 107; refine (HC.out.2.1 _ HC.out.2.2.2.1).mono ?_; rintro e w1 ⟨rfl, rfl⟩)
     | (go_at_call 109; refine (collect51_no f _ _ _).mono ?_; rintro e w1 ⟨rfl, rfl⟩))
    go_roundw
    case rel => exact ⟨f, v, xs, HC.out.2.2.2.2.1, rfl, HS.out.1, by have := HC.out.2.2.2.2.2.2; rwa [if_neg HQ.out, List.append_nil] at this⟩
    case measure => have := HC.out.2.2.1; simp [intOf]; omega
  ·have hkn : k = s.size := by omega
   subst hkn
   go_wp2
   go_ret
   refine ⟨v, rfl, ?_, HS.out.1.bl⟩
   have := HS.out.2.1
   rw [List.drop_eq_nil_of_le (by rw [bl_length]; exact Nat.le_refl _), wl, fl_nil, List.map_nil, List.append_nil] at this
   rw [← this]
   exact Own.mono HS.out.1.own (by omega)
open Go.RowKit
theorem own_str {w : World} {base : Nat} {e : TypeId} {v : Value} {xs : List ByteArray} (h : Own w base e 1 cS v xs) :
  (v = .slice none 0 0 ∧ xs = []) ∨ ∃ g c, v = .slice (some ⟨g, 0, none⟩) xs.length c ∧ xs.length ≤ c ∧ g < w.heap.size ∧ ∀ (j : Nat) x, xs[j]? = some x → w.cell? ⟨g, 0 + j, none⟩ = some (.string x) := by
 have hsl := h.sl
 rcases h.2 with ⟨rfl, hn⟩ | ⟨g, cap, cur, rfl, hb, hg, hnc, _⟩
 ·exact .inl ⟨rfl, List.eq_nil_of_length_eq_zero hn⟩
 ·refine .inr ⟨g, cap, rfl, hnc, (Array.getElem?_eq_some_iff.1 hg).1, fun j x hx => ?_⟩
  obtain ⟨hj, rfl⟩ := List.getElem?_eq_some_iff.1 hx
  obtain ⟨A, c, e, _, hs⟩ := hsl
  obtain ⟨ad, rfl, hat⟩ := Sl.at_ cS_length hs hj
  obtain rfl : (⟨g, 0, none⟩ : Addr) = ad := by injection e with e; injection e
  have h2 := hat.2 0 _ rfl
  rw [Nat.mul_one, add_of_add, Nat.add_zero] at h2
  rwa [show (⟨g, 0, none⟩ : Addr).add j = ⟨g, 0 + j, none⟩ from by unfold Addr.add; split <;> simp_all] at h2
theorem words21_none (s : ByteArray) (w : World) (hs : s.size ≤ 1000000) (h : words s = []) :
  Calls Tryz.prog 66 #[.string s] w fun e w' => ∃ A c, e = .returned (.slice A 0 c) ∧ Below w.heap.size w w' := by
 refine (words21 s w hs).mono ?_
 rintro e w' ⟨v, rfl, ho, hb⟩
 obtain ⟨A, c, rfl, _, _⟩ := ho.sl
 rw [h]
 exact ⟨A, c, rfl, hb⟩
theorem words21_some (s : ByteArray) (w : World) (hs : s.size ≤ 1000000) (h : words s ≠ []) :
  Calls Tryz.prog 66 #[.string s] w fun e w' => ∃ g c, e = .returned (.slice (some ⟨g, 0, none⟩) (words s).length c) ∧ Below w.heap.size w w' ∧ (words s).length ≤ c ∧ g < w'.heap.size ∧ ∀ (j : Nat) x, (words s)[j]? = some x → w'.cell? ⟨g, 0 + j, none⟩ = some (.string x) := by
 refine (words21 s w hs).mono ?_
 rintro e w' ⟨v, rfl, ho, hb⟩
 rcases own_str ho with ⟨_, e⟩ | ⟨g, c, rfl, h1, h2, h3⟩
 ·exact absurd e h
 ·exact ⟨g, c, rfl, hb, h1, h2, h3⟩
theorem lens_wl : ∀ (l cur : List UInt8), Lib.lens (wl cur l) ≤ cur.length + l.length
 | [], cur => by unfold wl fl; split <;> simp [Lib.lens]
 | b :: r, cur => by
  unfold wl
  have h1 := lens_wl r []
  have h2 := lens_wl r (cur ++ [b])
  have h3 : Lib.lens (fl cur ++ wl [] r) ≤ cur.length + Lib.lens (wl [] r) := by unfold fl; split <;> simp [Lib.lens]
  simp only [List.length_append, List.length_cons, List.length_nil] at *
  split <;> omega
theorem join_wl (l : List UInt8) : (Lib.join (wl [] l) [32]).length ≤ 2 * l.length + 1 := by
 have h1 := lens_wl l []
 have h2 := wl_length l []
 cases hw : wl [] l with
 | nil => simp [Lib.join_nil]
 | cons x r =>
  rw [hw] at h1 h2
  rw [Lib.join_length]
  simp only [List.length_cons, List.length_nil] at *
  omega
def sqz (s : ByteArray) : ByteArray := mkS (Lib.join (wl [] (bl s)) [32])
theorem sqz_nil (s : ByteArray) (h : words s = []) : sqz s = ⟨#[]⟩ := by
 unfold sqz
 have : wl [] (bl s) = [] := List.map_eq_nil_iff.1 h
 rw [this]
 rfl
theorem map_words (s : ByteArray) : (words s).map (·.data.toList) = wl [] (bl s) := by
 unfold words
 rw [List.map_map]
 conv => rhs; rw [← List.map_id (wl [] (bl s))]
 apply List.map_congr_left
 intro x _
 exact bl_mkS x
theorem sqz_join (s : ByteArray) : (⟨(Lib.join ((words s).map (·.data.toList)) [32]).toArray⟩ : ByteArray) = sqz s := by
 rw [map_words]
 rfl
theorem join_w (g c : Nat) (s : ByteArray) (w : World) (hs : s.size ≤ 1000000) (hcells : ∀ (j : Nat) x, (words s)[j]? = some x → w.cell? ⟨g, 0 + j, none⟩ = some (.string x)) (hg : g < w.heap.size) (hc : (words s).length ≤ c) :
  Calls Tryz.prog 26 #[.slice (some ⟨g, 0, none⟩) (words s).length c, .string ⟨#[32]⟩] w fun e w' => e = .returned (.string (sqz s)) ∧ Below w.heap.size w w' := by
 have h1 := words_length s
 have h2 := join_wl (bl s)
 rw [bl_length] at h2
 have h := Tryz.strings_Join g 0 c (words s) ⟨#[32]⟩ w hcells hg (by omega) hc (by rw [map_words]; show (Lib.join (wl [] (bl s)) [32]).length ≤ _; omega)
 rw [show (Lib.join ((words s).map (·.data.toList)) (⟨#[32]⟩ : ByteArray).data.toList) = Lib.join ((words s).map (·.data.toList)) [32] from rfl, sqz_join] at h
 exact h
set_option maxRecDepth 100000 in
set_option maxHeartbeats 800000 in
theorem squeeze22 (s : ByteArray) (w : World) (hs : s.size ≤ 1000000) :
  Calls Tryz.prog 55 #[.string s] w fun e w' => e = .returned (.string (sqz s)) ∧ Below w.heap.size w w' := by
 have HL := Lib.hid hs
 clear hs
 by_cases h : words s = []
 ·rw [sqz_nil s h]
  have HW := Lib.hid h
  clear h
  go_enter Tryz.func55, Tryz.ntmps55
  go_wp2_with (first
   | (go_at_call 66; refine (words21_none s _ HL.out HW.out).mono ?_; rintro e w1 ⟨A1, c1', rfl, hb1⟩; have H1 := Lib.hid hb1; clear hb1)
   | (go_at_call 26; refine (Tryz.strings_Join_none _ _ _ _).mono ?_; rintro e w2 ⟨rfl, rfl⟩))
  go_ret
  exact ⟨rfl, H1.out⟩
 ·have HW := Lib.hid h
  clear h
  go_enter Tryz.func55, Tryz.ntmps55
  go_wp2_with (first
   | (go_at_call 66; refine (words21_some s _ HL.out HW.out).mono ?_; rintro e w1 ⟨g1, c1', rfl, hb1⟩; have H1 := Lib.hid hb1; clear hb1)
   | (go_at_call 26; refine (join_w g1 c1' s _ HL.out H1.out.2.2.2 H1.out.2.2.1 H1.out.2.1).mono ?_; rintro e w2 ⟨rfl, hb2⟩; have H2 := Lib.hid (Below.step H1.out.1 hb2); clear hb2))
  go_ret
  exact ⟨rfl, H2.out⟩
theorem Sl.str {w : World} {A : Option Addr} {xs : List ByteArray} (h : Sl w cS A xs) {k : Nat} (hk : k < xs.length) : ∃ ad, A = some ad ∧ w.cell? (ad.add k) = some (.string xs[k]) := by
 obtain ⟨ad, rfl, hat⟩ := Sl.at_ cS_length h hk
 refine ⟨ad, rfl, ?_⟩
 have := hat.2 0 (.string xs[k]) rfl
 rw [Nat.mul_one, show ((ad.add k).add 0) = ad.add k from by unfold Addr.add; rfl] at this
 exact this
end Go.Proofs.YtibelollgdnidaaGreatDoor
