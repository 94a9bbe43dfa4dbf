/- The last line of a batch; Unpack. Unpack. -/
import Derived.Test.YtecalodcbkljoaaGreatDoorMItc
namespace Go.Proofs.YtecalodcbkljoaaGreatDoor
open Go.RowKit
def CuE (g : Nat) (s : ByteArray) (r : Except (Int × Nat) Unit) (w : World) : Prop :=
  match r with
  | .ok _ => ∃ at_ wh, Row w g (cU ⟨s, at_, 0, wh⟩) 73
  | .error (e, k) => e ≠ 0 ∧ ∃ at_, Row w g (cU ⟨s, at_, e, (k : Int)⟩) 73
theorem last_err (g : Nat) (x : Cu) (w : World) (hrow : Row w g (cU x) 73) (h0 : x.err ≠ 0) :
    Calls Tryz.prog 33 #[.pointer (some ⟨g, 0, none⟩)] w fun e w' => e = .returned (.tuple #[]) ∧ w' = w := by
  have c2 : w.cell? ⟨g, 2, none⟩ = some (.int .i64 x.err) := by rw [hrow.cell]; rfl
  have hb : (x.err != 0) = true := by simpa using h0
  have HL := Lib.hid (line_err g x w hrow h0)
  clear hrow h0
  go_enter Tryz.func33, Tryz.ntmps33
  go_wp2_with (go_at_call 52; refine HL.out.mono ?_; rintro e w1 ⟨rfl, rfl⟩)
  go_end0
  exact ⟨rfl, rfl⟩
set_option maxRecDepth 100000 in
set_option maxHeartbeats 3200000 in
theorem last_c (g : Nat) (s : ByteArray) (a : Nat) (w : World) (hrow : Row w g (cU ⟨s, (a : Int), 0, 0⟩) 73) (hsz : s.size ≤ 1073741824) (hle : a ≤ s.size) :
    Calls Tryz.prog 33 #[.pointer (some ⟨g, 0, none⟩)] w fun e w' => e = .returned (.tuple #[]) ∧ One g w w' ∧ CuE g s (lastP (bl s) a) w' := by
  have hS := bl_length s
  rcases hq : nlAt ((bl s).drop a) with _ | n
  · have hr : lastP (bl s) a = .error (23, s.size) := by unfold lastP; rw [hq, hS]
    rw [hr]
    have HL := Lib.hid (line_no g ⟨s, (a : Int), 0, 0⟩ a w hrow rfl rfl hsz hle hq)
    clear hrow hq hr hS
    go_enter Tryz.func33, Tryz.ntmps33
    go_wp2_with (go_at_call 52; refine HL.out.mono ?_; rintro e w1 ⟨rfl, ho1, hr1⟩; have c2 : w1.cell? ⟨g, 2, none⟩ = some (.int .i64 23) := (hr1.cell 2).trans rfl; have H1 := Lib.hid (And.intro ho1 hr1); clear ho1 hr1)
    go_end0
    exact ⟨rfl, H1.out.1, by decide, _, H1.out.2⟩
  · have hlt := (nlAt_spec hq).2.2
    rw [List.length_drop, hS] at hlt
    obtain ⟨L, hL⟩ : ∃ L, s.extract a (a + n) = L := ⟨_, rfl⟩
    have hbl : bl L = ((bl s).drop a).take n := by rw [← hL, bl_piece]
    have HL := Lib.hid (line_yes g ⟨s, (a : Int), 0, 0⟩ a w n hrow rfl rfl hsz hle hq)
    have hLs : L.size ≤ 1073741824 := by rw [← bl_length, hbl, List.length_take, List.length_drop]; omega
    obtain ⟨q, hqq⟩ : ∃ q, a + n + 1 = q := ⟨_, rfl⟩
    rw [hqq] at HL
    obtain ⟨E1, hE1⟩ : ∃ E1, L ++ (⟨#[10]⟩ : ByteArray) = E1 := ⟨_, rfl⟩
    have hadd : ¬ 9223372036854775807 < L.size + 1 := by omega
    have HLL := Lib.hid hL
    by_cases he : bl L = [101, 110, 100]
    case neg =>
      have hr : lastP (bl s) a = .error (3, a) := by unfold lastP; rw [hq]; simp only []; rw [← hbl, if_pos he]
      rw [hr]
      have hcmp : (E1.toList == [101, 110, 100, 10]) = false := by
        rw [beq_eq_false_iff_ne, Lib.toList_data, ← hE1]
        intro h
        have h2 : bl (L ++ (⟨#[10]⟩ : ByteArray)) = [101, 110, 100] ++ [10] := h
        rw [bl_app] at h2
        exact he (List.append_inj_left' h2 rfl)
      clear hrow hq hr hS hbl hL hlt hqq he
      go_enter Tryz.func33, Tryz.ntmps33
      go_wp2_with (first
        | (go_at_call 52; refine HL.out.mono ?_; rintro e w1 ⟨rfl, ho1, hr1⟩; rw [HLL.out]; have c2 : w1.cell? ⟨g, 2, none⟩ = some (.int .i64 0) := (hr1.cell 2).trans rfl; have H1 := Lib.hid (And.intro ho1 hr1); clear ho1 hr1)
        | (go_at_call 55; refine (fail_c g _ 3 (a : Int) _ H1.out.2 rfl).mono ?_; rintro e w4 ⟨rfl, ho4, hr4⟩; have H4 := Lib.hid (And.intro (H1.out.1.trans ho4) hr4); clear ho4 hr4))
      go_end0
      exact ⟨rfl, H4.out.1, by decide, _, H4.out.2⟩
    have hcmp : (E1.toList == [101, 110, 100, 10]) = true := by
      rw [beq_iff_eq, Lib.toList_data, ← hE1]
      show bl (L ++ (⟨#[10]⟩ : ByteArray)) = _
      rw [bl_app, he]
      rfl
    by_cases hm : q < s.size
    case pos =>
      have hr : lastP (bl s) a = .error (5, q) := by unfold lastP; rw [hq]; simp only []; rw [← hbl, if_neg (by rw [he]; decide), if_pos (by rw [hS, hqq]; exact hm), hqq]
      rw [hr]
      have hmi : (q : Int) < (s.size : Int) := by omega
      clear hrow hq hr hS hbl hL hlt hqq he
      go_enter Tryz.func33, Tryz.ntmps33
      go_wp2_with (first
        | (go_at_call 52; refine HL.out.mono ?_; rintro e w1 ⟨rfl, ho1, hr1⟩; rw [HLL.out]; have c2 : w1.cell? ⟨g, 2, none⟩ = some (.int .i64 0) := (hr1.cell 2).trans rfl; have H1 := Lib.hid (And.intro ho1 hr1); clear ho1 hr1))
      have d0 : ∀ k, (w1.drewN k).cell? ⟨g, 0, none⟩ = some (.string s) := fun k => (H1.out.2.drewN k).cell 0
      have d1 : ∀ k, (w1.drewN k).cell? ⟨g, 1, none⟩ = some (.int .i64 (q : Int)) := fun k => (H1.out.2.drewN k).cell 1
      go_quiet (fail)
      obtain ⟨W2, hW2⟩ : ∃ W2, w1.drewN nq = W2 := ⟨_, rfl⟩
      have H2 := Lib.hid (show One g w W2 ∧ Row W2 g (cU ⟨s, (q : Int), 0, 0⟩) 73 from by rw [← hW2]; exact ⟨H1.out.1.trans (One.of_below (below_drewN _ _)), H1.out.2.drewN nq⟩)
      rw [hW2]
      clear hW2 d0 d1
      have c1 : W2.cell? ⟨g, 1, none⟩ = some (.int .i64 (q : Int)) := H2.out.2.cell 1
      go_wp2_with (go_at_call 55; refine (fail_c g _ 5 (q : Int) _ H2.out.2 rfl).mono ?_; rintro e w4 ⟨rfl, ho4, hr4⟩; have H4 := Lib.hid (And.intro (H2.out.1.trans ho4) hr4); clear ho4 hr4)
      go_end0
      exact ⟨rfl, H4.out.1, by decide, _, H4.out.2⟩
    have hr : lastP (bl s) a = .ok () := by unfold lastP; rw [hq]; simp only []; rw [← hbl, if_neg (by rw [he]; decide), if_neg (by rw [hS, hqq]; exact hm)]
    rw [hr]
    have hmi : ¬ (q : Int) < (s.size : Int) := by omega
    clear hrow hq hr hS hbl hL hlt hqq he
    go_enter Tryz.func33, Tryz.ntmps33
    go_wp2_with (first
      | (go_at_call 52; refine HL.out.mono ?_; rintro e w1 ⟨rfl, ho1, hr1⟩; rw [HLL.out]; have c2 : w1.cell? ⟨g, 2, none⟩ = some (.int .i64 0) := (hr1.cell 2).trans rfl; have H1 := Lib.hid (And.intro ho1 hr1); clear ho1 hr1))
    have d0 : ∀ k, (w1.drewN k).cell? ⟨g, 0, none⟩ = some (.string s) := fun k => (H1.out.2.drewN k).cell 0
    have d1 : ∀ k, (w1.drewN k).cell? ⟨g, 1, none⟩ = some (.int .i64 (q : Int)) := fun k => (H1.out.2.drewN k).cell 1
    go_quiet (fail)
    obtain ⟨W2, hW2⟩ : ∃ W2, w1.drewN nq = W2 := ⟨_, rfl⟩
    have H2 := Lib.hid (show One g w W2 ∧ Row W2 g (cU ⟨s, (q : Int), 0, 0⟩) 73 from by rw [← hW2]; exact ⟨H1.out.1.trans (One.of_below (below_drewN _ _)), H1.out.2.drewN nq⟩)
    rw [hW2]
    clear hW2 d0 d1
    go_wp2
    go_end0
    exact ⟨rfl, H2.out.1, _, _, H2.out.2⟩
end Go.Proofs.YtecalodcbkljoaaGreatDoor
namespace Go.Proofs.YtecalodcbkljoaaGreatDoor
open Go.RowKit
theorem Own.one {α : Type} {w w' : World} {base : Nat} {e : TypeId} {s : Nat} {enc : α → List Value} {v : Value} {xs : List α} {g : Nat} (h : Own w base e s enc v xs) (ho : One g w w') (hg : g < base) : Own w' base e s enc v xs := by
  refine ⟨h.1, h.2.imp id fun ⟨k, cap, cur, a1, a2, a3, r⟩ => ⟨k, cap, cur, a1, a2, ?_, r⟩⟩
  rw [ho.out k (Array.getElem?_eq_some_iff.1 a3).1 (by omega)]
  exact a3
theorem rowXX : (Tryz.prog.info? 64).map (fun i => (i.zero.map (·.cells.size), i.size, i.bytes)) = some (some 33, 33, 48) := by kernel_rfl
theorem underXs : Tryz.prog.underlying 22 = some (.slice 64) := Tryz.underlying22
theorem sl_newX (w : World) (y : It) (ty : TypeId) : Sl (w.alloc (.cells (aX y) ty)) cX (some ⟨w.heap.size, 0, none⟩) [y] := by
  refine fun _ => ⟨_, rfl, ?_⟩
  have e : [y].flatMap cX = cX y := by simp
  rw [e]
  exact at_new w (cX y) ty _ rfl
/-- What is read behind the items. -/
def finP (s : List UInt8) (l : List It) (r : Except (Int × Nat) (List It × Nat)) : Except (Int × Nat) (List It) :=
  match r with
  | .error e => .error e
  | .ok (m, b) => match lastP s b with
    | .error e => .error e
    | .ok _ => .ok (l ++ m)
theorem unpackP_fin (s : List UInt8) (h : s.length ≤ 4194304) (n a : Nat) (hf : firstP s = .ok (n, a)) : unpackP s = finP s [] (itemsP s n a) := by
  unfold unpackP finP
  rw [if_neg (by omega), hf]
  simp only []
  cases itemsP s n a with
  | error e => rfl
  | ok v =>
    obtain ⟨l, b⟩ := v
    simp only []
    cases lastP s b <;> rfl
theorem finP_step (s : List UInt8) (l : List It) (n a : Nat) : finP s l (itemsP s (n + 1) a) = match itemP s a with
    | .error e => .error e
    | .ok (x, b) => finP s (l ++ [x]) (itemsP s n b) := by
  rw [itemsP]
  cases itemP s a with
  | error e => rfl
  | ok v =>
    obtain ⟨x, b⟩ := v
    simp only []
    cases itemsP s n b with
    | error e => rfl
    | ok u =>
      obtain ⟨m, c⟩ := u
      simp only [finP]
      cases lastP s c with
      | error e => rfl
      | ok _ => simp
/-- The state of Unpack's loop: all well so far, or an error that stays. -/
def UnS (b : Nat) (s : ByteArray) (n t : Nat) (l : List It) (wr : World) : Prop :=
  (∃ a, t ≤ n ∧ a ≤ s.size ∧ Row wr b (cU ⟨s, (a : Int), 0, 0⟩) 73 ∧ unpackP (bl s) = finP (bl s) l (itemsP (bl s) (n - t) a)) ∨
  (∃ (e : Int) (k : Nat) (at_ : Int), e ≠ 0 ∧ Row wr b (cU ⟨s, at_, e, (k : Int)⟩) 73 ∧ unpackP (bl s) = .error (e, k))
def unpL (r : Except (Int × Nat) (List It)) : List It := match r with | .ok l => l | .error _ => []
def unpA (r : Except (Int × Nat) (List It)) : Int := match r with | .ok _ => 0 | .error (_, k) => (k : Int)
def unpE (r : Except (Int × Nat) (List It)) : Int := match r with | .ok _ => 0 | .error (e, _) => e
def UnpR (r : Except (Int × Nat) (List It)) (w : World) (e : Ending) (w' : World) : Prop :=
  ∃ A c, e = .returned (.tuple #[.slice A (unpL r).length c, .int .i64 (unpA r), .int .i64 (unpE r)]) ∧ (unpL r).length ≤ c ∧ Sl w' cX A (unpL r) ∧ Below w.heap.size w w'
theorem UnpR.err {er : Int × Nat} {w w' : World} (hb : Below w.heap.size w w') : UnpR (.error er) w (.returned (.tuple #[.slice none 0 0, .int .i64 (er.2 : Int), .int .i64 er.1])) w' :=
  ⟨none, 0, rfl, Nat.le_refl _, Sl.nil _ _ _, hb⟩
theorem firstP_n {s : List UInt8} : 0 ≤ firstV (firstP s) ∧ firstV (firstP s) ≤ 1000 := by
  unfold firstV
  cases h : firstP s with
  | error e => simp
  | ok v =>
    obtain ⟨n, a⟩ := v
    have := (firstP_back h).2.2.1
    simp only []
    omega
set_option maxRecDepth 100000 in
set_option maxHeartbeats 6400000 in
theorem unpack_s (s : ByteArray) (w : World) (hL : Laid w) (hsz : s.size ≤ 1073741824) : Calls Tryz.prog 9 #[.string s] w (UnpR (unpackP (bl s)) w) := by
  by_cases hbig : 4194304 < s.size
  · have hr : unpackP (bl s) = .error (5, 4194304) := by unfold unpackP; rw [if_pos (by rw [bl_length]; exact hbig)]
    rw [hr]
    have hbi : (4194304 : Int) < (s.size : Int) := by omega
    clear hr hL
    go_enter Tryz.func9, Tryz.ntmps9
    go_wp2
    go_ret3
    exact UnpR.err (Below.refl _ _)
  have hbi : ¬ (4194304 : Int) < (s.size : Int) := by omega
  obtain ⟨b, hb⟩ : ∃ b, w.heap.size = b := ⟨_, rfl⟩
  obtain ⟨W1, hW1⟩ : ∃ W1, w.alloc (.cells (aU ⟨s, 0, 0, 0⟩) 73) = W1 := ⟨_, rfl⟩
  have H1 := Lib.hid (show Below w.heap.size w W1 ∧ Row W1 b (cU ⟨s, 0, 0, 0⟩) 73 ∧ W1.heap.size = b + 1 ∧ FreeG b ∧ w.heap.size = b from by
    subst hW1 hb
    exact ⟨below_alloc _ _, Row.new w (cU ⟨s, 0, 0, 0⟩) _, by simp, hL.free (Nat.le_refl _), rfl⟩)
  obtain ⟨n, hn⟩ : ∃ n : Nat, firstV (firstP (bl s)) = (n : Int) := ⟨(firstV (firstP (bl s))).toNat, by have := (firstP_n (s := bl s)).1; omega⟩
  have hn1 : (n : Int) ≤ 1000 := by have := (firstP_n (s := bl s)).2; omega
  have HF := Lib.hid (first_c b s W1 H1.out.2.1 hsz)
  rw [hn] at HF
  have HNN := Lib.hid hn
  have HLA := Lib.hid hL
  have HSZ := Lib.hid (And.intro hsz hbig)
  have T0 : True := trivial
  clear hL hsz hbig hn
  go_enter Tryz.func9, Tryz.ntmps9
  go_wp2_with (go_at_call 31; refine HF.out.mono ?_; rintro e w2 ⟨rfl, ho2, hr2⟩; have H2 := Lib.hid (And.intro ho2 hr2); clear ho2 hr2)
  clear hb hW1 HF
  have H3 := Lib.hid (show Below w.heap.size w w2 ∧ UnS b s n 0 [] w2 from by
    have hbw : Below w.heap.size w w2 := H1.out.1.trans (H2.out.1.below (by have := H1.out.2.2.2.2; omega) H1.out.1.size)
    refine ⟨hbw, ?_⟩
    have hnn := HNN.out
    have hrr := H2.out.2
    cases hf : firstP (bl s) with
    | error er =>
      obtain ⟨e, k⟩ := er
      rw [hf] at hrr
      right
      obtain ⟨he, at_, hrow⟩ := hrr
      refine ⟨e, k, at_, he, hrow, ?_⟩
      unfold unpackP
      rw [if_neg (by rw [bl_length]; exact HSZ.out.2), hf]
    | ok v =>
      obtain ⟨m, a⟩ := v
      rw [hf] at hrr hnn
      left
      obtain ⟨hrow, hle⟩ := hrr
      have hmn : m = n := by
        have : (m : Int) = (n : Int) := hnn
        omega
      subst hmn
      exact ⟨a, Nat.zero_le _, hle, hrow, unpackP_fin (bl s) (by rw [bl_length]; have := HSZ.out.2; omega) m a hf⟩)
  go_loopw [2, 7] (fun v i wr => ∃ (t : Nat) (l : List It), t ≤ 1000 ∧ i = .int .i64 t ∧ l.length = t ∧ Own wr (b + 1) 64 33 cX v l ∧ Below w.heap.size w wr ∧ UnS b s n t l wr) (fun _ i _ => 1001 - (intOf i).toNat)
  case atStart => exact ⟨0, [], by omega, rfl, rfl, Own.nil _ _ _ _ _, H3.out.1, H3.out.2⟩
  case round =>
    obtain ⟨t, l, ht, rfl, hl, ho, hbw, hu⟩ := hrel
    have HO := Lib.hid (And.intro ho (And.intro hbw hl))
    clear ho hbw hl
    rcases hu with ⟨a, htn, hle, hrow, hun⟩ | ⟨e, k, at_, he, hrow, hun⟩
    · have c2 : wr.cell? ⟨b, 2, none⟩ = some (.int .i64 0) := (hrow.cell 2).trans rfl
      have HR := Lib.hid hrow
      clear hrow
      by_cases hlt : t < n
      · have hlti : (t : Int) < (n : Int) := by omega
        have hti : (t : Int) < 1000 := by omega
        have HU := Lib.hid (And.intro hun hle)
        clear hun hle
        go_wp2_with (first
          | (go_at_call 32; refine (item_c b s a _ (HLA.out.keep HO.out.2.1) H1.out.2.2.2.1 HR.out HSZ.out.1 HU.out.2).mono ?_; rintro e w5 ⟨rfl, ho5, hr5⟩; obtain ⟨y, hy⟩ : ∃ y, itemV (itemP (bl s) a) = y := ⟨_, rfl⟩; rw [hy]; have H5 := Lib.hid (show Own w5 (b + 1) 64 33 cX u2 l ∧ Below w.heap.size w w5 ∧ CuR b s (itemA (itemP (bl s) a)) w5 ∧ b < w5.heap.size ∧ itemV (itemP (bl s) a) = y from ⟨HO.out.1.one ho5 (by omega), HO.out.2.1.trans (ho5.below (by have := H1.out.2.2.2.2; omega) HO.out.2.1.size), hr5, Nat.lt_of_lt_of_le HR.out.lt ho5.size, hy⟩); clear ho5 hr5 hy)
          | (at_builtin; refine wpList_append_sl _ rfl (.tmp 28) (.tmp 31) 22 rfl (b + 1) 64 33 48 cX underXs rowXX (by decide) cX_length cX_one u2 l rfl (H5.out.1.keep (below_alloc _ _)) (some ⟨w5.heap.size, 0, none⟩) 1 1 [y] rfl rfl (sl_newX w5 y _) (by have := HO.out.2.2; omega) (by have := HO.out.2.2; omega) (by have := H5.out.2.2.2.1; simp; omega) ?_))
        intro v2 w6 ho6 hg6
        have hbs : b < (w5.alloc (.cells (aX y) 64)).heap.size := by have := H5.out.2.2.2.1; simp; omega
        have hb6 : ∀ cs, Row w5 b cs 73 → Row w6 b cs 73 := fun cs hr => (hr.keep (below_alloc _ _)).same (hg6.block b hbs (by
          intro e
          have := (H5.out.1.keep (below_alloc w5 (.cells (aX y) 64))).lt b e.symm
          omega))
        have H6 := Lib.hid (show Own w6 (b + 1) 64 33 cX v2 (l ++ [y]) ∧ Below w.heap.size w w6 ∧ UnS b s n (t + 1) (l ++ [y]) w6 from by
          refine ⟨ho6, Own.grew (H5.out.1.keep (below_alloc _ _)) hg6 (Below.step H5.out.2.1 (below_alloc _ _)) (by have := H1.out.2.2.2.2; omega) (by have := H1.out.2.2.2.2; omega), ?_⟩
          have h1 := H5.out.2.2.1
          have h2 := H5.out.2.2.2.2
          have h3 := HU.out.1
          rw [show n - t = (n - (t + 1)) + 1 by omega, finP_step] at h3
          cases hi : itemP (bl s) a with
          | error er =>
            obtain ⟨e, k⟩ := er
            rw [hi] at h1 h3
            obtain ⟨he, at_, hrow⟩ := h1
            exact .inr ⟨e, k, at_, he, hb6 _ hrow, h3⟩
          | ok u =>
            obtain ⟨x, a'⟩ := u
            rw [hi] at h1 h2 h3
            obtain ⟨hrow, hle'⟩ := h1
            obtain rfl : x = y := h2
            exact .inl ⟨a', by omega, hle', hb6 _ hrow, h3⟩)
        have HLL := Lib.hid (show (l ++ [y]).length = t + 1 from by rw [List.length_append, HO.out.2.2]; rfl)
        clear ho6 hg6 hbs hb6 c2
        go_wp2
        go_roundw
        case rel => exact ⟨t + 1, l ++ [y], by omega, by go_num, HLL.out, H6.out.1, H6.out.2.1, H6.out.2.2⟩
        case measure => simp [intOf]; omega
      · obtain rfl : t = n := by omega
        have HU := Lib.hid (show unpackP (bl s) = match lastP (bl s) a with | .error e => .error e | .ok _ => .ok l from by
          rw [hun, Nat.sub_self, itemsP]
          unfold finP
          simp only []
          cases lastP (bl s) a <;> simp)
        obtain ⟨Al, cl, rfl, hcl, hsl⟩ := HO.out.1.sl
        have HSL := Lib.hid (And.intro hsl hcl)
        have HLC := Lib.hid (last_c b s a wr HR.out HSZ.out.1 hle)
        clear hun hlt hsl hcl hle
        cases hlp : lastP (bl s) a with
        | error er =>
          obtain ⟨e, k⟩ := er
          have hr : unpackP (bl s) = .error (e, k) := by rw [HU.out, hlp]
          have HRR := Lib.hid hr
          rw [hlp] at HLC
          clear hr hlp HU
          go_wp2_with (go_at_call 33; refine HLC.out.mono ?_; rintro e5 w5 ⟨rfl, ho5, he5, at5, hr5⟩; have d2 : w5.cell? ⟨b, 2, none⟩ = some (.int .i64 e) := (hr5.cell 2).trans rfl; have hne : (e != 0) = true := (by simpa using he5); have H5 := Lib.hid (show Row w5 b (cU ⟨s, at5, e, (k : Int)⟩) 73 ∧ Below w.heap.size w w5 from ⟨hr5, HO.out.2.1.trans (ho5.below (by have := H1.out.2.2.2.2; omega) HO.out.2.1.size)⟩); clear ho5 hr5 he5 c2)
          have q2 : ∀ m, (w5.drewN m).cell? ⟨b, 2, none⟩ = some (.int .i64 e) := fun m => (H5.out.1.drewN m).cell 2
          have q3 : ∀ m, (w5.drewN m).cell? ⟨b, 3, none⟩ = some (.int .i64 (k : Int)) := fun m => (H5.out.1.drewN m).cell 3
          go_quiet (fail)
          have H6 := Lib.hid (Below.step H5.out.2 (below_drewN w5 nq))
          go_wp2
          go_ret3
          rw [HRR.out]
          exact UnpR.err H6.out
        | ok u =>
          have hr : unpackP (bl s) = .ok l := by rw [HU.out, hlp]
          have HRR := Lib.hid hr
          rw [hlp] at HLC
          clear hr hlp HU
          go_wp2_with (go_at_call 33; refine HLC.out.mono ?_; rintro e5 w5 ⟨rfl, ho5, at5, wh5, hr5⟩; have d2 : w5.cell? ⟨b, 2, none⟩ = some (.int .i64 0) := (hr5.cell 2).trans rfl; have H5 := Lib.hid (show Below w.heap.size w w5 ∧ Sl w5 cX Al l ∧ l.length ≤ cl from by
            have ho' := HO.out.1.one ho5 (by omega)
            obtain ⟨Aq, cq, e, h1, h2⟩ := ho'.sl
            injection e with e1 e2 e3
            subst e1 e3
            exact ⟨HO.out.2.1.trans (ho5.below (by have := H1.out.2.2.2.2; omega) HO.out.2.1.size), h2, h1⟩); clear ho5 hr5 c2)
          go_ret3
          rw [HRR.out]
          exact ⟨Al, cl, rfl, H5.out.2.2, H5.out.2.1, H5.out.1⟩
    · have c2 : wr.cell? ⟨b, 2, none⟩ = some (.int .i64 e) := (hrow.cell 2).trans rfl
      have hne : (e != 0) = true := by simpa using he
      have heq : (e == 0) = false := by simpa using he
      have HRR := Lib.hid hun
      have HLC := Lib.hid (last_err b _ wr hrow he)
      have H5 := Lib.hid (show Row wr b (cU ⟨s, at_, e, (k : Int)⟩) 73 ∧ Below w.heap.size w wr from ⟨hrow, HO.out.2.1⟩)
      clear hun hrow he
      by_cases hlt : t < n
      all_goals
        first
        | (have hlti : (t : Int) < (n : Int) := by omega)
        | (have hlti : ¬ (t : Int) < (n : Int) := by omega)
        clear hlt
        go_wp2_with (go_at_call 33; refine HLC.out.mono ?_; rintro e5 w5 ⟨rfl, rfl⟩)
        have q2 : ∀ m, (w5.drewN m).cell? ⟨b, 2, none⟩ = some (.int .i64 e) := fun m => (H5.out.1.drewN m).cell 2
        have q3 : ∀ m, (w5.drewN m).cell? ⟨b, 3, none⟩ = some (.int .i64 (k : Int)) := fun m => (H5.out.1.drewN m).cell 3
        go_quiet (fail)
        have H6 := Lib.hid (Below.step H5.out.2 (below_drewN w5 nq))
        go_wp2
        go_ret3
        rw [HRR.out]
        exact UnpR.err H6.out
end Go.Proofs.YtecalodcbkljoaaGreatDoor
