/- An item, read by a cursor. -/
import Derived.Test.YtecalodcbkljoaaGreatDoorMPrs
import Derived.Test.YtecalodcbkljoaaGreatDoorMPck
namespace Go.Proofs.YtecalodcbkljoaaGreatDoor
open Go.RowKit
def itemV (r : Except (Int × Nat) (It × Nat)) : It := match r with | .ok (x, _) => x | .error _ => zX
def itemA (r : Except (Int × Nat) (It × Nat)) : Except (Int × Nat) Nat := match r with | .ok (_, a) => .ok a | .error e => .error e
theorem cX_set (x : It) (s : ByteArray) : (cX x).set 32 (.string s) = cX { x with text := s } := by
  unfold cX
  rw [List.set_append_right _ _ (by rw [cI_length]; omega), cI_length]
  rfl
/-- What item's walk has laid ahead: the cursor, the result's variable. -/
structure ItW (g b : Nat) (s : ByteArray) (a : Nat) (w W1 : World) : Prop where
  one : One g w W1
  row : Row W1 g (cU ⟨s, (a : Int), 0, 0⟩) 73
  res : Row W1 b (cX zX) 64
  size : W1.heap.size = b + 1
  hb : w.heap.size = b
  lt : g < b
  laid : Laid W1
theorem Laid.one {w w' : World} {g : Nat} (h : Laid w) (ho : One g w w') (h1 : g ≠ 1) (h2 : g ≠ 0) (h3 : g ≠ 2) : Laid w' := by
  refine ⟨h.k.one ho h1, ⟨Nat.lt_of_lt_of_le h.max.1 ho.size, ?_⟩, ?_⟩
  · obtain ⟨m, hm⟩ := h.max.2
    refine ⟨m, ?_⟩
    rw [← hm]
    unfold World.cell?
    rw [ho.out _ h.max.1 (fun e => h2 e.symm)]
  · have ht := h.tab
    have hg : Tryz.prog.globalNamed "internal/strconv.uint64pow10" = some 2 := by kernel_rfl
    unfold Lib.TabIs World.var? at *
    rw [hg] at ht ⊢
    simp only [Option.bind_some] at ht ⊢
    cases hq : w.heap[2]? with
    | none => rw [hq] at ht; cases ht
    | some o => rw [ho.out _ (Array.getElem?_eq_some_iff.1 hq).1 (fun e => h3 e.symm)]; exact ht
/-- A block that no package-level variable lies in. -/
def FreeG (g : Nat) : Prop := g ≠ 1 ∧ g ≠ 0 ∧ g ≠ 2
theorem Laid.oneF {w w' : World} {g : Nat} (h : Laid w) (ho : One g w w') (hf : FreeG g) : Laid w' := h.one ho hf.1 hf.2.1 hf.2.2
theorem Laid.free {w : World} (h : Laid w) {g : Nat} (hg : w.heap.size ≤ g) : FreeG g := by
  have h1 := h.k.1
  have h2 := h.max.1
  have h3 : 2 < w.heap.size := by
    have ht := h.tab
    have hg : Tryz.prog.globalNamed "internal/strconv.uint64pow10" = some 2 := by kernel_rfl
    unfold Lib.TabIs World.var? at ht
    rw [hg] at ht
    simp only [Option.bind_some] at ht
    cases hq : w.heap[2]? with
    | none => rw [hq] at ht; cases ht
    | some o => exact (Array.getElem?_eq_some_iff.1 hq).1
  exact ⟨by omega, by omega, by omega⟩
/-- A store into a variable of the call's own does not count. -/
theorem One.res {w w' : World} {g : Nat} (h : One g w w') (b : Nat) (hb : w.heap.size = b) (ds : Array Value) : One g w (w'.setRow b ds) :=
  ⟨h.os, h.tape, h.output, by simpa [World.setRow] using h.size, fun k hk hg => by
    rw [← h.out k hk hg]
    show (w'.heap.modify b _)[k]? = _
    rw [Array.getElem?_modify, if_neg (by omega)]⟩
set_option maxRecDepth 100000 in
set_option maxHeartbeats 6400000 in
theorem item_c (g : Nat) (s : ByteArray) (a : Nat) (w : World) (hL : Laid w) (hF : FreeG g) (hrow : Row w g (cU ⟨s, (a : Int), 0, 0⟩) 73) (hsz : s.size ≤ 1073741824) (hle : a ≤ s.size) :
    Calls Tryz.prog 32 #[.pointer (some ⟨g, 0, none⟩)] w fun e w' => e = .returned (vX (itemV (itemP (bl s) a))) ∧ One g w w' ∧ CuR g s (itemA (itemP (bl s) a)) w' := by
  obtain ⟨b, hb⟩ : ∃ b, w.heap.size = b := ⟨_, rfl⟩
  obtain ⟨W1, hW1⟩ : ∃ W1, w.alloc (.cells (aX zX) 64) = W1 := ⟨_, rfl⟩
  have H1 := Lib.hid (show ItW g b s a w W1 from by
    subst hW1 hb
    exact ⟨One.of_below (below_alloc _ _), hrow.keep (below_alloc _ _), Row.new w (cX zX) _, by simp, rfl, hrow.lt, hL.keep (below_alloc _ _)⟩)
  have hS := bl_length s
  have HLA := Lib.hid hL
  clear hL hrow
  rcases hq : nlAt ((bl s).drop a) with _ | n
  · have hr : itemP (bl s) a = .error (23, s.size) := by unfold itemP; rw [hq, hS]
    rw [hr]
    have HL := Lib.hid (line_no g ⟨s, (a : Int), 0, 0⟩ a W1 H1.out.row rfl rfl hsz hle hq)
    clear hq hr hS
    go_enter Tryz.func32, Tryz.ntmps32
    go_wp2_with (go_at_call 52; refine HL.out.mono ?_; rintro e w1 ⟨rfl, ho1, hr1⟩; have c2 : w1.cell? ⟨g, 2, none⟩ = some (.int .i64 23) := (hr1.cell 2).trans rfl; obtain ⟨⟨-, -, ro⟩, -, -⟩ := rowX (ho1.row H1.out.res (by have := H1.out.lt; omega)); have H2 := Lib.hid (And.intro ho1 hr1); clear ho1 hr1)
    have hld := load_x (at_setRow (cX zX) ro)
    exact bodyPost_ret (results_c1 (ad := ⟨b, 0, none⟩) rfl rfl hld) rfl ⟨rfl, (H1.out.one.trans H2.out.1).res b H1.out.hb _, by decide, _, H2.out.2.setRow_ne (by have := H1.out.lt; omega)⟩
  have hlt := (nlAt_spec hq).2.2
  rw [List.length_drop, hS] at hlt
  obtain ⟨L, hLd⟩ : ∃ L, s.extract a (a + n) = L := ⟨_, rfl⟩
  have hbl : bl L = ((bl s).drop a).take n := by rw [← hLd, bl_piece]
  have HL := Lib.hid (line_yes g ⟨s, (a : Int), 0, 0⟩ a W1 n H1.out.row rfl rfl hsz hle hq)
  have HLS := Lib.hid (show L.size ≤ 1073741824 by rw [← bl_length, hbl, List.length_take, List.length_drop]; omega)
  have HLL := Lib.hid hLd
  have HFF := Lib.hid hF
  obtain ⟨q, hqq⟩ : ∃ q, a + n + 1 = q := ⟨_, rfl⟩
  rw [hqq] at HL
  have hqs : q ≤ 1073741824 := by omega
  clear hLd hF
  rcases hp : parseI (bl L) with _ | ⟨id, k, d⟩
  · clear hsz
    have hr : itemP (bl s) a = .error (3, a) := by unfold itemP; rw [hq]; simp only []; rw [← hbl, hp]
    rw [hr]
    have HP := Lib.hid (show lineV (parseI (bl L)) = .tuple #[vX zX, .int .i64 0, .string ⟨#[]⟩, .bool false] by rw [hp]; rfl)
    clear hq hr hS hp hbl hlt hqq
    go_enter Tryz.func32, Tryz.ntmps32
    go_wp2_with (first
      | (go_at_call 52; refine HL.out.mono ?_; rintro e w1 ⟨rfl, ho1, hr1⟩; rw [HLL.out]; have c2 : w1.cell? ⟨g, 2, none⟩ = some (.int .i64 0) := (hr1.cell 2).trans rfl; have H2 := Lib.hid (show One g w w1 ∧ Row w1 g (cU ⟨s, (q : Int), 0, 0⟩) 73 ∧ Row w1 b (cX zX) 64 ∧ Laid w1 from ⟨H1.out.one.trans ho1, hr1, ho1.row H1.out.res (by have := H1.out.lt; omega), H1.out.laid.oneF ho1 HFF.out⟩); clear ho1 hr1)
      | (go_at_call 56; refine (parse_line L _ H2.out.2.2.2 HLS.out).mono ?_; rintro e w3 ⟨rfl, hb3⟩; rw [HP.out]; obtain ⟨W4, hW4⟩ : ∃ W4, w3.alloc (.cells (aX zX) 64) = W4 := ⟨_, rfl⟩; have H3 := Lib.hid (show One g w W4 ∧ Row W4 g (cU ⟨s, (q : Int), 0, 0⟩) 73 ∧ Row W4 b (cX zX) 64 ∧ Laid W4 ∧ Row W4 w3.heap.size (cX zX) 64 ∧ g < w3.heap.size ∧ b < w3.heap.size from by rw [← hW4]; exact ⟨(H2.out.1.trans (One.of_below hb3)).trans (One.of_below (below_alloc _ _)), (H2.out.2.1.keep hb3).keep (below_alloc _ _), (H2.out.2.2.1.keep hb3).keep (below_alloc _ _), (H2.out.2.2.2.keep hb3).keep (below_alloc _ _), Row.new w3 (cX _) _, Nat.lt_of_lt_of_le H2.out.2.1.lt hb3.size, Nat.lt_of_lt_of_le H2.out.2.2.1.lt hb3.size⟩); obtain ⟨⟨-, -, ro5⟩, -, -⟩ := rowX H3.out.2.2.2.2.1; have hW5 : W4.setRow w3.heap.size (aX zX) = W4 := (by rw [← hW4]; exact setRow_new _ _ _ _ _ rfl); clear hb3 c2)
      | (go_at_call 55; refine (fail_c g _ 3 (a : Int) _ H3.out.2.1 rfl).mono ?_; rintro e w6 ⟨rfl, ho6, hr6⟩; obtain ⟨⟨-, -, ro⟩, -, -⟩ := rowX (ho6.row H3.out.2.2.1 (by have := H1.out.lt; omega)); have H6 := Lib.hid (And.intro ho6 hr6); clear ho6 hr6))
    have hld := load_x (at_setRow (cX zX) ro)
    exact bodyPost_ret (results_c1 (ad := ⟨b, 0, none⟩) rfl rfl hld) rfl ⟨rfl, (H3.out.1.trans H6.out.1).res b H1.out.hb _, by decide, _, H6.out.2.setRow_ne (by have := H1.out.lt; omega)⟩

  have hk := (parseI_back hp).2.1
  have hki : (k : Int) ≤ 65536 := by omega
  have hqi : (q : Int) ≤ 1073741824 := by omega
  by_cases h1 : s.size ≤ q + k
  · clear hsz
    have hr : itemP (bl s) a = .error (23, s.size) := by unfold itemP; rw [hq]; simp only []; rw [← hbl, hp]; simp only [hqq]; rw [if_pos (by rw [hS]; exact h1), hS]
    have h1i : (s.size : Int) ≤ (q : Int) + (k : Int) := by omega
    rw [hr]
    have HP := Lib.hid (show lineV (parseI (bl L)) = .tuple #[vX ⟨id, ⟨#[]⟩⟩, .int .i64 (k : Int), .string ⟨d.toArray⟩, .bool true] by rw [hp]; rfl)
    clear hq hr hS hp hbl hlt hqq
    go_enter Tryz.func32, Tryz.ntmps32
    go_wp2_with (first
      | (go_at_call 52; refine HL.out.mono ?_; rintro e w1 ⟨rfl, ho1, hr1⟩; rw [HLL.out]; have c2 : w1.cell? ⟨g, 2, none⟩ = some (.int .i64 0) := (hr1.cell 2).trans rfl; have H2 := Lib.hid (show One g w w1 ∧ Row w1 g (cU ⟨s, (q : Int), 0, 0⟩) 73 ∧ Row w1 b (cX zX) 64 ∧ Laid w1 from ⟨H1.out.one.trans ho1, hr1, ho1.row H1.out.res (by have := H1.out.lt; omega), H1.out.laid.oneF ho1 HFF.out⟩); clear ho1 hr1)
      | (go_at_call 56; refine (parse_line L _ H2.out.2.2.2 HLS.out).mono ?_; rintro e w3 ⟨rfl, hb3⟩; rw [HP.out]; obtain ⟨W4, hW4⟩ : ∃ W4, w3.alloc (.cells (aX ⟨id, ⟨#[]⟩⟩) 64) = W4 := ⟨_, rfl⟩; have H3 := Lib.hid (show One g w W4 ∧ Row W4 g (cU ⟨s, (q : Int), 0, 0⟩) 73 ∧ Row W4 b (cX zX) 64 ∧ Laid W4 ∧ Row W4 w3.heap.size (cX ⟨id, ⟨#[]⟩⟩) 64 ∧ g < w3.heap.size ∧ b < w3.heap.size from by rw [← hW4]; exact ⟨(H2.out.1.trans (One.of_below hb3)).trans (One.of_below (below_alloc _ _)), (H2.out.2.1.keep hb3).keep (below_alloc _ _), (H2.out.2.2.1.keep hb3).keep (below_alloc _ _), (H2.out.2.2.2.keep hb3).keep (below_alloc _ _), Row.new w3 (cX _) _, Nat.lt_of_lt_of_le H2.out.2.1.lt hb3.size, Nat.lt_of_lt_of_le H2.out.2.2.1.lt hb3.size⟩); have d0 : W4.cell? ⟨g, 0, none⟩ = some (.string s) := H3.out.2.1.cell 0; have d1 : W4.cell? ⟨g, 1, none⟩ = some (.int .i64 (q : Int)) := H3.out.2.1.cell 1; clear hb3 c2)
      | (go_at_call 55; refine (fail_c g _ 23 (s.size : Int) _ H3.out.2.1 rfl).mono ?_; rintro e w6 ⟨rfl, ho6, hr6⟩; obtain ⟨⟨-, -, ro⟩, -, -⟩ := rowX (ho6.row H3.out.2.2.1 (by have := H1.out.lt; omega)); have H6 := Lib.hid (And.intro ho6 hr6); clear ho6 hr6))
    have hld := load_x (at_setRow (cX zX) ro)
    exact bodyPost_ret (results_c1 (ad := ⟨b, 0, none⟩) rfl rfl hld) rfl ⟨rfl, (H3.out.1.trans H6.out.1).res b H1.out.hb _, by decide, _, H6.out.2.setRow_ne (by have := H1.out.lt; omega)⟩

  have hlk : q + k < s.size := by omega
  have hgd : (bl s).getD (q + k) 0 = s[q + k]'hlk := by
    rw [List.getD_eq_getElem?_getD, List.getElem?_eq_getElem (by rw [hS]; exact hlk)]
    rfl
  have h1i : (q : Int) + (k : Int) < (s.size : Int) := by omega
  by_cases h2 : s[q + k]'hlk ≠ 10
  · clear hsz
    have hr : itemP (bl s) a = .error (3, q + k) := by unfold itemP; rw [hq]; simp only []; rw [← hbl, hp]; simp only [hqq]; rw [if_neg (by rw [hS]; exact h1), if_pos (by rw [hgd]; exact h2)]
    have hcb : (((s[q + k]'hlk).toNat : Int) != 10) = true := by
      have h3 : (s[q + k]'hlk).toNat ≠ 10 := fun e => h2 (UInt8.toNat_inj.1 e)
      simp
      omega
    rw [hr]
    have HP := Lib.hid (show lineV (parseI (bl L)) = .tuple #[vX ⟨id, ⟨#[]⟩⟩, .int .i64 (k : Int), .string ⟨d.toArray⟩, .bool true] by rw [hp]; rfl)
    clear hq hr hS hp hbl hlt hqq
    go_enter Tryz.func32, Tryz.ntmps32
    go_wp2_with (first
      | (go_at_call 52; refine HL.out.mono ?_; rintro e w1 ⟨rfl, ho1, hr1⟩; rw [HLL.out]; have c2 : w1.cell? ⟨g, 2, none⟩ = some (.int .i64 0) := (hr1.cell 2).trans rfl; have H2 := Lib.hid (show One g w w1 ∧ Row w1 g (cU ⟨s, (q : Int), 0, 0⟩) 73 ∧ Row w1 b (cX zX) 64 ∧ Laid w1 from ⟨H1.out.one.trans ho1, hr1, ho1.row H1.out.res (by have := H1.out.lt; omega), H1.out.laid.oneF ho1 HFF.out⟩); clear ho1 hr1)
      | (go_at_call 56; refine (parse_line L _ H2.out.2.2.2 HLS.out).mono ?_; rintro e w3 ⟨rfl, hb3⟩; rw [HP.out]; obtain ⟨W4, hW4⟩ : ∃ W4, w3.alloc (.cells (aX ⟨id, ⟨#[]⟩⟩) 64) = W4 := ⟨_, rfl⟩; have H3 := Lib.hid (show One g w W4 ∧ Row W4 g (cU ⟨s, (q : Int), 0, 0⟩) 73 ∧ Row W4 b (cX zX) 64 ∧ Laid W4 ∧ Row W4 w3.heap.size (cX ⟨id, ⟨#[]⟩⟩) 64 ∧ g < w3.heap.size ∧ b < w3.heap.size from by rw [← hW4]; exact ⟨(H2.out.1.trans (One.of_below hb3)).trans (One.of_below (below_alloc _ _)), (H2.out.2.1.keep hb3).keep (below_alloc _ _), (H2.out.2.2.1.keep hb3).keep (below_alloc _ _), (H2.out.2.2.2.keep hb3).keep (below_alloc _ _), Row.new w3 (cX _) _, Nat.lt_of_lt_of_le H2.out.2.1.lt hb3.size, Nat.lt_of_lt_of_le H2.out.2.2.1.lt hb3.size⟩); have d0 : W4.cell? ⟨g, 0, none⟩ = some (.string s) := H3.out.2.1.cell 0; have d1 : W4.cell? ⟨g, 1, none⟩ = some (.int .i64 (q : Int)) := H3.out.2.1.cell 1; clear hb3 c2)
      | (go_at_call 55; refine (fail_c g _ 3 ((q + k : Nat) : Int) _ H3.out.2.1 rfl).mono ?_; rintro e w6 ⟨rfl, ho6, hr6⟩; obtain ⟨⟨-, -, ro⟩, -, -⟩ := rowX (ho6.row H3.out.2.2.1 (by have := H1.out.lt; omega)); have H6 := Lib.hid (And.intro ho6 hr6); clear ho6 hr6))
    have hld := load_x (at_setRow (cX zX) ro)
    exact bodyPost_ret (results_c1 (ad := ⟨b, 0, none⟩) rfl rfl hld) rfl ⟨rfl, (H3.out.1.trans H6.out.1).res b H1.out.hb _, by decide, _, H6.out.2.setRow_ne (by have := H1.out.lt; omega)⟩

  have hcb : (((s[q + k]'hlk).toNat : Int) != 10) = false := by
    have h3 : (s[q + k]'hlk) = 10 := Classical.not_not.1 h2
    rw [h3]
    rfl
  obtain ⟨T, hT⟩ : ∃ T, s.extract q (q + k) = T := ⟨_, rfl⟩
  by_cases h3 : digT ⟨id, T⟩ = d
  · clear hsz
    have HP := Lib.hid (show lineV (parseI (bl L)) = .tuple #[vX ⟨id, ⟨#[]⟩⟩, .int .i64 (k : Int), .string ⟨d.toArray⟩, .bool true] by rw [hp]; rfl)
    have hqk : (q : Int) ≤ (q : Int) + (k : Int) := by omega
    have hTT : s.extract q (q + k) = T := hT
    have hTe : (⟨(((bl s).drop q).take k).toArray⟩ : ByteArray) = T := by
      apply bl_inj
      rw [← hT, bl_piece]
    have hr : itemP (bl s) a = if digT ⟨id, T⟩ ≠ d then .error (22, a) else .ok (⟨id, T⟩, q + k + 1) := by
      unfold itemP
      rw [hq]
      simp only []
      rw [← hbl, hp]
      simp only [hqq]
      rw [if_neg (by rw [hS]; exact h1), if_neg (by rw [hgd]; exact h2), hTe]
    rw [if_neg (by simpa using h3)] at hr
    rw [hr]
    clear hq hS hp hbl hlt hqq hT hTe hr
    go_enter Tryz.func32, Tryz.ntmps32
    go_wp2_with (first
      | (go_at_call 52; refine HL.out.mono ?_; rintro e w1 ⟨rfl, ho1, hr1⟩; rw [HLL.out]; have c2 : w1.cell? ⟨g, 2, none⟩ = some (.int .i64 0) := (hr1.cell 2).trans rfl; have H2 := Lib.hid (show One g w w1 ∧ Row w1 g (cU ⟨s, (q : Int), 0, 0⟩) 73 ∧ Row w1 b (cX zX) 64 ∧ Laid w1 from ⟨H1.out.one.trans ho1, hr1, ho1.row H1.out.res (by have := H1.out.lt; omega), H1.out.laid.oneF ho1 HFF.out⟩); clear ho1 hr1)
      | (go_at_call 56; refine (parse_line L _ H2.out.2.2.2 HLS.out).mono ?_; rintro e w3 ⟨rfl, hb3⟩; rw [HP.out]; obtain ⟨W4, hW4⟩ : ∃ W4, w3.alloc (.cells (aX ⟨id, ⟨#[]⟩⟩) 64) = W4 := ⟨_, rfl⟩; have H3 := Lib.hid (show One g w W4 ∧ Row W4 g (cU ⟨s, (q : Int), 0, 0⟩) 73 ∧ Row W4 b (cX zX) 64 ∧ Laid W4 ∧ Row W4 w3.heap.size (cX ⟨id, ⟨#[]⟩⟩) 64 ∧ g < w3.heap.size ∧ b < w3.heap.size from by rw [← hW4]; exact ⟨(H2.out.1.trans (One.of_below hb3)).trans (One.of_below (below_alloc _ _)), (H2.out.2.1.keep hb3).keep (below_alloc _ _), (H2.out.2.2.1.keep hb3).keep (below_alloc _ _), (H2.out.2.2.2.keep hb3).keep (below_alloc _ _), Row.new w3 (cX _) _, Nat.lt_of_lt_of_le H2.out.2.1.lt hb3.size, Nat.lt_of_lt_of_le H2.out.2.2.1.lt hb3.size⟩); have d0 : W4.cell? ⟨g, 0, none⟩ = some (.string s) := H3.out.2.1.cell 0; have d1 : W4.cell? ⟨g, 1, none⟩ = some (.int .i64 (q : Int)) := H3.out.2.1.cell 1; have d5 : W4.cell? ⟨w3.heap.size, 32, none⟩ = some (.string ⟨#[]⟩) := (by rw [H3.out.2.2.2.2.1.cell, aX_32']); have z5 : W4.frozen? ⟨w3.heap.size, 32, none⟩ = false := H3.out.2.2.2.2.1.fz 32; clear hb3 c2))
    obtain ⟨g5, hg5⟩ : ∃ g5, w3.heap.size = g5 := ⟨_, rfl⟩
    rw [hg5] at H3 d5 z5
    rw [hg5]
    clear hg5 hW4
    go_region
    obtain ⟨W5, hW5⟩ : ∃ W5, (W4.setCell ⟨g5, 32, none⟩ (.string T)).drew = W5 := ⟨_, rfl⟩
    have h5 := H3.out.2.2.2.2.1.set 32 (.string T)
    rw [cX_set] at h5
    have H5 := Lib.hid (show Row W5 g (cU ⟨s, (q : Int), 0, 0⟩) 73 ∧ Row W5 b (cX zX) 64 ∧ Row W5 g5 (cX ⟨id, T⟩) 64 ∧ w.heap.size ≤ g5 from by
      have h6 := H3.out.2.2.2.2.2.1
      have h7 := H3.out.2.2.2.2.2.2
      rw [← hW5]
      exact ⟨H3.out.2.1.same (heap_set_other _ _ _ _ _ (by omega)), H3.out.2.2.1.same (heap_set_other _ _ _ _ _ (by omega)), h5, by have := H1.out.hb; omega⟩)
    have HO5 := Lib.hid (show One g w W5 from by
      rw [← hW5]
      have h6 := H3.out.1
      have h8 := H5.out.2.2.2
      exact ⟨h6.os, h6.tape, h6.output, by simpa [World.setCell, World.drew] using h6.size, fun j hj hg => (heap_set_other _ _ _ _ j (by omega)).trans (h6.out j hj hg)⟩)
    rw [hW5]
    clear hW5 h5 d0 d1 d5 z5
    have c1 : W5.cell? ⟨g, 1, none⟩ = some (.int .i64 (q : Int)) := H5.out.1.cell 1
    have z1 : W5.frozen? ⟨g, 1, none⟩ = false := H5.out.1.fz 1
    obtain ⟨W6, hW6⟩ : ∃ W6, W5.setCell ⟨g, 1, none⟩ (.int .i64 ((q : Int) + (k : Int) + 1)) = W6 := ⟨_, rfl⟩
    have H6 := Lib.hid (show One g w W6 ∧ Row W6 g (cU ⟨s, ((q + k + 1 : Nat) : Int), 0, 0⟩) 73 ∧ Row W6 b (cX zX) 64 ∧ Row W6 g5 (cX ⟨id, T⟩) 64 from by
      have h6 := H3.out.2.2.2.2.2.1
      have h7 := H1.out.lt
      rw [← hW6]
      refine ⟨HO5.out.trans (One.set 1 _), ?_, H5.out.2.1.same (heap_set_other _ _ _ _ _ (by omega)), H5.out.2.2.1.same (heap_set_other _ _ _ _ _ (by omega))⟩
      have h8 := H5.out.1.set 1 (.int .i64 ((q : Int) + (k : Int) + 1))
      have e : ((q + k + 1 : Nat) : Int) = (q : Int) + (k : Int) + 1 := by omega
      rw [e]
      exact h8)
    have HL6 := Lib.hid (H1.out.laid)
    have HLW := Lib.hid (show Laid W6 from (HLA.out.oneF H6.out.1 HFF.out))
    obtain ⟨⟨x1, x2, -⟩, -, -⟩ := rowX H6.out.2.2.2
    obtain ⟨⟨-, -, ro⟩, -, -⟩ := rowX H6.out.2.2.1
    have HTS := Lib.hid (show T.size ≤ 1073741824 from by
      rw [← hTT, ByteArray.size_extract]
      omega)
    have hcp : ((digS ⟨id, T⟩).toList == d) = true := by
      rw [Lib.toList_data, ← h3]
      simp [digS]
    have HLK := Lib.hid hlk
    clear hTT
    go_wp2_with (go_at_call 57; refine (digest_i ⟨id, T⟩ _ HLW.out HTS.out).mono ?_; rintro e w8 ⟨rfl, hb8⟩; obtain ⟨⟨x3, x4, -⟩, -, -⟩ := rowX (H6.out.2.2.2.keep hb8); obtain ⟨⟨-, -, ro8⟩, -, -⟩ := rowX (H6.out.2.2.1.keep hb8); have H8 := Lib.hid hb8; clear hb8)
    have hld := load_x (at_setRow (cX ⟨id, T⟩) ro8)
    exact bodyPost_ret (results_c1 (ad := ⟨b, 0, none⟩) rfl rfl hld) rfl ⟨rfl, (H6.out.1.trans (One.of_below H8.out)).res b H1.out.hb _, (H6.out.2.1.keep H8.out).setRow_ne (by have := H1.out.lt; omega), HLK.out⟩

  · clear hsz
    have HP := Lib.hid (show lineV (parseI (bl L)) = .tuple #[vX ⟨id, ⟨#[]⟩⟩, .int .i64 (k : Int), .string ⟨d.toArray⟩, .bool true] by rw [hp]; rfl)
    have hqk : (q : Int) ≤ (q : Int) + (k : Int) := by omega
    have hTT : s.extract q (q + k) = T := hT
    have hTe : (⟨(((bl s).drop q).take k).toArray⟩ : ByteArray) = T := by
      apply bl_inj
      rw [← hT, bl_piece]
    have hr : itemP (bl s) a = if digT ⟨id, T⟩ ≠ d then .error (22, a) else .ok (⟨id, T⟩, q + k + 1) := by
      unfold itemP
      rw [hq]
      simp only []
      rw [← hbl, hp]
      simp only [hqq]
      rw [if_neg (by rw [hS]; exact h1), if_neg (by rw [hgd]; exact h2), hTe]
    rw [if_pos h3] at hr
    rw [hr]
    clear hq hS hp hbl hlt hqq hT hTe hr
    go_enter Tryz.func32, Tryz.ntmps32
    go_wp2_with (first
      | (go_at_call 52; refine HL.out.mono ?_; rintro e w1 ⟨rfl, ho1, hr1⟩; rw [HLL.out]; have c2 : w1.cell? ⟨g, 2, none⟩ = some (.int .i64 0) := (hr1.cell 2).trans rfl; have H2 := Lib.hid (show One g w w1 ∧ Row w1 g (cU ⟨s, (q : Int), 0, 0⟩) 73 ∧ Row w1 b (cX zX) 64 ∧ Laid w1 from ⟨H1.out.one.trans ho1, hr1, ho1.row H1.out.res (by have := H1.out.lt; omega), H1.out.laid.oneF ho1 HFF.out⟩); clear ho1 hr1)
      | (go_at_call 56; refine (parse_line L _ H2.out.2.2.2 HLS.out).mono ?_; rintro e w3 ⟨rfl, hb3⟩; rw [HP.out]; obtain ⟨W4, hW4⟩ : ∃ W4, w3.alloc (.cells (aX ⟨id, ⟨#[]⟩⟩) 64) = W4 := ⟨_, rfl⟩; have H3 := Lib.hid (show One g w W4 ∧ Row W4 g (cU ⟨s, (q : Int), 0, 0⟩) 73 ∧ Row W4 b (cX zX) 64 ∧ Laid W4 ∧ Row W4 w3.heap.size (cX ⟨id, ⟨#[]⟩⟩) 64 ∧ g < w3.heap.size ∧ b < w3.heap.size from by rw [← hW4]; exact ⟨(H2.out.1.trans (One.of_below hb3)).trans (One.of_below (below_alloc _ _)), (H2.out.2.1.keep hb3).keep (below_alloc _ _), (H2.out.2.2.1.keep hb3).keep (below_alloc _ _), (H2.out.2.2.2.keep hb3).keep (below_alloc _ _), Row.new w3 (cX _) _, Nat.lt_of_lt_of_le H2.out.2.1.lt hb3.size, Nat.lt_of_lt_of_le H2.out.2.2.1.lt hb3.size⟩); have d0 : W4.cell? ⟨g, 0, none⟩ = some (.string s) := H3.out.2.1.cell 0; have d1 : W4.cell? ⟨g, 1, none⟩ = some (.int .i64 (q : Int)) := H3.out.2.1.cell 1; have d5 : W4.cell? ⟨w3.heap.size, 32, none⟩ = some (.string ⟨#[]⟩) := (by rw [H3.out.2.2.2.2.1.cell, aX_32']); have z5 : W4.frozen? ⟨w3.heap.size, 32, none⟩ = false := H3.out.2.2.2.2.1.fz 32; clear hb3 c2))
    obtain ⟨g5, hg5⟩ : ∃ g5, w3.heap.size = g5 := ⟨_, rfl⟩
    rw [hg5] at H3 d5 z5
    rw [hg5]
    clear hg5 hW4
    go_region
    obtain ⟨W5, hW5⟩ : ∃ W5, (W4.setCell ⟨g5, 32, none⟩ (.string T)).drew = W5 := ⟨_, rfl⟩
    have h5 := H3.out.2.2.2.2.1.set 32 (.string T)
    rw [cX_set] at h5
    have H5 := Lib.hid (show Row W5 g (cU ⟨s, (q : Int), 0, 0⟩) 73 ∧ Row W5 b (cX zX) 64 ∧ Row W5 g5 (cX ⟨id, T⟩) 64 ∧ w.heap.size ≤ g5 from by
      have h6 := H3.out.2.2.2.2.2.1
      have h7 := H3.out.2.2.2.2.2.2
      rw [← hW5]
      exact ⟨H3.out.2.1.same (heap_set_other _ _ _ _ _ (by omega)), H3.out.2.2.1.same (heap_set_other _ _ _ _ _ (by omega)), h5, by have := H1.out.hb; omega⟩)
    have HO5 := Lib.hid (show One g w W5 from by
      rw [← hW5]
      have h6 := H3.out.1
      have h8 := H5.out.2.2.2
      exact ⟨h6.os, h6.tape, h6.output, by simpa [World.setCell, World.drew] using h6.size, fun j hj hg => (heap_set_other _ _ _ _ j (by omega)).trans (h6.out j hj hg)⟩)
    rw [hW5]
    clear hW5 h5 d0 d1 d5 z5
    have c1 : W5.cell? ⟨g, 1, none⟩ = some (.int .i64 (q : Int)) := H5.out.1.cell 1
    have z1 : W5.frozen? ⟨g, 1, none⟩ = false := H5.out.1.fz 1
    obtain ⟨W6, hW6⟩ : ∃ W6, W5.setCell ⟨g, 1, none⟩ (.int .i64 ((q : Int) + (k : Int) + 1)) = W6 := ⟨_, rfl⟩
    have H6 := Lib.hid (show One g w W6 ∧ Row W6 g (cU ⟨s, ((q + k + 1 : Nat) : Int), 0, 0⟩) 73 ∧ Row W6 b (cX zX) 64 ∧ Row W6 g5 (cX ⟨id, T⟩) 64 from by
      have h6 := H3.out.2.2.2.2.2.1
      have h7 := H1.out.lt
      rw [← hW6]
      refine ⟨HO5.out.trans (One.set 1 _), ?_, H5.out.2.1.same (heap_set_other _ _ _ _ _ (by omega)), H5.out.2.2.1.same (heap_set_other _ _ _ _ _ (by omega))⟩
      have h8 := H5.out.1.set 1 (.int .i64 ((q : Int) + (k : Int) + 1))
      have e : ((q + k + 1 : Nat) : Int) = (q : Int) + (k : Int) + 1 := by omega
      rw [e]
      exact h8)
    have HL6 := Lib.hid (H1.out.laid)
    have HLW := Lib.hid (show Laid W6 from (HLA.out.oneF H6.out.1 HFF.out))
    obtain ⟨⟨x1, x2, -⟩, -, -⟩ := rowX H6.out.2.2.2
    obtain ⟨⟨-, -, ro⟩, -, -⟩ := rowX H6.out.2.2.1
    have HTS := Lib.hid (show T.size ≤ 1073741824 from by
      rw [← hTT, ByteArray.size_extract]
      omega)
    have hcp : ((digS ⟨id, T⟩).toList == d) = false := by
      rw [Lib.toList_data, beq_eq_false_iff_ne]
      exact h3
    clear hTT
    go_wp2_with (first
      | (go_at_call 57; refine (digest_i ⟨id, T⟩ _ HLW.out HTS.out).mono ?_; rintro e w8 ⟨rfl, hb8⟩; obtain ⟨⟨x3, x4, -⟩, -, -⟩ := rowX (H6.out.2.2.2.keep hb8); obtain ⟨⟨-, -, ro8⟩, -, -⟩ := rowX (H6.out.2.2.1.keep hb8); have H8 := Lib.hid hb8; clear hb8)
      | (go_at_call 55; refine (fail_c g _ 22 (a : Int) _ (H6.out.2.1.keep H8.out) rfl).mono ?_; rintro e w6 ⟨rfl, ho6, hr6⟩; obtain ⟨⟨-, -, ro⟩, -, -⟩ := rowX (ho6.row (H6.out.2.2.1.keep H8.out) (by have := H1.out.lt; omega)); have H9 := Lib.hid (And.intro ho6 hr6); clear ho6 hr6))
    have hld := load_x (at_setRow (cX zX) ro)
    exact bodyPost_ret (results_c1 (ad := ⟨b, 0, none⟩) rfl rfl hld) rfl ⟨rfl, ((H6.out.1.trans (One.of_below H8.out)).trans H9.out.1).res b H1.out.hb _, by decide, _, H9.out.2.setRow_ne (by have := H1.out.lt; omega)⟩

end Go.Proofs.YtecalodcbkljoaaGreatDoor
