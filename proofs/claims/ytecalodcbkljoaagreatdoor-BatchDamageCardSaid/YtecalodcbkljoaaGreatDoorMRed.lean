/- An item at an offset in the reference: bulletinref35.read. -/
import Derived.Test.YtecalodcbkljoaaGreatDoorMWds
import Derived.Test.YtecalodcbkljoaaGreatDoorMRps
import Derived.Test.YtecalodcbkljoaaGreatDoorMPrs
import Derived.Test.YtecalodcbkljoaaGreatDoorMPkp
namespace Go.Proofs.YtecalodcbkljoaaGreatDoor
open Go.RowKit
theorem load_f {w : World} {ad : Addr} {x : It} (h : At w ad (cX x)) : (loadVar 39 ad).run Tryz.prog w = .ok (vX x) w :=
  run_loadVar_at w ad 39 (cX x) _ h Tryz.underlying39 rfl (by rw [cX_length]; exact size39)
/-- What read returns. -/
def readV (r : Except (Int × Nat) (It × Nat)) : Value := match r with
  | .ok (x, b) => .tuple #[vX x, .int .i64 (b : Int), .int .i64 0, .int .i64 0]
  | .error (e, k) => .tuple #[vX zX, .int .i64 0, .int .i64 (k : Int), .int .i64 e]
theorem itemP_none {s : List UInt8} {a : Nat} (h : nlAt (s.drop a) = none) : itemP s a = .error (23, s.length) := by unfold itemP; rw [h]
theorem itemP_bad {s : List UInt8} {a n : Nat} (h : nlAt (s.drop a) = some n) (hp : parseI ((s.drop a).take n) = none) : itemP s a = .error (3, a) := by
  unfold itemP
  rw [h]
  simp only []
  rw [hp]
theorem numW_neg {l : List UInt8} {most : Int} : numW l most < 0 ↔ (numE l most).2 ≠ 0 := by
  unfold numW
  split
  · rename_i h
    have := (numE_back h rfl).2.1
    exact ⟨fun h2 => by omega, fun h2 => absurd h h2⟩
  · rename_i h
    exact ⟨fun _ => h, fun _ => by omega⟩
/-- What the calls for the digest and the identity return, by the error alone. -/
theorem unE_code {s : ByteArray} {w w' : World} {e : Ending} (h : UnE s w e w') : ∃ v c, e = .returned (.tuple #[v, .int .i64 c]) ∧ Below w.heap.size w w' ∧ (s.size % 2 = 0 ∧ (bl s).all hexB = true → c = 0) ∧ (¬ (s.size % 2 = 0 ∧ (bl s).all hexB = true) → c = 3) := by
  obtain ⟨hb, ⟨h1, rfl⟩ | ⟨h1, v, rfl, _⟩⟩ := h
  · exact ⟨_, _, rfl, hb, fun h => absurd h h1, fun _ => rfl⟩
  · exact ⟨_, _, rfl, hb, fun _ => rfl, fun h => absurd h1 h⟩
theorem paR_code {s : ByteArray} {w w' : World} {e : Ending} (h : PaR s w e w') : ∃ x a c, e = .returned (.tuple #[vI x, .int .i64 a, .int .i64 c]) ∧ Below w.heap.size w w' ∧ (identB (bl s) = true → c = 0 ∧ x = midL (bl s)) ∧ (¬ identB (bl s) = true → c ≠ 0) := by
  obtain ⟨hb, ⟨h1, rfl⟩ | ⟨h1, a, c, hc, rfl⟩⟩ := h
  · exact ⟨_, _, _, rfl, hb, fun _ => ⟨rfl, rfl⟩, fun h => absurd h1 h⟩
  · exact ⟨_, _, _, rfl, hb, fun h => absurd h (by rw [h1]; decide), fun _ => hc⟩
set_option maxRecDepth 100000 in
set_option maxHeartbeats 6400000 in
theorem read_b (s : ByteArray) (a : Nat) (w : World) (ha : a ≤ s.size) (hz : s.size ≤ 1073741824) : Calls Tryz.prog 37 #[.string s, .int .i64 (a : Int)] w fun e w' => e = .returned (readV (itemP (bl s) a)) ∧ Below w.heap.size w w' := by
  obtain ⟨b, hb⟩ : ∃ b, w.heap.size = b := ⟨_, rfl⟩
  obtain ⟨W1, hW1⟩ : ∃ W1, w.alloc (.cells (aX zX) 39) = W1 := ⟨_, rfl⟩
  have H1 := Lib.hid (show Below w.heap.size w W1 ∧ Row W1 b (cX zX) 39 ∧ b < W1.heap.size ∧ w.heap.size ≤ b from by
    subst hW1 hb
    exact ⟨below_alloc _ _, Row.new w (cX zX) _, by simp, Nat.le_refl _⟩)
  have hS := bl_length s
  have HEN := Lib.hid (rend_b s a ha hz W1)
  obtain ⟨⟨-, -, ro⟩, -, -⟩ := rowX H1.out.2.1
  rcases hq : nlAt ((bl s).drop a) with _ | n
  · rw [itemP_none hq, hS]
    have HEV := Lib.hid (show endV s a = -1 by unfold endV; rw [hq])
    rw [HEV.out] at HEN
    clear hq hS hz ha
    go_enter Tryz.func37, Tryz.ntmps37
    go_wp2_with (go_at_call 34; refine HEN.out.mono ?_; rintro e w2 ⟨rfl, rfl⟩)
    have hld := load_f (at_setRow (cX zX) ro)
    exact bodyPost_ret (v := .tuple #[vX zX, .int .i64 0, .int .i64 (s.size : Int), .int .i64 23]) (results_c4 (ad := ⟨b, 0, none⟩) rfl rfl hld rfl rfl rfl) rfl ⟨rfl, Below.setRow H1.out.1 H1.out.2.2.2 _⟩
  have hlt := (nlAt_spec hq).2.2
  rw [List.length_drop, hS] at hlt
  obtain ⟨L, hLd⟩ : ∃ L, s.extract a (a + n) = L := ⟨_, rfl⟩
  have hbl : bl L = ((bl s).drop a).take n := by rw [← hLd, bl_piece]
  have hib : parseI (bl L) = none → itemP (bl s) a = .error (3, a) := fun h => itemP_bad hq (by rw [← hbl]; exact h)
  have HEV := Lib.hid (show endV s a = ((a + n : Nat) : Int) by unfold endV; rw [hq])
  obtain ⟨q, hqq⟩ : ∃ q, a + n = q := ⟨_, rfl⟩
  rw [HEV.out, hqq] at HEN
  rw [hqq] at hLd
  have hqs : q ≤ 1073741824 := by omega
  have hq0 : ¬ (q : Int) < 0 := by omega
  have haq : (a : Int) ≤ (q : Int) := by omega
  have hqz : (q : Int) ≤ (s.size : Int) := by omega
  have HLS := Lib.hid (show L.size ≤ 1073741824 by rw [← bl_length, hbl, List.length_take, List.length_drop]; omega)
  obtain ⟨ws, hws⟩ : ∃ ws, (splitGo 32 [] (bl L)).map mkS = ws := ⟨_, rfl⟩
  have hgo : ws.map bl = splitGo 32 [] (bl L) := by
    rw [← hws, List.map_map]
    exact (List.map_congr_left (fun l _ => bl_mkS l)).trans (List.map_id _)
  have HWD := Lib.hid (words_b L HLS.out W1)
  rw [hws] at HWD
  have hsum0 : (unsp 32 (ws.map bl)).length ≤ 1073741824 := by
    rw [hgo, unsp_split, List.nil_append, bl_length]
    exact HLS.out
  clear hws ha
  by_cases h4 : ws.length = 4
  case neg =>
    have hr : parseI (bl L) = none := by
      unfold parseI
      rw [← hgo]
      split
      · rename_i p q r d hs
        have := congrArg List.length hs
        rw [List.length_map] at this
        exact absurd this h4
      · rfl
    rw [hib hr]
    have h4i : ((ws.length : Int) != 4) = true := by simp; omega
    clear hr hgo h4 hib hbl hlt hq hqq hS hz hsum0
    go_enter Tryz.func37, Tryz.ntmps37
    go_wp2_with (first
      | (go_at_call 34; refine HEN.out.mono ?_; rintro e w2 ⟨rfl, rfl⟩)
      | (go_at_call 35; refine HWD.out.mono ?_; rintro e w3 ⟨v3, rfl, ho3, hb3⟩; obtain ⟨A3, c3, rfl, -, -⟩ := ho3.sl; clear ro; obtain ⟨⟨-, -, ro⟩, -, -⟩ := rowX (H1.out.2.1.keep hb3); have H3 := Lib.hid (Below.step H1.out.1 hb3); clear hb3 ho3))
    have hld := load_f (at_setRow (cX zX) ro)
    exact bodyPost_ret (v := .tuple #[vX zX, .int .i64 0, .int .i64 (a : Int), .int .i64 3]) (results_c4 (ad := ⟨b, 0, none⟩) rfl rfl hld rfl rfl rfl) rfl ⟨rfl, Below.setRow H3.out H1.out.2.2.2 _⟩
  obtain ⟨w0, w1, w2, w3, HWS⟩ : ∃ w0 w1 w2 w3, ws = [w0, w1, w2, w3] := by
    match hm : ws, h4 with
    | [w0, w1, w2, w3], _ => exact ⟨w0, w1, w2, w3, rfl⟩
  rw [HWS] at HWD hgo hsum0
  clear h4
  have hp : parseI (bl L) = if bl w0 = artL ∧ (numE (bl w1) 65536).2 = 0 ∧ (bl w2).length % 2 = 0 ∧ (bl w2).all hexB = true ∧ (bl w2).length = 32 ∧ identB (bl w3) = true then some (midL (bl w3), (numE (bl w1) 65536).1.toNat, bl w2) else none := by
    unfold parseI
    rw [← hgo]
    rfl
  have hsum : w0.size ≤ 1073741824 ∧ w1.size ≤ 1073741824 ∧ w2.size ≤ 1073741824 ∧ w3.size ≤ 1073741824 := by
    simp only [List.map_cons, List.map_nil, unsp, List.length_append, List.length_cons, bl_length] at hsum0
    omega
  clear hgo hsum0 HWS ws
  have HSM := Lib.hid hsum
  clear hsum
  by_cases ha0 : w0 = ⟨#[97, 114, 116, 105, 99, 108, 101]⟩
  case neg =>
    have hr : parseI (bl L) = none := by rw [hp, if_neg (fun h => ha0 (bl_inj h.1))]
    rw [hib hr]
    have hab : (w0.toList == [97, 114, 116, 105, 99, 108, 101]) = false := by
      rw [beq_eq_false_iff_ne, Lib.toList_data]
      intro h
      exact ha0 (bl_inj h)
    clear hr hp ha0 hib hbl hlt hq hqq hS hz
    go_enter Tryz.func37, Tryz.ntmps37
    go_wp2_with (first
      | (go_at_call 34; refine HEN.out.mono ?_; rintro e w4 ⟨rfl, rfl⟩)
      | (go_at_call 35; refine HWD.out.mono ?_; rintro e w5 ⟨v5, rfl, ho5, hb5⟩; obtain ⟨g, c5, rfl, -⟩ := ho5.str0 (Nat.succ_pos _); have k0 : w5.cell? ⟨g, 0, none⟩ = some (.string w0) := (ho5.set1 0 w0 rfl).2.1; have k1 : w5.cell? ⟨g, 1, none⟩ = some (.string w1) := (ho5.set1 1 w1 rfl).2.1; have k2 : w5.cell? ⟨g, 2, none⟩ = some (.string w2) := (ho5.set1 2 w2 rfl).2.1; have k3 : w5.cell? ⟨g, 3, none⟩ = some (.string w3) := (ho5.set1 3 w3 rfl).2.1; clear ro; obtain ⟨⟨-, -, ro⟩, -, -⟩ := rowX (H1.out.2.1.keep hb5); have H5 := Lib.hid (show Below w.heap.size w w5 ∧ Row w5 b (cX zX) 39 ∧ w5.cell? ⟨g, 3, none⟩ = some (.string w3) from ⟨Below.step H1.out.1 hb5, H1.out.2.1.keep hb5, k3⟩); clear hb5 ho5))
    have hld := load_f (at_setRow (cX zX) ro)
    exact bodyPost_ret (v := .tuple #[vX zX, .int .i64 0, .int .i64 ((a : Int)), .int .i64 3]) (results_c4 (ad := ⟨b, 0, none⟩) rfl rfl hld rfl rfl rfl) rfl ⟨rfl, Below.setRow H5.out.1 H1.out.2.2.2 _⟩
  have hab : (w0.toList == [97, 114, 116, 105, 99, 108, 101]) = true := by rw [ha0, Lib.toList_data]; rfl
  by_cases h32 : w2.size = 32
  case neg =>
    have hr : parseI (bl L) = none := by rw [hp, if_neg (fun h => h32 (by rw [← bl_length]; exact h.2.2.2.2.1))]
    rw [hib hr]
    have h32b : ((w2.size : Int) != 32) = true := by simp; omega
    clear hr hp ha0 h32 hib hbl hlt hq hqq hS hz
    go_enter Tryz.func37, Tryz.ntmps37
    go_wp2_with (first
      | (go_at_call 34; refine HEN.out.mono ?_; rintro e w4 ⟨rfl, rfl⟩)
      | (go_at_call 35; refine HWD.out.mono ?_; rintro e w5 ⟨v5, rfl, ho5, hb5⟩; obtain ⟨g, c5, rfl, -⟩ := ho5.str0 (Nat.succ_pos _); have k0 : w5.cell? ⟨g, 0, none⟩ = some (.string w0) := (ho5.set1 0 w0 rfl).2.1; have k1 : w5.cell? ⟨g, 1, none⟩ = some (.string w1) := (ho5.set1 1 w1 rfl).2.1; have k2 : w5.cell? ⟨g, 2, none⟩ = some (.string w2) := (ho5.set1 2 w2 rfl).2.1; have k3 : w5.cell? ⟨g, 3, none⟩ = some (.string w3) := (ho5.set1 3 w3 rfl).2.1; clear ro; obtain ⟨⟨-, -, ro⟩, -, -⟩ := rowX (H1.out.2.1.keep hb5); have H5 := Lib.hid (show Below w.heap.size w w5 ∧ Row w5 b (cX zX) 39 ∧ w5.cell? ⟨g, 3, none⟩ = some (.string w3) from ⟨Below.step H1.out.1 hb5, H1.out.2.1.keep hb5, k3⟩); clear hb5 ho5))
    have hld := load_f (at_setRow (cX zX) ro)
    exact bodyPost_ret (v := .tuple #[vX zX, .int .i64 0, .int .i64 ((a : Int)), .int .i64 3]) (results_c4 (ad := ⟨b, 0, none⟩) rfl rfl hld rfl rfl rfl) rfl ⟨rfl, Below.setRow H5.out.1 H1.out.2.2.2 _⟩
  have h32b : ((w2.size : Int) != 32) = false := by rw [h32]; rfl
  obtain ⟨m, hm⟩ : ∃ m, numW (bl w1) 65536 = m := ⟨_, rfl⟩
  have HNU := Lib.hid (fun W => rnum_b w1 65536 (by decide) (by decide) HSM.out.2.1 W)
  rw [hm] at HNU
  by_cases hm0 : m < 0
  case pos =>
    have hr : parseI (bl L) = none := by rw [hp, if_neg (fun h => numW_neg.1 (by rw [hm]; exact hm0) h.2.1)]
    rw [hib hr]
    clear hr hp ha0 hib hbl hlt hq hqq hS hz hm
    go_enter Tryz.func37, Tryz.ntmps37
    go_wp2_with (first
      | (go_at_call 34; refine HEN.out.mono ?_; rintro e w4 ⟨rfl, rfl⟩)
      | (go_at_call 35; refine HWD.out.mono ?_; rintro e w5 ⟨v5, rfl, ho5, hb5⟩; obtain ⟨g, c5, rfl, -⟩ := ho5.str0 (Nat.succ_pos _); have k0 : w5.cell? ⟨g, 0, none⟩ = some (.string w0) := (ho5.set1 0 w0 rfl).2.1; have k1 : w5.cell? ⟨g, 1, none⟩ = some (.string w1) := (ho5.set1 1 w1 rfl).2.1; have k2 : w5.cell? ⟨g, 2, none⟩ = some (.string w2) := (ho5.set1 2 w2 rfl).2.1; have k3 : w5.cell? ⟨g, 3, none⟩ = some (.string w3) := (ho5.set1 3 w3 rfl).2.1; clear ro; obtain ⟨⟨-, -, ro⟩, -, -⟩ := rowX (H1.out.2.1.keep hb5); have H5 := Lib.hid (show Below w.heap.size w w5 ∧ Row w5 b (cX zX) 39 ∧ w5.cell? ⟨g, 3, none⟩ = some (.string w3) from ⟨Below.step H1.out.1 hb5, H1.out.2.1.keep hb5, k3⟩); clear hb5 ho5)
      | (go_at_call 36; refine (HNU.out _).mono ?_; rintro e w6 ⟨rfl, rfl⟩)
      | (go_at_call 58; refine (refUnhex35 w2 _ (by omega)).mono ?_; rintro e w7 hu7; obtain ⟨v7, c7, rfl, hb7, hy7, hn7⟩ := unE_code hu7; skip; have k3 : w7.cell? ⟨g, 3, none⟩ = some (.string w3) := cell_below H5.out.2.2 hb7; have H7 := Lib.hid (And.intro (Below.step H5.out.1 hb7) (H5.out.2.1.keep hb7)); clear hb7 hu7 hy7 hn7)
      | (go_at_call 59; refine (rparse_b w3 _).mono ?_; rintro e w8 hu8; obtain ⟨x8, a8, c8, rfl, hb8, hy8, hn8⟩ := paR_code hu8; skip; obtain ⟨W8, hW8⟩ : ∃ W8, w8.alloc (.cells (aI zI) 36) = W8 := ⟨_, rfl⟩; obtain ⟨g8, hg8⟩ : ∃ g8, w8.heap.size = g8 := ⟨_, rfl⟩; obtain ⟨W9, hW9⟩ : ∃ W9, w8.alloc (.cells (aI x8) 36) = W9 := ⟨_, rfl⟩; have H8 := Lib.hid (show Below w.heap.size w W9 ∧ Row W9 b (cX zX) 39 ∧ Row W9 g8 (cI x8) 36 from by rw [← hW9, ← hg8]; exact ⟨Below.step (Below.step H7.out.1 hb8) (below_alloc _ _), (H7.out.2.keep hb8).keep (below_alloc _ _), Row.new w8 (cI x8) _⟩); clear ro; obtain ⟨⟨-, -, ro⟩, -, -⟩ := rowX H8.out.2.1; clear hb8 hu8 hy8 hn8 hW8))
    try rw [hW9]
    have hld := load_f (at_setRow (cX zX) ro)
    exact bodyPost_ret (v := .tuple #[vX zX, .int .i64 0, .int .i64 ((a : Int)), .int .i64 3]) (results_c4 (ad := ⟨b, 0, none⟩) rfl rfl hld rfl rfl rfl) rfl ⟨rfl, Below.setRow H8.out.1 H1.out.2.2.2 _⟩
  by_cases hx : w2.size % 2 = 0 ∧ (bl w2).all hexB = true
  case neg =>
    have hr : parseI (bl L) = none := by rw [hp, if_neg (fun h => hx ⟨by rw [← bl_length]; exact h.2.2.1, h.2.2.2.1⟩)]
    rw [hib hr]
    have HXX := Lib.hid hx
    clear hr hp ha0 hib hbl hlt hq hqq hS hz hm hx
    go_enter Tryz.func37, Tryz.ntmps37
    go_wp2_with (first
      | (go_at_call 34; refine HEN.out.mono ?_; rintro e w4 ⟨rfl, rfl⟩)
      | (go_at_call 35; refine HWD.out.mono ?_; rintro e w5 ⟨v5, rfl, ho5, hb5⟩; obtain ⟨g, c5, rfl, -⟩ := ho5.str0 (Nat.succ_pos _); have k0 : w5.cell? ⟨g, 0, none⟩ = some (.string w0) := (ho5.set1 0 w0 rfl).2.1; have k1 : w5.cell? ⟨g, 1, none⟩ = some (.string w1) := (ho5.set1 1 w1 rfl).2.1; have k2 : w5.cell? ⟨g, 2, none⟩ = some (.string w2) := (ho5.set1 2 w2 rfl).2.1; have k3 : w5.cell? ⟨g, 3, none⟩ = some (.string w3) := (ho5.set1 3 w3 rfl).2.1; clear ro; obtain ⟨⟨-, -, ro⟩, -, -⟩ := rowX (H1.out.2.1.keep hb5); have H5 := Lib.hid (show Below w.heap.size w w5 ∧ Row w5 b (cX zX) 39 ∧ w5.cell? ⟨g, 3, none⟩ = some (.string w3) from ⟨Below.step H1.out.1 hb5, H1.out.2.1.keep hb5, k3⟩); clear hb5 ho5)
      | (go_at_call 36; refine (HNU.out _).mono ?_; rintro e w6 ⟨rfl, rfl⟩)
      | (go_at_call 58; refine (refUnhex35 w2 _ (by omega)).mono ?_; rintro e w7 hu7; obtain ⟨v7, c7, rfl, hb7, hy7, hn7⟩ := unE_code hu7; obtain rfl := hn7 HXX.out; have k3 : w7.cell? ⟨g, 3, none⟩ = some (.string w3) := cell_below H5.out.2.2 hb7; have H7 := Lib.hid (And.intro (Below.step H5.out.1 hb7) (H5.out.2.1.keep hb7)); clear hb7 hu7 hy7 hn7)
      | (go_at_call 59; refine (rparse_b w3 _).mono ?_; rintro e w8 hu8; obtain ⟨x8, a8, c8, rfl, hb8, hy8, hn8⟩ := paR_code hu8; skip; obtain ⟨W8, hW8⟩ : ∃ W8, w8.alloc (.cells (aI zI) 36) = W8 := ⟨_, rfl⟩; obtain ⟨g8, hg8⟩ : ∃ g8, w8.heap.size = g8 := ⟨_, rfl⟩; obtain ⟨W9, hW9⟩ : ∃ W9, w8.alloc (.cells (aI x8) 36) = W9 := ⟨_, rfl⟩; have H8 := Lib.hid (show Below w.heap.size w W9 ∧ Row W9 b (cX zX) 39 ∧ Row W9 g8 (cI x8) 36 from by rw [← hW9, ← hg8]; exact ⟨Below.step (Below.step H7.out.1 hb8) (below_alloc _ _), (H7.out.2.keep hb8).keep (below_alloc _ _), Row.new w8 (cI x8) _⟩); clear ro; obtain ⟨⟨-, -, ro⟩, -, -⟩ := rowX H8.out.2.1; clear hb8 hu8 hy8 hn8 hW8))
    try rw [hW9]
    have hld := load_f (at_setRow (cX zX) ro)
    exact bodyPost_ret (v := .tuple #[vX zX, .int .i64 0, .int .i64 ((a : Int)), .int .i64 3]) (results_c4 (ad := ⟨b, 0, none⟩) rfl rfl hld rfl rfl rfl) rfl ⟨rfl, Below.setRow H8.out.1 H1.out.2.2.2 _⟩
  by_cases hi : identB (bl w3) = true
  case neg =>
    have hr : parseI (bl L) = none := by rw [hp, if_neg (fun h => hi h.2.2.2.2.2)]
    rw [hib hr]
    have HXX := Lib.hid hx
    have HII := Lib.hid hi
    clear hr hp ha0 hib hbl hlt hq hqq hS hz hm hx hi
    go_enter Tryz.func37, Tryz.ntmps37
    go_wp2_with (first
      | (go_at_call 34; refine HEN.out.mono ?_; rintro e w4 ⟨rfl, rfl⟩)
      | (go_at_call 35; refine HWD.out.mono ?_; rintro e w5 ⟨v5, rfl, ho5, hb5⟩; obtain ⟨g, c5, rfl, -⟩ := ho5.str0 (Nat.succ_pos _); have k0 : w5.cell? ⟨g, 0, none⟩ = some (.string w0) := (ho5.set1 0 w0 rfl).2.1; have k1 : w5.cell? ⟨g, 1, none⟩ = some (.string w1) := (ho5.set1 1 w1 rfl).2.1; have k2 : w5.cell? ⟨g, 2, none⟩ = some (.string w2) := (ho5.set1 2 w2 rfl).2.1; have k3 : w5.cell? ⟨g, 3, none⟩ = some (.string w3) := (ho5.set1 3 w3 rfl).2.1; clear ro; obtain ⟨⟨-, -, ro⟩, -, -⟩ := rowX (H1.out.2.1.keep hb5); have H5 := Lib.hid (show Below w.heap.size w w5 ∧ Row w5 b (cX zX) 39 ∧ w5.cell? ⟨g, 3, none⟩ = some (.string w3) from ⟨Below.step H1.out.1 hb5, H1.out.2.1.keep hb5, k3⟩); clear hb5 ho5)
      | (go_at_call 36; refine (HNU.out _).mono ?_; rintro e w6 ⟨rfl, rfl⟩)
      | (go_at_call 58; refine (refUnhex35 w2 _ (by omega)).mono ?_; rintro e w7 hu7; obtain ⟨v7, c7, rfl, hb7, hy7, hn7⟩ := unE_code hu7; obtain rfl := hy7 HXX.out; have k3 : w7.cell? ⟨g, 3, none⟩ = some (.string w3) := cell_below H5.out.2.2 hb7; have H7 := Lib.hid (And.intro (Below.step H5.out.1 hb7) (H5.out.2.1.keep hb7)); clear hb7 hu7 hy7 hn7)
      | (go_at_call 59; refine (rparse_b w3 _).mono ?_; rintro e w8 hu8; obtain ⟨x8, a8, c8, rfl, hb8, hy8, hn8⟩ := paR_code hu8; have hc8 : (c8 != 0) = true := (by simpa using hn8 HII.out); obtain ⟨W8, hW8⟩ : ∃ W8, w8.alloc (.cells (aI zI) 36) = W8 := ⟨_, rfl⟩; obtain ⟨g8, hg8⟩ : ∃ g8, w8.heap.size = g8 := ⟨_, rfl⟩; obtain ⟨W9, hW9⟩ : ∃ W9, w8.alloc (.cells (aI x8) 36) = W9 := ⟨_, rfl⟩; have H8 := Lib.hid (show Below w.heap.size w W9 ∧ Row W9 b (cX zX) 39 ∧ Row W9 g8 (cI x8) 36 from by rw [← hW9, ← hg8]; exact ⟨Below.step (Below.step H7.out.1 hb8) (below_alloc _ _), (H7.out.2.keep hb8).keep (below_alloc _ _), Row.new w8 (cI x8) _⟩); clear ro; obtain ⟨⟨-, -, ro⟩, -, -⟩ := rowX H8.out.2.1; clear hb8 hu8 hy8 hn8 hW8))
    try rw [hW9]
    have hld := load_f (at_setRow (cX zX) ro)
    exact bodyPost_ret (v := .tuple #[vX zX, .int .i64 0, .int .i64 ((a : Int)), .int .i64 3]) (results_c4 (ad := ⟨b, 0, none⟩) rfl rfl hld rfl rfl rfl) rfl ⟨rfl, Below.setRow H8.out.1 H1.out.2.2.2 _⟩
  have hnz : (numE (bl w1) 65536).2 = 0 := Classical.byContradiction fun h => hm0 (by rw [← hm]; exact numW_neg.2 h)
  obtain ⟨-, hv0, hv1⟩ := numE_back hnz rfl
  have hmv : (numE (bl w1) 65536).1 = m := by
    rw [← hm]
    unfold numW
    rw [if_pos hnz]
  rw [hmv] at hv0 hv1
  obtain ⟨k, rfl⟩ : ∃ k : Nat, m = (k : Int) := ⟨m.toNat, by omega⟩
  obtain ⟨id, hid⟩ : ∃ id, midL (bl w3) = id := ⟨_, rfl⟩
  have hpp : parseI (bl L) = some (id, k, bl w2) := by
    rw [hp, if_pos ⟨by rw [ha0]; rfl, hnz, by rw [bl_length]; exact hx.1, hx.2, by rw [bl_length]; exact h32, hi⟩, hmv, hid]
    rfl
  have HXX := Lib.hid hx
  have HII := Lib.hid (And.intro hi hid)
  have hki : (k : Int) ≤ 65536 := hv1
  have hqi : (q : Int) ≤ 1073741824 := by omega
  have hzi : (s.size : Int) ≤ 1073741824 := by omega
  have hI : itemP (bl s) a = if s.size ≤ q + 1 + k then .error (23, s.size) else if (bl s).getD (q + 1 + k) 0 ≠ 10 then .error (3, q + 1 + k) else
      if digT ⟨id, s.extract (q + 1) (q + 1 + k)⟩ ≠ bl w2 then .error (22, a) else .ok (⟨id, s.extract (q + 1) (q + 1 + k)⟩, q + 1 + k + 1) := by
    have hTe : (⟨(((bl s).drop (q + 1)).take k).toArray⟩ : ByteArray) = s.extract (q + 1) (q + 1 + k) := by
      apply bl_inj
      rw [bl_piece]
    unfold itemP
    rw [hq]
    simp only []
    rw [← hbl, hpp]
    simp only [hqq, hS, hTe]
  have hline := (parseI_back hpp).1
  have hkm : ¬ (k : Int) < 0 := by omega
  clear hp ha0 hib hm hm0 hnz hv0 hv1 hmv hx hi hid hpp
  by_cases h1 : s.size ≤ q + 1 + k
  · rw [if_pos h1] at hI
    rw [hI]
    have h1i : (s.size : Int) - ((q : Int) + 1) < (k : Int) + 1 := by omega
    clear hI hline hbl hlt hqq hS hz h1
    go_enter Tryz.func37, Tryz.ntmps37
    go_wp2_with (first
      | (go_at_call 34; refine HEN.out.mono ?_; rintro e w4 ⟨rfl, rfl⟩)
      | (go_at_call 35; refine HWD.out.mono ?_; rintro e w5 ⟨v5, rfl, ho5, hb5⟩; obtain ⟨g, c5, rfl, -⟩ := ho5.str0 (Nat.succ_pos _); have k0 : w5.cell? ⟨g, 0, none⟩ = some (.string w0) := (ho5.set1 0 w0 rfl).2.1; have k1 : w5.cell? ⟨g, 1, none⟩ = some (.string w1) := (ho5.set1 1 w1 rfl).2.1; have k2 : w5.cell? ⟨g, 2, none⟩ = some (.string w2) := (ho5.set1 2 w2 rfl).2.1; have k3 : w5.cell? ⟨g, 3, none⟩ = some (.string w3) := (ho5.set1 3 w3 rfl).2.1; clear ro; obtain ⟨⟨-, -, ro⟩, -, -⟩ := rowX (H1.out.2.1.keep hb5); have H5 := Lib.hid (show Below w.heap.size w w5 ∧ Row w5 b (cX zX) 39 ∧ w5.cell? ⟨g, 3, none⟩ = some (.string w3) from ⟨Below.step H1.out.1 hb5, H1.out.2.1.keep hb5, k3⟩); clear hb5 ho5)
      | (go_at_call 36; refine (HNU.out _).mono ?_; rintro e w6 ⟨rfl, rfl⟩)
      | (go_at_call 58; refine (refUnhex35 w2 _ (by omega)).mono ?_; rintro e w7 hu7; obtain ⟨v7, c7, rfl, hb7, hy7, hn7⟩ := unE_code hu7; obtain rfl := hy7 HXX.out; have k3 : w7.cell? ⟨g, 3, none⟩ = some (.string w3) := cell_below H5.out.2.2 hb7; have H7 := Lib.hid (And.intro (Below.step H5.out.1 hb7) (H5.out.2.1.keep hb7)); clear hb7 hu7 hy7 hn7)
      | (go_at_call 59; refine (rparse_b w3 _).mono ?_; rintro e w8 hu8; obtain ⟨x8, a8, c8, rfl, hb8, hy8, hn8⟩ := paR_code hu8; obtain ⟨rfl, rfl⟩ := hy8 HII.out.1; rw [HII.out.2]; obtain ⟨W8, hW8⟩ : ∃ W8, w8.alloc (.cells (aI zI) 36) = W8 := ⟨_, rfl⟩; obtain ⟨g8, hg8⟩ : ∃ g8, w8.heap.size = g8 := ⟨_, rfl⟩; obtain ⟨W9, hW9⟩ : ∃ W9, w8.alloc (.cells (aI id) 36) = W9 := ⟨_, rfl⟩; have H8 := Lib.hid (show Below w.heap.size w W9 ∧ Row W9 b (cX zX) 39 ∧ Row W9 g8 (cI id) 36 from by rw [← hW9, ← hg8]; exact ⟨Below.step (Below.step H7.out.1 hb8) (below_alloc _ _), (H7.out.2.keep hb8).keep (below_alloc _ _), Row.new w8 (cI id) _⟩); clear ro; obtain ⟨⟨-, -, ro⟩, -, -⟩ := rowX H8.out.2.1; clear hb8 hu8 hy8 hn8 hW8))
    try rw [hW9]
    have hld := load_f (at_setRow (cX zX) ro)
    exact bodyPost_ret (v := .tuple #[vX zX, .int .i64 0, .int .i64 ((s.size : Int)), .int .i64 23]) (results_c4 (ad := ⟨b, 0, none⟩) rfl rfl hld rfl rfl rfl) rfl ⟨rfl, Below.setRow H8.out.1 H1.out.2.2.2 _⟩
  have hlk : q + 1 + k < s.size := by omega
  have hgd : (bl s).getD (q + 1 + k) 0 = s[q + 1 + k]'hlk := by
    rw [List.getD_eq_getElem?_getD, List.getElem?_eq_getElem (by rw [hS]; exact hlk)]
    rfl
  rw [if_neg h1, hgd] at hI
  have h1i : ¬ (s.size : Int) - ((q : Int) + 1) < (k : Int) + 1 := by omega
  have h1j : (q : Int) + 1 + (k : Int) < (s.size : Int) := by omega
  clear h1
  by_cases h2 : s[q + 1 + k]'hlk ≠ 10
  · rw [if_pos h2] at hI
    rw [hI]
    have hcb : (((s[q + 1 + k]'hlk).toNat : Int) != 10) = true := by
      have h3 : (s[q + 1 + k]'hlk).toNat ≠ 10 := fun e => h2 (UInt8.toNat_inj.1 e)
      simp
      omega
    clear hI hline hbl hlt hqq hS hz hgd h2
    go_enter Tryz.func37, Tryz.ntmps37
    go_wp2_with (first
      | (go_at_call 34; refine HEN.out.mono ?_; rintro e w4 ⟨rfl, rfl⟩)
      | (go_at_call 35; refine HWD.out.mono ?_; rintro e w5 ⟨v5, rfl, ho5, hb5⟩; obtain ⟨g, c5, rfl, -⟩ := ho5.str0 (Nat.succ_pos _); have k0 : w5.cell? ⟨g, 0, none⟩ = some (.string w0) := (ho5.set1 0 w0 rfl).2.1; have k1 : w5.cell? ⟨g, 1, none⟩ = some (.string w1) := (ho5.set1 1 w1 rfl).2.1; have k2 : w5.cell? ⟨g, 2, none⟩ = some (.string w2) := (ho5.set1 2 w2 rfl).2.1; have k3 : w5.cell? ⟨g, 3, none⟩ = some (.string w3) := (ho5.set1 3 w3 rfl).2.1; clear ro; obtain ⟨⟨-, -, ro⟩, -, -⟩ := rowX (H1.out.2.1.keep hb5); have H5 := Lib.hid (show Below w.heap.size w w5 ∧ Row w5 b (cX zX) 39 ∧ w5.cell? ⟨g, 3, none⟩ = some (.string w3) from ⟨Below.step H1.out.1 hb5, H1.out.2.1.keep hb5, k3⟩); clear hb5 ho5)
      | (go_at_call 36; refine (HNU.out _).mono ?_; rintro e w6 ⟨rfl, rfl⟩)
      | (go_at_call 58; refine (refUnhex35 w2 _ (by omega)).mono ?_; rintro e w7 hu7; obtain ⟨v7, c7, rfl, hb7, hy7, hn7⟩ := unE_code hu7; obtain rfl := hy7 HXX.out; have k3 : w7.cell? ⟨g, 3, none⟩ = some (.string w3) := cell_below H5.out.2.2 hb7; have H7 := Lib.hid (And.intro (Below.step H5.out.1 hb7) (H5.out.2.1.keep hb7)); clear hb7 hu7 hy7 hn7)
      | (go_at_call 59; refine (rparse_b w3 _).mono ?_; rintro e w8 hu8; obtain ⟨x8, a8, c8, rfl, hb8, hy8, hn8⟩ := paR_code hu8; obtain ⟨rfl, rfl⟩ := hy8 HII.out.1; rw [HII.out.2]; obtain ⟨W8, hW8⟩ : ∃ W8, w8.alloc (.cells (aI zI) 36) = W8 := ⟨_, rfl⟩; obtain ⟨g8, hg8⟩ : ∃ g8, w8.heap.size = g8 := ⟨_, rfl⟩; obtain ⟨W9, hW9⟩ : ∃ W9, w8.alloc (.cells (aI id) 36) = W9 := ⟨_, rfl⟩; have H8 := Lib.hid (show Below w.heap.size w W9 ∧ Row W9 b (cX zX) 39 ∧ Row W9 g8 (cI id) 36 from by rw [← hW9, ← hg8]; exact ⟨Below.step (Below.step H7.out.1 hb8) (below_alloc _ _), (H7.out.2.keep hb8).keep (below_alloc _ _), Row.new w8 (cI id) _⟩); clear ro; obtain ⟨⟨-, -, ro⟩, -, -⟩ := rowX H8.out.2.1; clear hb8 hu8 hy8 hn8 hW8))
    try rw [hW9]
    have hld := load_f (at_setRow (cX zX) ro)
    exact bodyPost_ret (v := .tuple #[vX zX, .int .i64 0, .int .i64 (((q + 1 + k : Nat) : Int)), .int .i64 3]) (results_c4 (ad := ⟨b, 0, none⟩) rfl rfl hld rfl rfl rfl) rfl ⟨rfl, Below.setRow H8.out.1 H1.out.2.2.2 _⟩
  rw [if_neg h2] at hI
  have hcb : (((s[q + 1 + k]'hlk).toNat : Int) != 10) = false := by
    rw [Classical.not_not.1 h2]
    rfl
  have h10 : (bl s).drop (q + 1 + k) = 10 :: (bl s).drop (q + 1 + k + 1) := by
    have := drop_at hlk
    rwa [Classical.not_not.1 h2] at this
  obtain ⟨T, hT⟩ : ∃ T, s.extract (q + 1) (q + 1 + k) = T := ⟨_, rfl⟩
  rw [hT] at hI
  have hTs : T.size = k := by rw [← hT]; simp; omega
  obtain ⟨U, hU⟩ : ∃ U, s.extract a (q + 1 + k + 1) = U := ⟨_, rfl⟩
  have hUb : bl U = (artL ++ 32 :: (Lib.itoa (k : Int) ++ 32 :: (bl w2 ++ 32 :: textL id))) ++ 10 :: (bl T ++ [10]) := by
    have e1 := (nlAt_spec hq).1
    have e2 : bl T ++ 10 :: (bl s).drop (q + 1 + k + 1) = (bl s).drop (q + 1) := by
      have e0 : (bl s).drop (q + 1 + k) = ((bl s).drop (q + 1)).drop k := by rw [List.drop_drop]
      rw [← h10, ← hT, bl_piece, e0, List.take_append_drop]
    rw [← hbl, List.drop_drop, show a + (n + 1) = q + 1 by omega, ← e2] at e1
    have e3 : (bl s).drop a = (bl L ++ 10 :: (bl T ++ [10])) ++ (bl s).drop (q + 1 + k + 1) := by
      rw [e1]
      simp
    have hL2 : (bl L).length = n := by rw [hbl, List.length_take, List.length_drop]; omega
    rw [← hline, ← hU, show q + 1 + k + 1 = a + (n + 1 + k + 1) by omega, bl_piece, e3]
    exact List.take_left' (by simp only [List.length_append, List.length_cons, List.length_nil, bl_length, hTs, hL2]; rw [← hL2, bl_length]; omega)
  have hIU : ∀ D, digT ⟨id, T⟩ = D → bl (itS1 ⟨id, T⟩) = (artL ++ 32 :: (Lib.itoa (k : Int) ++ 32 :: (D ++ 32 :: textL id))) ++ 10 :: (bl T ++ [10]) := by
    intro D hD
    rw [← hD, ← hTs]
    rfl
  have HTT := Lib.hid (And.intro (show T.size ≤ 1000000 by omega) (show (1 : Nat) = 1 from rfl))
  have e16 : IntKind.i64.wrap ((q : Int) + 1 + (k : Int) + 1) = (q : Int) + 1 + (k : Int) + 1 := IntWalk.i64_in _ (by omega)
  have e15 : IntKind.i64.wrap ((q : Int) + 1 + (k : Int)) = (q : Int) + 1 + (k : Int) := IntWalk.i64_in _ (by omega)
  have i1 : (0 : Int) ≤ (q : Int) + 1 + (k : Int) ∧ (q : Int) + 1 + (k : Int) ≤ (s.size : Int) := by omega
  have i2 : (q : Int) + 1 ≤ (q : Int) + 1 + (k : Int) := by omega
  have i3 : (0 : Int) ≤ (q : Int) + 1 + (k : Int) + 1 ∧ (q : Int) + 1 + (k : Int) + 1 ≤ (s.size : Int) := by omega
  have i4 : (a : Int) ≤ (q : Int) + 1 + (k : Int) + 1 := by omega
  by_cases h3 : digT ⟨id, T⟩ = bl w2
  · rw [if_neg (by simpa using h3)] at hI
    rw [hI]
    have hcp : ((itS1 ⟨id, T⟩).toList == U.toList) = true := by
      rw [beqL, decide_eq_true_iff]
      exact bl_inj ((hIU _ h3).trans hUb.symm)
    clear hI hline hbl hlt hqq hS hz hgd h2 h3 h10 hTs hUb hIU
    go_enter Tryz.func37, Tryz.ntmps37
    go_wp2_with (first
      | (go_at_call 34; refine HEN.out.mono ?_; rintro e w4 ⟨rfl, rfl⟩)
      | (go_at_call 35; refine HWD.out.mono ?_; rintro e w5 ⟨v5, rfl, ho5, hb5⟩; obtain ⟨g, c5, rfl, -⟩ := ho5.str0 (Nat.succ_pos _); have k0 : w5.cell? ⟨g, 0, none⟩ = some (.string w0) := (ho5.set1 0 w0 rfl).2.1; have k1 : w5.cell? ⟨g, 1, none⟩ = some (.string w1) := (ho5.set1 1 w1 rfl).2.1; have k2 : w5.cell? ⟨g, 2, none⟩ = some (.string w2) := (ho5.set1 2 w2 rfl).2.1; have k3 : w5.cell? ⟨g, 3, none⟩ = some (.string w3) := (ho5.set1 3 w3 rfl).2.1; clear ro; obtain ⟨⟨-, -, ro⟩, -, -⟩ := rowX (H1.out.2.1.keep hb5); have H5 := Lib.hid (show Below w.heap.size w w5 ∧ Row w5 b (cX zX) 39 ∧ w5.cell? ⟨g, 3, none⟩ = some (.string w3) from ⟨Below.step H1.out.1 hb5, H1.out.2.1.keep hb5, k3⟩); clear hb5 ho5)
      | (go_at_call 36; refine (HNU.out _).mono ?_; rintro e w6 ⟨rfl, rfl⟩)
      | (go_at_call 58; refine (refUnhex35 w2 _ (by omega)).mono ?_; rintro e w7 hu7; obtain ⟨v7, c7, rfl, hb7, hy7, hn7⟩ := unE_code hu7; obtain rfl := hy7 HXX.out; have k3 : w7.cell? ⟨g, 3, none⟩ = some (.string w3) := cell_below H5.out.2.2 hb7; have H7 := Lib.hid (And.intro (Below.step H5.out.1 hb7) (H5.out.2.1.keep hb7)); clear hb7 hu7 hy7 hn7)
      | (go_at_call 59; refine (rparse_b w3 _).mono ?_; rintro e w8 hu8; obtain ⟨x8, a8, c8, rfl, hb8, hy8, hn8⟩ := paR_code hu8; obtain ⟨rfl, rfl⟩ := hy8 HII.out.1; rw [HII.out.2]; obtain ⟨W8, hW8⟩ : ∃ W8, w8.alloc (.cells (aI zI) 36) = W8 := ⟨_, rfl⟩; obtain ⟨g8, hg8⟩ : ∃ g8, w8.heap.size = g8 := ⟨_, rfl⟩; obtain ⟨W9, hW9⟩ : ∃ W9, w8.alloc (.cells (aI id) 36) = W9 := ⟨_, rfl⟩; have H8 := Lib.hid (show Below w.heap.size w W9 ∧ Row W9 b (cX zX) 39 ∧ Row W9 g8 (cI id) 36 from by rw [← hW9, ← hg8]; exact ⟨Below.step (Below.step H7.out.1 hb8) (below_alloc _ _), (H7.out.2.keep hb8).keep (below_alloc _ _), Row.new w8 (cI id) _⟩); clear ro; obtain ⟨⟨-, -, ro⟩, -, -⟩ := rowX H8.out.2.1; clear hb8 hu8 hy8 hn8 hW8))
    try rw [hW9]
    obtain ⟨y1, y2, -⟩ := rowI H8.out.2.2
    obtain ⟨y3, y4, -⟩ := rowI (H8.out.2.2.keep (below_alloc W9 (.cells (aX zX) 39)))
    have i0 : (0 : Int) ≤ (q : Int) + 1 := by omega
    have et : ((q : Int) + 1 + (k : Int)).toNat = q + 1 + k := by omega
    have HG := Lib.hid H8
    clear ro
    go_region
    obtain ⟨g10, hg10⟩ : ∃ g, W9.heap.size = g := ⟨_, rfl⟩
    obtain ⟨W10, hW10⟩ : ∃ W10, (W9.alloc (.cells (aX ⟨id, T⟩) 39)).drew = W10 := ⟨_, rfl⟩
    have H10 := Lib.hid (show Below w.heap.size w W10 ∧ Row W10 b (cX zX) 39 ∧ Row W10 g10 (cX ⟨id, T⟩) 39 from by
      rw [← hW10, ← hg10]
      exact ⟨(Below.step H8.out.1 (below_alloc _ _)).drew, H8.out.2.1.keep (below_alloc _ _).drew, Row.new W9 (cX ⟨id, T⟩) _⟩)

    rw [hW10, hg10]
    clear hW10 hg10
    go_wp2_with fail
    refine AnyO.wp_any_tail 9 (by kernel_rfl) (by kernel_rfl) (by kernel_rfl) (by kernel_rfl) (by kernel_rfl) (by kernel_rfl) (pstP [isV (vX ⟨id, T⟩), isV (.string (itS1 ⟨id, T⟩)), isV (.string s), isV (.int .i64 (a : Int)), isV (.int .i64 ((q : Int) + 1)), isV (.int .i64 (k : Int)), isV (.int .i64 ((q : Int) + 1 + (k : Int))), isV (.int .i64 ((q : Int) + 1 + (k : Int) + 1)), isV (.string U)]) (MonoL.cons (Mono.v _) (MonoL.cons (Mono.v _) (MonoL.cons (Mono.v _) (MonoL.cons (Mono.v _) (MonoL.cons (Mono.v _) (MonoL.cons (Mono.v _) (MonoL.cons (Mono.v _) (MonoL.cons (Mono.v _) (MonoL.cons (Mono.v _) MonoL.nil))))))))) ?_ ?_
    · intro i hi
      have hi2 : i = 0 ∨ i = 1 ∨ i = 2 ∨ i = 3 ∨ i = 4 ∨ i = 5 ∨ i = 6 ∨ i = 7 ∨ i = 8 := by omega
      clear hi
      rcases hi2 with rfl | rfl | rfl | rfl | rfl | rfl | rfl | rfl | rfl
      · -- 0: Op.load 39 (Operand.tmp 17)
        refine AnyO.Step.mk rfl [] (by kernel_rfl) ?_
        intro vs u hE hp ac hb K hK
        have s17 : ac.tmps[17]?.getD undef = .pointer (some ⟨g10, 0, none⟩) := by rw [hb]; kernel_rfl
        rw [if_pos (AnyO.wanted_none rfl)]
        clear hb hp
        obtain ⟨⟨r1, r2, -⟩, -, -⟩ := rowX (H10.out.2.2.keep (Below.step (below_drew W10) hE))
        go_simp
        exact hK _ _ (Below.refl _ _) rfl
      · -- 1: Op.call { callee := Callee.value (Operand.func 19), args := 
        refine AnyO.Step.mk rfl [0] (by kernel_rfl) ?_
        intro vs u hE hp ac hb K hK
        have s110 : ac.tmps[110]?.getD undef = vX ⟨id, T⟩ := by rw [hb]; exact (show _ = vs 0 by kernel_rfl).trans (hp 0 (by decide))
        rw [if_pos (AnyO.wanted_none rfl)]
        clear hb hp
        go_simp
        go_at_call 19
        refine (ritem_b ⟨id, T⟩ u HTT.out.1).mono ?_
        rintro e w2 ⟨rfl, hb2⟩
        exact hK _ _ hb2 rfl
      · -- 2: Op.move (Operand.tmp 0)
        refine AnyO.Step.mk rfl [] (by kernel_rfl) ?_
        intro vs u hE hp ac hb K hK
        have s0 : ac.tmps[0]?.getD undef = .string s := by rw [hb]; kernel_rfl
        rw [if_pos (AnyO.wanted_none rfl)]
        clear hb hp
        go_simp
        exact hK _ _ (Below.refl _ _) rfl
      · -- 3: Op.move (Operand.tmp 1)
        refine AnyO.Step.mk rfl [] (by kernel_rfl) ?_
        intro vs u hE hp ac hb K hK
        have s1 : ac.tmps[1]?.getD undef = .int .i64 (a : Int) := by rw [hb]; kernel_rfl
        rw [if_pos (AnyO.wanted_none rfl)]
        clear hb hp
        go_simp
        exact hK _ _ (Below.refl _ _) rfl
      · -- 4: Op.move (Operand.tmp 16)
        refine AnyO.Step.mk rfl [] (by kernel_rfl) ?_
        intro vs u hE hp ac hb K hK
        have s16 : ac.tmps[16]?.getD undef = .int .i64 ((q : Int) + 1) := by rw [hb]; kernel_rfl
        rw [if_pos (AnyO.wanted_none rfl)]
        clear hb hp
        go_simp
        exact hK _ _ (Below.refl _ _) rfl
      · -- 5: Op.move (Operand.tmp 10)
        refine AnyO.Step.mk rfl [] (by kernel_rfl) ?_
        intro vs u hE hp ac hb K hK
        have s10 : ac.tmps[10]?.getD undef = .int .i64 (k : Int) := by rw [hb]; kernel_rfl
        rw [if_pos (AnyO.wanted_none rfl)]
        clear hb hp
        go_simp
        exact hK _ _ (Below.refl _ _) rfl
      · -- 6: Op.binOp BinOp.add 3 (Operand.tmp 114) (Operand.tmp 115) 3
        refine AnyO.Step.mk rfl [4, 5] (by kernel_rfl) ?_
        intro vs u hE hp ac hb K hK
        have s114 : ac.tmps[114]?.getD undef = .int .i64 ((q : Int) + 1) := by rw [hb]; exact (show _ = vs 4 by kernel_rfl).trans (hp 4 (by decide))
        have s115 : ac.tmps[115]?.getD undef = .int .i64 (k : Int) := by rw [hb]; exact (show _ = vs 5 by kernel_rfl).trans (hp 5 (by decide))
        rw [if_pos (AnyO.wanted_none rfl)]
        clear hb hp
        have r1 := e15
        go_simp
        exact hK _ _ (Below.refl _ _) rfl
      · -- 7: Op.binOp BinOp.add 3 (Operand.tmp 116) (Operand.const (Value
        refine AnyO.Step.mk rfl [6] (by kernel_rfl) ?_
        intro vs u hE hp ac hb K hK
        have s116 : ac.tmps[116]?.getD undef = .int .i64 ((q : Int) + 1 + (k : Int)) := by rw [hb]; exact (show _ = vs 6 by kernel_rfl).trans (hp 6 (by decide))
        rw [if_pos (AnyO.wanted_none rfl)]
        clear hb hp
        have r1 := e16
        go_simp
        exact hK _ _ (Below.refl _ _) rfl
      · -- 8: Op.slice 9 (Operand.tmp 112) (some (Operand.tmp 113)) (some 
        refine AnyO.Step.mk rfl [2, 3, 7] (by kernel_rfl) ?_
        intro vs u hE hp ac hb K hK
        have s112 : ac.tmps[112]?.getD undef = .string s := by rw [hb]; exact (show _ = vs 2 by kernel_rfl).trans (hp 2 (by decide))
        have s113 : ac.tmps[113]?.getD undef = .int .i64 (a : Int) := by rw [hb]; exact (show _ = vs 3 by kernel_rfl).trans (hp 3 (by decide))
        have s117 : ac.tmps[117]?.getD undef = .int .i64 ((q : Int) + 1 + (k : Int) + 1) := by rw [hb]; exact (show _ = vs 7 by kernel_rfl).trans (hp 7 (by decide))
        rw [if_pos (AnyO.wanted_none rfl)]
        clear hb hp
        have r4 : ((q : Int) + 1 + (k : Int) + 1).toNat = q + 1 + k + 1 := by omega
        have r1 := hU
        have r2 := i3
        have r3 := i4
        go_simp
        exact hK _ _ (Below.refl _ _) rfl
    · intro vs u hE hp
      have e0 : vs 0 = vX ⟨id, T⟩ := hp 0 (by decide)
      have e1 : vs 1 = .string (itS1 ⟨id, T⟩) := hp 1 (by decide)
      have e2 : vs 2 = .string s := hp 2 (by decide)
      have e3 : vs 3 = .int .i64 (a : Int) := hp 3 (by decide)
      have e4 : vs 4 = .int .i64 ((q : Int) + 1) := hp 4 (by decide)
      have e5 : vs 5 = .int .i64 (k : Int) := hp 5 (by decide)
      have e6 : vs 6 = .int .i64 ((q : Int) + 1 + (k : Int)) := hp 6 (by decide)
      have e7 : vs 7 = .int .i64 ((q : Int) + 1 + (k : Int) + 1) := hp 7 (by decide)
      have e8 : vs 8 = .string U := hp 8 (by decide)
      clear hp
      have HE := Lib.hid hE
      clear hE
      obtain ⟨⟨x1, x2, -⟩, -, -⟩ := rowX (H10.out.2.2.keep HE.out)
      obtain ⟨⟨-, -, rf⟩, -, -⟩ := rowX (H10.out.2.1.keep HE.out)
      have HF := Lib.hid (And.intro (Below.step H10.out.1 HE.out) trivial)
      rw [puts_range [some 110, some 111, some 112, some 113, some 114, some 115, some 116, some 117, some 118] (by kernel_rfl)]
      simp only [putL, Nat.reduceAdd, List.drop_succ_cons, List.drop_zero, e0, e1, e2, e3, e4, e5, e6, e7, e8]
      clear e0 e1 e2 e3 e4 e5 e6 e7 e8
      go_simp
      go_wp2
      have hld := load_f (at_setRow (cX ⟨id, T⟩) rf)
      exact bodyPost_ret (v := .tuple #[vX ⟨id, T⟩, .int .i64 ((q + 1 + k + 1 : Nat) : Int), .int .i64 0, .int .i64 0]) (results_c4 (ad := ⟨b, 0, none⟩) rfl rfl hld rfl rfl rfl) rfl ⟨rfl, Below.setRow HF.out.1 H1.out.2.2.2 _⟩
  · rw [if_pos h3] at hI
    rw [hI]
    have hcp : ((itS1 ⟨id, T⟩).toList == U.toList) = false := by
      rw [beqL, decide_eq_false_iff_not]
      intro e
      have h4 := (hIU _ rfl).symm.trans ((congrArg bl e).trans hUb)
      exact h3 (by simpa using h4)
    clear hI hline hbl hlt hqq hS hz hgd h2 h3 h10 hTs hUb hIU
    go_enter Tryz.func37, Tryz.ntmps37
    go_wp2_with (first
      | (go_at_call 34; refine HEN.out.mono ?_; rintro e w4 ⟨rfl, rfl⟩)
      | (go_at_call 35; refine HWD.out.mono ?_; rintro e w5 ⟨v5, rfl, ho5, hb5⟩; obtain ⟨g, c5, rfl, -⟩ := ho5.str0 (Nat.succ_pos _); have k0 : w5.cell? ⟨g, 0, none⟩ = some (.string w0) := (ho5.set1 0 w0 rfl).2.1; have k1 : w5.cell? ⟨g, 1, none⟩ = some (.string w1) := (ho5.set1 1 w1 rfl).2.1; have k2 : w5.cell? ⟨g, 2, none⟩ = some (.string w2) := (ho5.set1 2 w2 rfl).2.1; have k3 : w5.cell? ⟨g, 3, none⟩ = some (.string w3) := (ho5.set1 3 w3 rfl).2.1; clear ro; obtain ⟨⟨-, -, ro⟩, -, -⟩ := rowX (H1.out.2.1.keep hb5); have H5 := Lib.hid (show Below w.heap.size w w5 ∧ Row w5 b (cX zX) 39 ∧ w5.cell? ⟨g, 3, none⟩ = some (.string w3) from ⟨Below.step H1.out.1 hb5, H1.out.2.1.keep hb5, k3⟩); clear hb5 ho5)
      | (go_at_call 36; refine (HNU.out _).mono ?_; rintro e w6 ⟨rfl, rfl⟩)
      | (go_at_call 58; refine (refUnhex35 w2 _ (by omega)).mono ?_; rintro e w7 hu7; obtain ⟨v7, c7, rfl, hb7, hy7, hn7⟩ := unE_code hu7; obtain rfl := hy7 HXX.out; have k3 : w7.cell? ⟨g, 3, none⟩ = some (.string w3) := cell_below H5.out.2.2 hb7; have H7 := Lib.hid (And.intro (Below.step H5.out.1 hb7) (H5.out.2.1.keep hb7)); clear hb7 hu7 hy7 hn7)
      | (go_at_call 59; refine (rparse_b w3 _).mono ?_; rintro e w8 hu8; obtain ⟨x8, a8, c8, rfl, hb8, hy8, hn8⟩ := paR_code hu8; obtain ⟨rfl, rfl⟩ := hy8 HII.out.1; rw [HII.out.2]; obtain ⟨W8, hW8⟩ : ∃ W8, w8.alloc (.cells (aI zI) 36) = W8 := ⟨_, rfl⟩; obtain ⟨g8, hg8⟩ : ∃ g8, w8.heap.size = g8 := ⟨_, rfl⟩; obtain ⟨W9, hW9⟩ : ∃ W9, w8.alloc (.cells (aI id) 36) = W9 := ⟨_, rfl⟩; have H8 := Lib.hid (show Below w.heap.size w W9 ∧ Row W9 b (cX zX) 39 ∧ Row W9 g8 (cI id) 36 from by rw [← hW9, ← hg8]; exact ⟨Below.step (Below.step H7.out.1 hb8) (below_alloc _ _), (H7.out.2.keep hb8).keep (below_alloc _ _), Row.new w8 (cI id) _⟩); clear ro; obtain ⟨⟨-, -, ro⟩, -, -⟩ := rowX H8.out.2.1; clear hb8 hu8 hy8 hn8 hW8))
    try rw [hW9]
    obtain ⟨y1, y2, -⟩ := rowI H8.out.2.2
    obtain ⟨y3, y4, -⟩ := rowI (H8.out.2.2.keep (below_alloc W9 (.cells (aX zX) 39)))
    have i0 : (0 : Int) ≤ (q : Int) + 1 := by omega
    have et : ((q : Int) + 1 + (k : Int)).toNat = q + 1 + k := by omega
    have HG := Lib.hid H8
    clear ro
    go_region
    obtain ⟨g10, hg10⟩ : ∃ g, W9.heap.size = g := ⟨_, rfl⟩
    obtain ⟨W10, hW10⟩ : ∃ W10, (W9.alloc (.cells (aX ⟨id, T⟩) 39)).drew = W10 := ⟨_, rfl⟩
    have H10 := Lib.hid (show Below w.heap.size w W10 ∧ Row W10 b (cX zX) 39 ∧ Row W10 g10 (cX ⟨id, T⟩) 39 from by
      rw [← hW10, ← hg10]
      exact ⟨(Below.step H8.out.1 (below_alloc _ _)).drew, H8.out.2.1.keep (below_alloc _ _).drew, Row.new W9 (cX ⟨id, T⟩) _⟩)

    rw [hW10, hg10]
    clear hW10 hg10
    go_wp2_with fail
    refine AnyO.wp_any_tail 9 (by kernel_rfl) (by kernel_rfl) (by kernel_rfl) (by kernel_rfl) (by kernel_rfl) (by kernel_rfl) (pstP [isV (vX ⟨id, T⟩), isV (.string (itS1 ⟨id, T⟩)), isV (.string s), isV (.int .i64 (a : Int)), isV (.int .i64 ((q : Int) + 1)), isV (.int .i64 (k : Int)), isV (.int .i64 ((q : Int) + 1 + (k : Int))), isV (.int .i64 ((q : Int) + 1 + (k : Int) + 1)), isV (.string U)]) (MonoL.cons (Mono.v _) (MonoL.cons (Mono.v _) (MonoL.cons (Mono.v _) (MonoL.cons (Mono.v _) (MonoL.cons (Mono.v _) (MonoL.cons (Mono.v _) (MonoL.cons (Mono.v _) (MonoL.cons (Mono.v _) (MonoL.cons (Mono.v _) MonoL.nil))))))))) ?_ ?_
    · intro i hi
      have hi2 : i = 0 ∨ i = 1 ∨ i = 2 ∨ i = 3 ∨ i = 4 ∨ i = 5 ∨ i = 6 ∨ i = 7 ∨ i = 8 := by omega
      clear hi
      rcases hi2 with rfl | rfl | rfl | rfl | rfl | rfl | rfl | rfl | rfl
      · -- 0: Op.load 39 (Operand.tmp 17)
        refine AnyO.Step.mk rfl [] (by kernel_rfl) ?_
        intro vs u hE hp ac hb K hK
        have s17 : ac.tmps[17]?.getD undef = .pointer (some ⟨g10, 0, none⟩) := by rw [hb]; kernel_rfl
        rw [if_pos (AnyO.wanted_none rfl)]
        clear hb hp
        obtain ⟨⟨r1, r2, -⟩, -, -⟩ := rowX (H10.out.2.2.keep (Below.step (below_drew W10) hE))
        go_simp
        exact hK _ _ (Below.refl _ _) rfl
      · -- 1: Op.call { callee := Callee.value (Operand.func 19), args := 
        refine AnyO.Step.mk rfl [0] (by kernel_rfl) ?_
        intro vs u hE hp ac hb K hK
        have s110 : ac.tmps[110]?.getD undef = vX ⟨id, T⟩ := by rw [hb]; exact (show _ = vs 0 by kernel_rfl).trans (hp 0 (by decide))
        rw [if_pos (AnyO.wanted_none rfl)]
        clear hb hp
        go_simp
        go_at_call 19
        refine (ritem_b ⟨id, T⟩ u HTT.out.1).mono ?_
        rintro e w2 ⟨rfl, hb2⟩
        exact hK _ _ hb2 rfl
      · -- 2: Op.move (Operand.tmp 0)
        refine AnyO.Step.mk rfl [] (by kernel_rfl) ?_
        intro vs u hE hp ac hb K hK
        have s0 : ac.tmps[0]?.getD undef = .string s := by rw [hb]; kernel_rfl
        rw [if_pos (AnyO.wanted_none rfl)]
        clear hb hp
        go_simp
        exact hK _ _ (Below.refl _ _) rfl
      · -- 3: Op.move (Operand.tmp 1)
        refine AnyO.Step.mk rfl [] (by kernel_rfl) ?_
        intro vs u hE hp ac hb K hK
        have s1 : ac.tmps[1]?.getD undef = .int .i64 (a : Int) := by rw [hb]; kernel_rfl
        rw [if_pos (AnyO.wanted_none rfl)]
        clear hb hp
        go_simp
        exact hK _ _ (Below.refl _ _) rfl
      · -- 4: Op.move (Operand.tmp 16)
        refine AnyO.Step.mk rfl [] (by kernel_rfl) ?_
        intro vs u hE hp ac hb K hK
        have s16 : ac.tmps[16]?.getD undef = .int .i64 ((q : Int) + 1) := by rw [hb]; kernel_rfl
        rw [if_pos (AnyO.wanted_none rfl)]
        clear hb hp
        go_simp
        exact hK _ _ (Below.refl _ _) rfl
      · -- 5: Op.move (Operand.tmp 10)
        refine AnyO.Step.mk rfl [] (by kernel_rfl) ?_
        intro vs u hE hp ac hb K hK
        have s10 : ac.tmps[10]?.getD undef = .int .i64 (k : Int) := by rw [hb]; kernel_rfl
        rw [if_pos (AnyO.wanted_none rfl)]
        clear hb hp
        go_simp
        exact hK _ _ (Below.refl _ _) rfl
      · -- 6: Op.binOp BinOp.add 3 (Operand.tmp 114) (Operand.tmp 115) 3
        refine AnyO.Step.mk rfl [4, 5] (by kernel_rfl) ?_
        intro vs u hE hp ac hb K hK
        have s114 : ac.tmps[114]?.getD undef = .int .i64 ((q : Int) + 1) := by rw [hb]; exact (show _ = vs 4 by kernel_rfl).trans (hp 4 (by decide))
        have s115 : ac.tmps[115]?.getD undef = .int .i64 (k : Int) := by rw [hb]; exact (show _ = vs 5 by kernel_rfl).trans (hp 5 (by decide))
        rw [if_pos (AnyO.wanted_none rfl)]
        clear hb hp
        have r1 := e15
        go_simp
        exact hK _ _ (Below.refl _ _) rfl
      · -- 7: Op.binOp BinOp.add 3 (Operand.tmp 116) (Operand.const (Value
        refine AnyO.Step.mk rfl [6] (by kernel_rfl) ?_
        intro vs u hE hp ac hb K hK
        have s116 : ac.tmps[116]?.getD undef = .int .i64 ((q : Int) + 1 + (k : Int)) := by rw [hb]; exact (show _ = vs 6 by kernel_rfl).trans (hp 6 (by decide))
        rw [if_pos (AnyO.wanted_none rfl)]
        clear hb hp
        have r1 := e16
        go_simp
        exact hK _ _ (Below.refl _ _) rfl
      · -- 8: Op.slice 9 (Operand.tmp 112) (some (Operand.tmp 113)) (some 
        refine AnyO.Step.mk rfl [2, 3, 7] (by kernel_rfl) ?_
        intro vs u hE hp ac hb K hK
        have s112 : ac.tmps[112]?.getD undef = .string s := by rw [hb]; exact (show _ = vs 2 by kernel_rfl).trans (hp 2 (by decide))
        have s113 : ac.tmps[113]?.getD undef = .int .i64 (a : Int) := by rw [hb]; exact (show _ = vs 3 by kernel_rfl).trans (hp 3 (by decide))
        have s117 : ac.tmps[117]?.getD undef = .int .i64 ((q : Int) + 1 + (k : Int) + 1) := by rw [hb]; exact (show _ = vs 7 by kernel_rfl).trans (hp 7 (by decide))
        rw [if_pos (AnyO.wanted_none rfl)]
        clear hb hp
        have r4 : ((q : Int) + 1 + (k : Int) + 1).toNat = q + 1 + k + 1 := by omega
        have r1 := hU
        have r2 := i3
        have r3 := i4
        go_simp
        exact hK _ _ (Below.refl _ _) rfl
    · intro vs u hE hp
      have e0 : vs 0 = vX ⟨id, T⟩ := hp 0 (by decide)
      have e1 : vs 1 = .string (itS1 ⟨id, T⟩) := hp 1 (by decide)
      have e2 : vs 2 = .string s := hp 2 (by decide)
      have e3 : vs 3 = .int .i64 (a : Int) := hp 3 (by decide)
      have e4 : vs 4 = .int .i64 ((q : Int) + 1) := hp 4 (by decide)
      have e5 : vs 5 = .int .i64 (k : Int) := hp 5 (by decide)
      have e6 : vs 6 = .int .i64 ((q : Int) + 1 + (k : Int)) := hp 6 (by decide)
      have e7 : vs 7 = .int .i64 ((q : Int) + 1 + (k : Int) + 1) := hp 7 (by decide)
      have e8 : vs 8 = .string U := hp 8 (by decide)
      clear hp
      have HE := Lib.hid hE
      clear hE
      obtain ⟨⟨x1, x2, -⟩, -, -⟩ := rowX (H10.out.2.2.keep HE.out)
      obtain ⟨⟨-, -, rf⟩, -, -⟩ := rowX (H10.out.2.1.keep HE.out)
      have HF := Lib.hid (And.intro (Below.step H10.out.1 HE.out) trivial)
      rw [puts_range [some 110, some 111, some 112, some 113, some 114, some 115, some 116, some 117, some 118] (by kernel_rfl)]
      simp only [putL, Nat.reduceAdd, List.drop_succ_cons, List.drop_zero, e0, e1, e2, e3, e4, e5, e6, e7, e8]
      clear e0 e1 e2 e3 e4 e5 e6 e7 e8
      go_simp
      go_wp2
      have hld := load_f (at_setRow (cX zX) rf)
      exact bodyPost_ret (v := .tuple #[vX zX, .int .i64 0, .int .i64 (a : Int), .int .i64 22]) (results_c4 (ad := ⟨b, 0, none⟩) rfl rfl hld rfl rfl rfl) rfl ⟨rfl, Below.setRow HF.out.1 H1.out.2.2.2 _⟩
end Go.Proofs.YtecalodcbkljoaaGreatDoor
