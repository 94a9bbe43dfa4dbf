/- The library's pieces are those of splitGo. The line of an item, read: batch.parseLine. -/
import Derived.Test.YtecalodcbkljoaaGreatDoorMBat
import Derived.Lib.SplitLaws
import Derived.Lib.IndexBytes
import Derived.Test.YtecalodcbkljoaaGreatDoorMFst
import Derived.Test.YtecalodcbkljoaaGreatDoorMMidNo
namespace Go.Proofs.YtecalodcbkljoaaGreatDoor
open Go.Lib
theorem splitGo_cur (c : UInt8) (s : List UInt8) : ∀ cur, splitGo c cur s = match splitGo c [] s with | [] => [] | h :: t => (cur ++ h) :: t := by
  induction s with
  | nil => intro cur; simp [splitGo]
  | cons x xs ih =>
    intro cur
    rw [splitGo, splitGo]
    by_cases h : x = c
    · rw [if_pos h, if_pos h]; simp
    · rw [if_neg h, if_neg h, ih (cur ++ [x]), ih ([] ++ [x])]
      cases splitGo c [] xs with
      | nil => rfl
      | cons a t => simp
theorem splitK_ne (c b : UInt8) (l : List UInt8) (k : Nat) (h : b ≠ c) : splitK [c] 0 k (b :: l) = match splitK [c] 0 k l with | [] => [] | h :: t => (b :: h) :: t := by
  cases k with
  | zero => rfl
  | succ k =>
    have hp : ([c] : List UInt8).isPrefixOf (b :: l) = false := by simp [List.isPrefixOf, Ne.symm h]
    have hix : index (b :: l) [c] = if index l [c] == -1 then -1 else index l [c] + 1 := by rw [index, hp]; simp
    have hge := index_ge l [c]
    rw [splitK, splitK, hix]
    by_cases hm : index l [c] = -1
    · rw [hm]; rfl
    · obtain ⟨j, hj⟩ : ∃ j : Nat, index l [c] = j := ⟨(index l [c]).toNat, by omega⟩
      rw [hj]
      have e1 : ((j : Int) == -1) = false := by simp only [beq_eq_false_iff_ne]; omega
      have e2 : (((j : Int) + 1) == -1) = false := by simp only [beq_eq_false_iff_ne]; omega
      rw [e1]
      simp only [Bool.false_eq_true, if_false]
      rw [e2]
      simp only [Bool.false_eq_true, if_false]
      rw [show ((j : Int) + 1).toNat = j + 1 by omega, Int.toNat_natCast]
      simp [Nat.add_assoc]
theorem splitK_go (c : UInt8) (s : List UInt8) : splitK [c] 0 (count s [c]) s = splitGo c [] s := by
  induction s with
  | nil => rw [count_one]; rfl
  | cons b l ih =>
    by_cases h : b = c
    · rw [h, count_cons_eq, Nat.add_comm, splitK]
      have hix : index (c :: l) [c] = 0 := by rw [index]; simp [List.isPrefixOf]
      rw [hix, splitGo, if_pos rfl, ← ih]
      rfl
    · rw [count_cons_ne b c l h, splitK_ne c b l _ h, ih, splitGo, if_neg h, splitGo_cur c l ([] ++ [b])]
      rfl
theorem splitB_go (c : UInt8) (s : ByteArray) : (splitB ⟨#[c]⟩ 0 (countB s ⟨#[c]⟩) s).map bl = splitGo c [] (bl s) := by
  have h := splitB_data ⟨#[c]⟩ 0 (countB s ⟨#[c]⟩) s
  exact h.trans (splitK_go c (bl s))
end Go.Proofs.YtecalodcbkljoaaGreatDoor
namespace Go.Proofs.YtecalodcbkljoaaGreatDoor
open Go.RowKit
theorem results_c4 {P : Program} {fn : Func} {tmps : Array Value} {w : World} {a p q s : Tmp} {t : TypeId} {ad : Addr} {v x y z : Value} (hres : fn.results = #[.cell a t, .tmp p, .tmp q, .tmp s]) (h1 : tmps[a]?.getD undef = .pointer (some ad)) (h2 : (loadVar t ad).run P w = .ok v w) (h3 : tmps[p]?.getD undef = x) (h4 : tmps[q]?.getD undef = y) (h5 : tmps[s]?.getD undef = z) :
    (results fn tmps).run P w = .ok (.tuple #[v, x, y, z]) w := by
  simp [results, hres, h1, h2, h3, h4, h5, asAddr]
theorem load_x {w : World} {ad : Addr} {x : It} (h : At w ad (cX x)) : (loadVar 64 ad).run Tryz.prog w = .ok (vX x) w :=
  run_loadVar_at w ad 64 (cX x) _ h Tryz.underlying64 rfl (by rw [cX_length]; exact size64)
/-- The pieces of a line between spaces, as strings. -/
def splitW (L : ByteArray) : List ByteArray := Lib.splitB ⟨#[32]⟩ 0 (Lib.countB L ⟨#[32]⟩) L
theorem splitW_go (L : ByteArray) : (splitW L).map bl = splitGo 32 [] (bl L) := splitB_go 32 L
theorem splitW_len (L : ByteArray) : (splitW L).length = Lib.countB L ⟨#[32]⟩ + 1 := by
  unfold splitW
  exact Lib.splitB_all _ (by decide) _ _ _ rfl
def lineV (r : Option (Id × Nat × List UInt8)) : Value := match r with
  | none => .tuple #[vX zX, .int .i64 0, .string ⟨#[]⟩, .bool false]
  | some (id, k, d) => .tuple #[vX ⟨id, ⟨#[]⟩⟩, .int .i64 (k : Int), .string ⟨d.toArray⟩, .bool true]
set_option maxRecDepth 100000 in
set_option maxHeartbeats 6400000 in
theorem parse_line (L : ByteArray) (w : World) (hL : Laid w) (hsz : L.size ≤ 1073741824) : Calls Tryz.prog 56 #[.string L] w fun e w' => e = .returned (lineV (parseI (bl L))) ∧ Below w.heap.size w w' := by
  obtain ⟨b, hb⟩ : ∃ b, w.heap.size = b := ⟨_, rfl⟩
  obtain ⟨W1, hW1⟩ : ∃ W1, w.alloc (.cells (aX zX) 64) = W1 := ⟨_, rfl⟩
  have H1 := Lib.hid (show Below w.heap.size w W1 ∧ Row W1 b (cX zX) 64 from by
    subst hW1 hb
    exact ⟨below_alloc _ _, Row.new w (cX zX) _⟩)
  have hb1 : W1.heap.size = b + 1 := by rw [← hW1, ← hb]; simp
  obtain ⟨-, mx, hmx⟩ := hL.max.keep H1.out.1
  have hgo := splitW_go L
  obtain ⟨W2, hW2⟩ : ∃ W2, W1.alloc (.cells ((splitW L).map Value.string).toArray 9) = W2 := ⟨_, rfl⟩
  have HSP := Lib.hid (show Calls Tryz.prog 73 #[.string L, .string ⟨#[32]⟩] W1 fun e w' => e = .returned (.slice (some ⟨b + 1, 0, none⟩) (splitW L).length (splitW L).length) ∧ w' = W2 from by
    refine (Tryz.strings_Split L ⟨#[32]⟩ mx W1 (by omega) hmx (by decide)).mono ?_
    rintro e w' ⟨rfl, rfl⟩
    rw [splitW_len, ← hW2, hb1]
    exact ⟨rfl, rfl⟩)
  have H2 := Lib.hid (show Below w.heap.size w W2 ∧ Row W2 (b + 1) ((splitW L).map Value.string) 9 ∧ Row W2 b (cX zX) 64 from by
    rw [← hW2]
    exact ⟨Below.step H1.out.1 (below_alloc _ _), by have h := Row.new W1 ((splitW L).map Value.string) 9; rwa [hb1] at h, H1.out.2.keep (below_alloc _ _)⟩)
  obtain ⟨⟨-, -, ro⟩, -, -⟩ := rowX H2.out.2.2
  have HB := Lib.hid hb
  have HL2 := Lib.hid (hL.keep H2.out.1)
  clear hmx hL hW2 hb1
  by_cases h4 : (splitW L).length = 4
  case neg =>
    have hr : parseI (bl L) = none := by
      unfold parseI
      rw [← hgo]
      split
      · rename_i a b c d hs
        have := congrArg List.length hs
        rw [List.length_map] at this
        exact absurd this h4
      · rfl
    rw [hr]
    have h4i : (((splitW L).length : Int) != 4) = true := by simp; omega
    clear hr hgo h4
    go_enter Tryz.func56, Tryz.ntmps56
    go_wp2_with (go_at_call 73; refine HSP.out.mono ?_; rintro e wq ⟨rfl, rfl⟩)
    have hld := load_x (at_setRow (cX zX) ro)
    have hle : w.heap.size ≤ b := by have := HB.out; omega
    exact bodyPost_ret (v := .tuple #[vX zX, .int .i64 0, .string ⟨#[]⟩, .bool false]) (results_c4 (ad := ⟨b, 0, none⟩) rfl rfl hld rfl rfl rfl) rfl ⟨rfl, Below.setRow H2.out.1 hle _⟩
  obtain ⟨w0, w1, w2, w3, HWS⟩ : ∃ w0 w1 w2 w3, splitW L = [w0, w1, w2, w3] := by
    match hm : splitW L, h4 with
    | [w0, w1, w2, w3], _ => exact ⟨w0, w1, w2, w3, rfl⟩
  rw [HWS] at H2 HSP hgo
  have k0 : W2.cell? ⟨b + 1, 0, none⟩ = some (.string w0) := H2.out.2.1.cell 0
  have k1 : W2.cell? ⟨b + 1, 1, none⟩ = some (.string w1) := H2.out.2.1.cell 1
  have k2 : W2.cell? ⟨b + 1, 2, none⟩ = some (.string w2) := H2.out.2.1.cell 2
  have k3 : W2.cell? ⟨b + 1, 3, none⟩ = some (.string w3) := H2.out.2.1.cell 3
  have hp : parseI (bl L) = if bl w0 = artL ∧ (numE (bl w1) 65536).2 = 0 ∧ (bl w2).length % 2 = 0 ∧ (bl w2).all hexB = true ∧ (bl w2).length = 32 ∧ identB (bl w3) = true then some (midL (bl w3), (numE (bl w1) 65536).1.toNat, bl w2) else none := by
    unfold parseI
    rw [← hgo]
    rfl
  have hsum : (bl w0).length + ((bl w1).length + ((bl w2).length + (bl w3).length)) ≤ (bl L).length := by
    have h := unsp_split 32 (bl L) []
    rw [← hgo, List.nil_append] at h
    rw [← h]
    simp only [List.map_cons, List.map_nil, unsp, List.length_append, List.length_cons]
    omega
  simp only [bl_length] at hsum
  clear hgo h4
  have e4 : ([w0, w1, w2, w3] : List ByteArray).length = 4 := rfl
  rw [e4] at HSP
  by_cases ha : w0 = ⟨#[97, 114, 116, 105, 99, 108, 101]⟩
  case neg =>
    have hr : parseI (bl L) = none := by rw [hp, if_neg (fun h => ha (bl_inj h.1))]
    rw [hr]
    have hab : (w0.toList == [97, 114, 116, 105, 99, 108, 101]) = false := by
      rw [beq_eq_false_iff_ne, Lib.toList_data]
      intro h
      exact ha (bl_inj h)
    clear hr hp ha
    go_enter Tryz.func56, Tryz.ntmps56
    go_wp2_with (go_at_call 73; refine HSP.out.mono ?_; rintro e wq ⟨rfl, rfl⟩)
    have hld := load_x (at_setRow (cX zX) ro)
    have hle : w.heap.size ≤ b := by have := HB.out; omega
    exact bodyPost_ret (v := .tuple #[vX zX, .int .i64 0, .string ⟨#[]⟩, .bool false]) (results_c4 (ad := ⟨b, 0, none⟩) rfl rfl hld rfl rfl rfl) rfl ⟨rfl, Below.setRow H2.out.1 hle _⟩
  subst ha
  obtain ⟨⟨v1, v2⟩, hv⟩ : ∃ v, numE (bl w1) 65536 = v := ⟨_, rfl⟩
  have HNU := Lib.hid (fun W => number29 w1 65536 (by omega) (by omega) (v1, v2) hv W (by omega))
  rw [hv] at hp
  by_cases h2 : v2 = 0
  case neg =>
    have hr : parseI (bl L) = none := by rw [hp, if_neg (fun h => h2 h.2.1)]
    rw [hr]
    have h2b : (v2 != 0) = true := by simpa using h2
    clear hr hp h2 hv
    go_enter Tryz.func56, Tryz.ntmps56
    go_wp2_with (first
      | (go_at_call 73; refine HSP.out.mono ?_; rintro e wq ⟨rfl, rfl⟩)
      | (go_at_call 54; refine (HNU.out _).mono ?_; rintro e wr ⟨rfl, rfl⟩))
    have hld := load_x (at_setRow (cX zX) ro)
    have hle : w.heap.size ≤ b := by have := HB.out; omega
    exact bodyPost_ret (v := .tuple #[vX zX, .int .i64 0, .string ⟨#[]⟩, .bool false]) (results_c4 (ad := ⟨b, 0, none⟩) rfl rfl hld rfl rfl rfl) rfl ⟨rfl, Below.setRow H2.out.1 hle _⟩
  subst h2
  obtain ⟨-, hv0, hv1⟩ := numE_back (b := bl w1) (m := 65536) (v := v1) (by rw [hv]) (by rw [hv])
  obtain ⟨k, rfl⟩ : ∃ k : Nat, v1 = (k : Int) := ⟨v1.toNat, by omega⟩
  clear hv hv0 hv1
  by_cases h3 : w2.size % 2 = 0 ∧ (bl w2).all hexB = true
  case neg =>
    have hr : parseI (bl L) = none := by rw [hp, if_neg (fun h => h3 ⟨by rw [← bl_length]; exact h.2.2.1, h.2.2.2.1⟩)]
    rw [hr]
    have HUN := Lib.hid (fun W => unhex_no w2 W (by omega) h3)
    clear hr hp h3
    go_enter Tryz.func56, Tryz.ntmps56
    go_wp2_with (first
      | (go_at_call 73; refine HSP.out.mono ?_; rintro e wq ⟨rfl, rfl⟩)
      | (go_at_call 54; refine (HNU.out _).mono ?_; rintro e wr ⟨rfl, rfl⟩)
      | (go_at_call 74; refine (HUN.out _).mono ?_; rintro e wr ⟨rfl, rfl⟩))
    have hld := load_x (at_setRow (cX zX) ro)
    have hle : w.heap.size ≤ b := by have := HB.out; omega
    exact bodyPost_ret (v := .tuple #[vX zX, .int .i64 0, .string ⟨#[]⟩, .bool false]) (results_c4 (ad := ⟨b, 0, none⟩) rfl rfl hld rfl rfl rfl) rfl ⟨rfl, Below.setRow H2.out.1 hle _⟩
  have HUY := Lib.hid (fun W => unhex_yes w2 W (by omega) h3.1 h3.2)
  have hul := unhexL_length (w2.size / 2) (bl w2) (by rw [bl_length]; omega)
  by_cases h5 : w2.size = 32
  case neg =>
    have hr : parseI (bl L) = none := by rw [hp, if_neg (fun h => h5 (by rw [← bl_length]; exact h.2.2.2.2.1))]
    rw [hr]
    have h5b : (((unhexL (bl w2)).length : Int) != 16) = true := by rw [hul]; simp; omega
    clear hr hp h5
    go_enter Tryz.func56, Tryz.ntmps56
    go_wp2_with (first
      | (go_at_call 73; refine HSP.out.mono ?_; rintro e wq ⟨rfl, rfl⟩)
      | (go_at_call 54; refine (HNU.out _).mono ?_; rintro e wr ⟨rfl, rfl⟩)
      | (go_at_call 74; refine (HUY.out _).mono ?_; rintro e w5 ⟨vu, rfl, hb5, ho5⟩; obtain ⟨Au, cu, rfl, -, -⟩ := ho5.sl; obtain ⟨⟨-, -, ro⟩, -, -⟩ := rowX (H2.out.2.2.keep hb5); have H5 := Lib.hid (Below.step H2.out.1 hb5); clear hb5 ho5))
    have hld := load_x (at_setRow (cX zX) ro)
    have hle : w.heap.size ≤ b := by have := HB.out; omega
    exact bodyPost_ret (v := .tuple #[vX zX, .int .i64 0, .string ⟨#[]⟩, .bool false]) (results_c4 (ad := ⟨b, 0, none⟩) rfl rfl hld rfl rfl rfl) rfl ⟨rfl, Below.setRow H5.out hle _⟩
  have h5b : (((unhexL (bl w2)).length : Int) != 16) = false := by rw [hul, h5]; rfl
  by_cases h6 : identB (bl w3) = true
  case neg =>
    have hr : parseI (bl L) = none := by rw [hp, if_neg (fun h => h6 h.2.2.2.2.2)]
    rw [hr]
    have HPN := Lib.hid (fun W => mparse_no w3 W (by simpa using h6))
    clear hr hp h5 h6
    go_enter Tryz.func56, Tryz.ntmps56
    go_wp2_with (first
      | (go_at_call 73; refine HSP.out.mono ?_; rintro e wq ⟨rfl, rfl⟩)
      | (go_at_call 54; refine (HNU.out _).mono ?_; rintro e wr ⟨rfl, rfl⟩)
      | (go_at_call 74; refine (HUY.out _).mono ?_; rintro e w5 ⟨vu, rfl, hb5, ho5⟩; obtain ⟨Au, cu, rfl, -, -⟩ := ho5.sl; clear ro; obtain ⟨⟨-, -, ro⟩, -, -⟩ := rowX (H2.out.2.2.keep hb5); have c3 : w5.cell? ⟨b + 1, 3, none⟩ = some (.string w3) := (H2.out.2.1.keep hb5).cell 3; have H5 := Lib.hid (show Below w.heap.size w w5 ∧ Row w5 b (cX zX) 64 from ⟨Below.step H2.out.1 hb5, H2.out.2.2.keep hb5⟩); clear hb5 ho5)
      | (go_at_call 75; refine (HPN.out _).mono ?_; rintro e w6 ⟨ra, rn, rfl, hrn, hb6⟩; have hrb : (rn != 0) = true := (by simpa using hrn); clear ro; obtain ⟨⟨-, -, ro⟩, -, -⟩ := rowX ((H5.out.2.keep hb6).keep (below_alloc _ (.cells (aI zI) 37))); have H6 := Lib.hid (Below.step (Below.step H5.out.1 hb6) (below_alloc w6 (.cells (aI zI) 37))); clear hb6))
    have hld := load_x (at_setRow (cX zX) ro)
    have hle : w.heap.size ≤ b := by have := HB.out; omega
    exact bodyPost_ret (v := .tuple #[vX zX, .int .i64 0, .string ⟨#[]⟩, .bool false]) (results_c4 (ad := ⟨b, 0, none⟩) rfl rfl hld rfl rfl rfl) rfl ⟨rfl, Below.setRow H6.out hle _⟩
  have hr : parseI (bl L) = some (midL (bl w3), k, bl w2) := by
    rw [hp, if_pos ⟨rfl, rfl, by rw [bl_length]; exact h3.1, h3.2, by rw [bl_length]; exact h5, h6⟩]
    rfl
  rw [hr]
  have HPY := Lib.hid (fun W => mparse_yes w3 W h6)
  obtain ⟨id, hid⟩ : ∃ id, midL (bl w3) = id := ⟨_, rfl⟩
  rw [hid] at HPY
  rw [hid]
  clear hr hp h5 h6 h3 hid
  go_enter Tryz.func56, Tryz.ntmps56
  go_wp2_with (first
    | (go_at_call 73; refine HSP.out.mono ?_; rintro e wq ⟨rfl, rfl⟩)
    | (go_at_call 54; refine (HNU.out _).mono ?_; rintro e wr ⟨rfl, rfl⟩)
    | (go_at_call 74; refine (HUY.out _).mono ?_; rintro e w5 ⟨vu, rfl, hb5, ho5⟩; obtain ⟨Au, cu, rfl, -, -⟩ := ho5.sl; clear ro; have c3 : w5.cell? ⟨b + 1, 3, none⟩ = some (.string w3) := (H2.out.2.1.keep hb5).cell 3; have H5 := Lib.hid (show Below w.heap.size w w5 ∧ Row w5 b (cX zX) 64 ∧ Row w5 (b + 1) ([⟨#[97, 114, 116, 105, 99, 108, 101]⟩, w1, w2, w3].map Value.string) 9 from ⟨Below.step H2.out.1 hb5, H2.out.2.2.keep hb5, H2.out.2.1.keep hb5⟩); clear hb5 ho5)
    | (go_at_call 75; refine (HPY.out _).mono ?_; rintro e w6 ⟨rfl, hb6⟩; have H6 := Lib.hid (show Below w.heap.size w (w6.alloc (.cells (aI id) 37)) ∧ Row (w6.alloc (.cells (aI id) 37)) b (cX zX) 64 ∧ Row (w6.alloc (.cells (aI id) 37)) (b + 1) ([⟨#[97, 114, 116, 105, 99, 108, 101]⟩, w1, w2, w3].map Value.string) 9 from ⟨Below.step (Below.step H5.out.1 hb6) (below_alloc _ _), (H5.out.2.1.keep hb6).keep (below_alloc _ _), (H5.out.2.2.keep hb6).keep (below_alloc _ _)⟩); have hgb : w6.heap.size ≠ b := (by have := ((H5.out.2.1.keep hb6)).lt; omega); clear hb6 c3))
  obtain ⟨g7, hg7⟩ : ∃ g, w6.heap.size = g := ⟨_, rfl⟩
  obtain ⟨W7, hW7⟩ : ∃ W7, w6.alloc (.cells (aI id) 37) = W7 := ⟨_, rfl⟩
  have R7 : Row W7 g7 (cI id) 37 := by rw [← hW7, ← hg7]; exact Row.new w6 (cI id) _
  rw [hW7] at H6
  rw [hW7, hg7]
  obtain ⟨y1, y2, -⟩ := rowI R7
  have z1 : W7.cell? ⟨b + 1, 2, none⟩ = some (.string w2) := H6.out.2.2.cell 2
  have z2 : (W7.setRow b (aX ⟨id, ⟨#[]⟩⟩)).cell? ⟨b + 1, 2, none⟩ = some (.string w2) := (H6.out.2.2.setRow_ne (by omega)).cell 2
  obtain ⟨⟨-, -, ro7⟩, -, -⟩ := rowX H6.out.2.1
  clear hW7 hg7 R7
  go_region
  go_wp2
  have hld := load_x (w := (W7.setRow b (aX ⟨id, ⟨#[]⟩⟩)).drew) (ad := ⟨b, 0, none⟩) (x := ⟨id, ⟨#[]⟩⟩) (at_setRow (cX ⟨id, ⟨#[]⟩⟩) ro7)
  have hle : w.heap.size ≤ b := by have := HB.out; omega
  exact bodyPost_ret (v := .tuple #[vX ⟨id, ⟨#[]⟩⟩, .int .i64 (k : Int), .string w2, .bool true]) (results_c4 (ad := ⟨b, 0, none⟩) rfl rfl hld rfl rfl rfl) rfl ⟨rfl, (Below.setRow H6.out.1 hle _).drew⟩
end Go.Proofs.YtecalodcbkljoaaGreatDoor
