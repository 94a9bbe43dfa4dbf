/- A batch in the reference: bulletinref35.Unpack. -/
import Derived.Test.YtecalodcbkljoaaGreatDoorMRed
import Derived.Test.YtecalodcbkljoaaGreatDoorMUnp
import Derived.Test.YtecalodcbkljoaaGreatDoorMTo5
namespace Go.Proofs.YtecalodcbkljoaaGreatDoor
open Go.RowKit
theorem itemP_err {s : List UInt8} {a : Nat} {e : Int} {k : Nat} (h : itemP s a = .error (e, k)) : e ≠ 0 ∧ k ≤ s.length := by
  unfold itemP at h
  split at h
  · cases h
    exact ⟨by decide, Nat.le_refl _⟩
  · rename_i n hn
    have hlt := (nlAt_spec hn).2.2
    rw [List.length_drop] at hlt
    split at h
    · cases h
      exact ⟨by decide, by omega⟩
    · rename_i id k' d hp
      simp only [] at h
      split at h
      · cases h
        exact ⟨by decide, Nat.le_refl _⟩
      · split at h
        · cases h
          exact ⟨by decide, by omega⟩
        · split at h
          · cases h
            exact ⟨by decide, by omega⟩
          · cases h
theorem firstP_none {s : List UInt8} (h : nlAt s = none) : firstP s = .error (23, s.length) := by unfold firstP; rw [h]
def batB : List UInt8 := [98, 97, 116, 99, 104]
theorem firstP_yes {s w1 : List UInt8} {n : Nat} (h : nlAt s = some n) (hw : splitGo 32 [] (s.take n) = [batB, w1]) (hn : (numE w1 1000).2 = 0) : firstP s = .ok ((numE w1 1000).1.toNat, n + 1) := by
  have hu := unsp_split 32 (s.take n) []
  rw [hw, List.nil_append] at hu
  have h6 : (s.take n).take 6 = [98, 97, 116, 99, 104, 32] := by rw [← hu]; simp [unsp, batB]
  have hd : (s.take n).drop 6 = w1 := by rw [← hu]; simp [unsp, batB]
  unfold firstP
  rw [h]
  simp only []
  rw [hd, if_pos ⟨h6, hn⟩]
theorem firstP_no {s : List UInt8} {n : Nat} (h : nlAt s = some n) (hw : ¬ ∃ w1, splitGo 32 [] (s.take n) = [batB, w1] ∧ (numE w1 1000).2 = 0) : firstP s = .error (3, 0) := by
  unfold firstP
  rw [h]
  simp only []
  refine if_neg fun ⟨h1, h2⟩ => hw ⟨(s.take n).drop 6, ?_, h2⟩
  obtain ⟨e, h3, -⟩ := numE_back h2 rfl
  have hn32 : 32 ∉ (s.take n).drop 6 := by
    rw [e]
    exact (wordB_no _ (itoa_word _ h3)).1
  have e2 : s.take n = batB ++ 32 :: (s.take n).drop 6 := by
    conv => lhs; rw [← List.take_append_drop 6 (s.take n), h1]
    rfl
  conv => lhs; rw [e2]
  rw [splitGo_word _ _ (by decide), splitGo_one _ hn32]
  rfl
theorem unpackP_err {s : List UInt8} (h : s.length ≤ 4194304) {e : Int × Nat} (hf : firstP s = .error e) : unpackP s = .error e := by
  unfold unpackP
  rw [if_neg (by omega), hf]
theorem lastP_none {s : List UInt8} {a : Nat} (h : nlAt (s.drop a) = none) : lastP s a = .error (23, s.length) := by unfold lastP; rw [h]
theorem lastP_some {s : List UInt8} {a n : Nat} (h : nlAt (s.drop a) = some n) : lastP s a = if (s.drop a).take n ≠ [101, 110, 100] then .error (3, a) else if a + n + 1 < s.length then .error (5, a + n + 1) else .ok () := by unfold lastP; rw [h]
theorem finP_zero (s : List UInt8) (l : List It) (a : Nat) : finP s l (itemsP s 0 a) = match lastP s a with | .error e => .error e | .ok _ => .ok l := by
  rw [itemsP]
  unfold finP
  simp only []
  cases lastP s a <;> simp
theorem UnpR.err2 {e : Int} {k : Nat} {w w' : World} (hb : Below w.heap.size w w') : UnpR (.error (e, k)) w (.returned (.tuple #[.slice none 0 0, .int .i64 (k : Int), .int .i64 e])) w' :=
  ⟨none, 0, rfl, Nat.le_refl _, Sl.nil _ _ _, hb⟩
theorem sl_newF (w : World) (y : It) : Sl (w.alloc (.cells (aX y) 39)) cX (some ⟨w.heap.size, 0, none⟩) [y] := by
  refine fun _ => ⟨_, rfl, ?_⟩
  have e : [y].flatMap cX = cX y := by simp
  rw [e]
  exact at_new w (cX y) _ _ rfl
set_option maxRecDepth 100000 in
set_option maxHeartbeats 6400000 in
theorem runpack_b (s : ByteArray) (w : World) (hsz : s.size ≤ 1073741824) : Calls Tryz.prog 10 #[.string s] w (UnpR (unpackP (bl s)) w) := by
  by_cases hbig : 4194304 < s.size
  · have hr : unpackP (bl s) = .error (5, 4194304) := by unfold unpackP; rw [if_pos (by rw [bl_length]; exact hbig)]
    rw [hr]
    have hbi : (4194304 : Int) < (s.size : Int) := by omega
    clear hr
    go_enter Tryz.func10, Tryz.ntmps10
    go_wp2
    go_ret3
    exact UnpR.err2 (Below.refl _ _)
  have hbi : ¬ (4194304 : Int) < (s.size : Int) := by omega
  have hS := bl_length s
  have HEN := Lib.hid (rend_b s 0 (Nat.zero_le _) hsz w)
  have hS4 : (bl s).length ≤ 4194304 := by omega
  rcases hq : nlAt ((bl s).drop 0) with _ | n
  · have hr := unpackP_err hS4 (firstP_none hq)
    rw [hS] at hr
    rw [hr]
    have HEV := Lib.hid (show endV s 0 = -1 by unfold endV; rw [hq])
    rw [HEV.out] at HEN
    clear hq hS hbig hr
    go_enter Tryz.func10, Tryz.ntmps10
    go_wp2_with (go_at_call 34; refine HEN.out.mono ?_; rintro e w2 ⟨rfl, hw2⟩; obtain rfl := hw2.symm)
    go_ret3
    exact UnpR.err2 (Below.refl _ _)
  rw [List.drop_zero] at hq
  have hlt := (nlAt_spec hq).2.2
  have HEV := Lib.hid (show endV s 0 = (n : Int) by unfold endV; rw [List.drop_zero, hq]; simp)
  rw [HEV.out] at HEN
  have hni : (n : Int) ≤ (s.size : Int) := by omega
  have hn0 : ¬ (n : Int) < 0 := by omega
  obtain ⟨L, hLd⟩ : ∃ L, s.extract 0 n = L := ⟨_, rfl⟩
  have hbl : bl L = (bl s).take n := by
    have := bl_piece s 0 n
    rw [Nat.zero_add, List.drop_zero] at this
    rw [← hLd, this]
  have HLS := Lib.hid (show L.size ≤ 1073741824 by rw [← bl_length, hbl, List.length_take]; omega)
  obtain ⟨ws, hws⟩ : ∃ ws, (splitGo 32 [] (bl L)).map mkS = ws := ⟨_, rfl⟩
  have hgo : ws.map bl = splitGo 32 [] (bl L) := by
    rw [← hws, List.map_map]
    exact (List.map_congr_left (fun l _ => bl_mkS l)).trans (List.map_id _)
  have HWD := Lib.hid (words_b L HLS.out w)
  rw [hws] at HWD
  have hsum0 : (unsp 32 (ws.map bl)).length ≤ 1073741824 := by
    rw [hgo, unsp_split, List.nil_append, bl_length]
    exact HLS.out
  rw [hbl] at hgo
  have hno : (¬ ∃ w1, splitGo 32 [] ((bl s).take n) = [batB, w1] ∧ (numE w1 1000).2 = 0) → unpackP (bl s) = .error (3, 0) := fun h => unpackP_err hS4 (firstP_no hq h)
  clear hws
  by_cases h4 : ws.length = 2
  case neg =>
    have hr := hno (fun ⟨w1, h, _⟩ => h4 (by rw [← List.length_map (f := bl), hgo, h]; rfl))
    rw [hr]
    have h4i : ((ws.length : Int) != 2) = true := by simp; omega
    clear hr hgo h4 hbl hlt hq hS hsz hsum0 hno
    go_enter Tryz.func10, Tryz.ntmps10
    go_wp2_with (first
      | (go_at_call 34; refine HEN.out.mono ?_; rintro e w2 ⟨rfl, hw2⟩; obtain rfl := hw2.symm)
      | (go_at_call 35; refine HWD.out.mono ?_; rintro e w3 ⟨v3, rfl, ho3, hb3⟩; obtain ⟨A3, c3, rfl, -, -⟩ := ho3.sl; have H3 := Lib.hid hb3; clear hb3 ho3))
    go_ret3
    exact UnpR.err2 H3.out
  obtain ⟨w0, w1, HWS⟩ : ∃ w0 w1, ws = [w0, w1] := by
    match hm : ws, h4 with
    | [w0, w1], _ => exact ⟨w0, w1, rfl⟩
  rw [HWS] at HWD hgo hsum0
  clear h4
  have hgo2 : splitGo 32 [] ((bl s).take n) = [bl w0, bl w1] := hgo.symm
  have hsum : w0.size ≤ 1073741824 ∧ w1.size ≤ 1073741824 := by
    simp only [List.map_cons, List.map_nil, unsp, List.length_append, List.length_cons, bl_length] at hsum0
    omega
  have HSM := Lib.hid hsum
  clear hgo hsum0 HWS ws hsum
  by_cases ha0 : w0 = ⟨#[98, 97, 116, 99, 104]⟩
  case neg =>
    have hr := hno (fun ⟨w', h, _⟩ => ha0 (bl_inj (by rw [hgo2] at h; exact (List.cons.inj h).1)))
    rw [hr]
    have hab : (w0.toList == [98, 97, 116, 99, 104]) = false := by
      rw [beq_eq_false_iff_ne, Lib.toList_data]
      intro h
      exact ha0 (bl_inj h)
    clear hr ha0 hgo2 hbl hlt hq hS hsz hno
    go_enter Tryz.func10, Tryz.ntmps10
    go_wp2_with (first
      | (go_at_call 34; refine HEN.out.mono ?_; rintro e w2 ⟨rfl, hw2⟩; obtain rfl := hw2.symm)
      | (go_at_call 35; refine HWD.out.mono ?_; rintro e w3 ⟨v3, rfl, ho3, hb3⟩; obtain ⟨g, c5, rfl, -⟩ := ho3.str0 (Nat.succ_pos _); have k0 : w3.cell? ⟨g, 0, none⟩ = some (.string w0) := (ho3.set1 0 w0 rfl).2.1; have H3 := Lib.hid hb3; clear hb3 ho3))
    go_ret3
    exact UnpR.err2 H3.out
  have hab : (w0.toList == [98, 97, 116, 99, 104]) = true := by rw [ha0, Lib.toList_data]; rfl
  obtain ⟨m, hm⟩ : ∃ m, numW (bl w1) 1000 = m := ⟨_, rfl⟩
  have HNU := Lib.hid (fun W => rnum_b w1 1000 (by decide) (by decide) HSM.out.2 W)
  rw [hm] at HNU
  by_cases hm0 : m < 0
  case pos =>
    have hr := hno (fun ⟨w', h, h2⟩ => by
      rw [hgo2] at h
      have e : bl w1 = w' := (List.cons.inj (List.cons.inj h).2).1
      rw [← e] at h2
      exact numW_neg.1 (by rw [hm]; exact hm0) h2)
    rw [hr]
    clear hr ha0 hgo2 hbl hlt hq hS hsz hno hm
    go_enter Tryz.func10, Tryz.ntmps10
    go_wp2_with (first
      | (go_at_call 34; refine HEN.out.mono ?_; rintro e w2 ⟨rfl, hw2⟩; obtain rfl := hw2.symm)
      | (go_at_call 35; refine HWD.out.mono ?_; rintro e w3 ⟨v3, rfl, ho3, hb3⟩; obtain ⟨g, c5, rfl, -⟩ := ho3.str0 (Nat.succ_pos _); have k0 : w3.cell? ⟨g, 0, none⟩ = some (.string w0) := (ho3.set1 0 w0 rfl).2.1; have k1 : w3.cell? ⟨g, 1, none⟩ = some (.string w1) := (ho3.set1 1 w1 rfl).2.1; have H3 := Lib.hid hb3; clear hb3 ho3)
      | (go_at_call 36; refine (HNU.out _).mono ?_; rintro e w6 ⟨rfl, hw6⟩; obtain rfl := hw6.symm))
    go_ret3
    exact UnpR.err2 H3.out
  have hnz : (numE (bl w1) 1000).2 = 0 := Classical.byContradiction fun h => hm0 (by rw [← hm]; exact numW_neg.2 h)
  obtain ⟨-, hv0, hv1⟩ := numE_back hnz rfl
  have hmv : (numE (bl w1) 1000).1 = m := by
    rw [← hm]
    unfold numW
    rw [if_pos hnz]
  rw [hmv] at hv0 hv1
  obtain ⟨k, rfl⟩ : ∃ k : Nat, m = (k : Int) := ⟨m.toNat, by omega⟩
  have hf := firstP_yes hq (by rw [hgo2, ha0]; rfl) hnz
  rw [hmv, Int.toNat_natCast] at hf
  have HUF := Lib.hid (unpackP_fin (bl s) hS4 k (n + 1) hf)
  have hki : (k : Int) ≤ 1000 := hv1
  have hkn : ¬ (k : Int) < 0 := by omega
  have HSZ := Lib.hid (And.intro (show s.size ≤ 4194304 by omega) (show n < s.size by omega))
  have hn1 : (n : Int) ≤ 4194304 := by omega
  clear ha0 hgo2 hbl hlt hq hsz hno hm hm0 hnz hv0 hv1 hmv hf hbig
  go_enter Tryz.func10, Tryz.ntmps10
  go_wp2_with (first
    | (go_at_call 34; refine HEN.out.mono ?_; rintro e w2 ⟨rfl, hw2⟩; obtain rfl := hw2.symm)
    | (go_at_call 35; refine HWD.out.mono ?_; rintro e w3 ⟨v3, rfl, ho3, hb3⟩; obtain ⟨g, c5, rfl, -⟩ := ho3.str0 (Nat.succ_pos _); have k0 : w3.cell? ⟨g, 0, none⟩ = some (.string w0) := (ho3.set1 0 w0 rfl).2.1; have k1 : w3.cell? ⟨g, 1, none⟩ = some (.string w1) := (ho3.set1 1 w1 rfl).2.1; have H3 := Lib.hid hb3; clear hb3 ho3)
    | (go_at_call 36; refine (HNU.out _).mono ?_; rintro e w6 ⟨rfl, hw6⟩; obtain rfl := hw6.symm))
  clear k0 k1 HEN HWD HNU
  go_loopw [8, 9, 10] (fun av v i wr => ∃ (t a : Nat) (l : List It), t ≤ k ∧ a ≤ s.size ∧ i = .int .i64 (t : Int) ∧ av = .int .i64 (a : Int) ∧ l.length = t ∧ Own wr w.heap.size 39 33 cX v l ∧ Below w.heap.size w wr ∧ unpackP (bl s) = finP (bl s) l (itemsP (bl s) (k - t) a)) (fun _ _ i _ => k - (intOf i).toNat)
  case atStart => exact ⟨0, n + 1, [], Nat.zero_le _, by have := HSZ.out.2; omega, rfl, by go_num, rfl, Own.nil _ _ _ _ _, H3.out, by rw [Nat.sub_zero]; exact HUF.out⟩
  case round =>
    obtain ⟨t, a, l, ht, ha, rfl, rfl, hl, ho, hb, hun⟩ := hrel
    have HO := Lib.hid (And.intro ho (And.intro hb hl))
    clear ho hb hl
    have hs4 := HSZ.out.1
    by_cases htk : t < k
    · have htki : (t : Int) < (k : Int) := by omega
      have ht1 : (t : Int) < 1000 := by omega
      have HR := Lib.hid (fun W => read_b s a W ha (by omega))
      rw [show k - t = (k - (t + 1)) + 1 by omega, finP_step] at hun
      cases hi : itemP (bl s) a with
      | error er =>
        obtain ⟨e, j⟩ := er
        rw [hi] at hun HR
        obtain ⟨he, -⟩ := itemP_err hi
        have hei : (e != 0) = true := by simpa using he
        have HUN := Lib.hid (show unpackP (bl s) = .error (e, j) from hun)
        clear hun hi he
        go_wp2_with (go_at_call 37; refine (HR.out _).mono ?_; rintro en w5 ⟨rfl, hb5⟩; rw [show readV (.error (e, j)) = .tuple #[vX zX, .int .i64 0, .int .i64 (j : Int), .int .i64 e] from rfl]; have H5 := Lib.hid (Below.step HO.out.2.1 (Below.step hb5 (below_alloc w5 (.cells (aX zX) 39)))); clear hb5)
        go_ret3
        rw [HUN.out]
        exact UnpR.err2 H5.out
      | ok u =>
        obtain ⟨y, c⟩ := u
        rw [hi] at hun HR
        obtain ⟨-, -, hc, -⟩ := itemP_back hi
        have HUN := Lib.hid (show unpackP (bl s) = finP (bl s) (l ++ [y]) (itemsP (bl s) (k - (t + 1)) c) from hun)
        clear hun hi
        go_wp2_with (first
          | (go_at_call 37; refine (HR.out _).mono ?_; rintro en w5 ⟨rfl, hb5⟩; rw [show readV (.ok (y, c)) = .tuple #[vX y, .int .i64 (c : Int), .int .i64 0, .int .i64 0] from rfl]; obtain ⟨W6, hW6⟩ : ∃ W6, w5.alloc (.cells (aX y) 39) = W6 := ⟨_, rfl⟩; obtain ⟨g6, hg6⟩ : ∃ g6, w5.heap.size = g6 := ⟨_, rfl⟩; have R6 : Row W6 g6 (cX y) 39 := (by rw [← hW6, ← hg6]; exact Row.new w5 (cX y) _); obtain ⟨⟨r1, r2, -⟩, -, -⟩ := rowX R6; have H6 := Lib.hid (show Own W6 w.heap.size 39 33 cX u9 l ∧ Below w.heap.size w W6 from by rw [← hW6]; exact ⟨(HO.out.1.keep hb5).keep (below_alloc _ _), Below.step HO.out.2.1 (Below.step hb5 (below_alloc _ _))⟩); clear hb5 R6)
          | (at_builtin; refine wpList_append_sl _ rfl (.tmp 67) (.tmp 69) 26 rfl w.heap.size 39 33 48 cX underFs rowXF (by decide) cX_length cX_one u9 l rfl (H6.out.1.keep (below_alloc _ _)) (some ⟨W6.heap.size, 0, none⟩) 1 1 [y] rfl rfl (sl_newF W6 y) (by have := HO.out.2.2; omega) (by have := HO.out.2.2; omega) (by have := H6.out.2.size; simp; omega) ?_))
        intro v2 w7 ho7 hg7
        have hbb := Below.step H6.out.2 (below_alloc W6 (.cells (aX y) 39))
        have hb7 := Own.grew (H6.out.1.keep (below_alloc W6 (.cells (aX y) 39))) hg7 hbb (Nat.le_refl _) hbb.size
        have H7 := Lib.hid (And.intro ho7 (And.intro hb7 (show (l ++ [y]).length = t + 1 by rw [List.length_append, HO.out.2.2]; rfl)))
        have HC := Lib.hid (show c ≤ s.size by rw [← hS]; exact hc)
        clear ho7 hg7 hbb hb7 r1 r2 hc
        go_wp2
        go_roundw
        case rel => exact ⟨t + 1, c, l ++ [y], by omega, HC.out, by go_num, rfl, H7.out.2.2, H7.out.1, H7.out.2.1, HUN.out⟩
        case measure => simp [intOf]; omega
    · obtain rfl : t = k := by omega
      rw [Nat.sub_self, finP_zero] at hun
      obtain ⟨Al, cl, rfl, hcl, hsl⟩ := HO.out.1.sl
      have HSL := Lib.hid (And.intro hsl hcl)
      have HE2 := Lib.hid (rend_b s a ha (by omega) wr)
      clear htk hsl hcl
      rcases hq : nlAt ((bl s).drop a) with _ | j
      · have HEV2 := Lib.hid (show endV s a = -1 by unfold endV; rw [hq])
        rw [HEV2.out] at HE2
        rw [lastP_none hq, hS] at hun
        have HUN := Lib.hid (show unpackP (bl s) = .error (23, s.size) from hun)
        clear hun hq
        go_wp2_with (go_at_call 34; refine HE2.out.mono ?_; rintro en w5 ⟨rfl, rfl⟩)
        go_ret3
        rw [HUN.out]
        exact UnpR.err2 HO.out.2.1
      · have hj := (nlAt_spec hq).2.2
        rw [List.length_drop, hS] at hj
        have HEV2 := Lib.hid (show endV s a = ((a + j : Nat) : Int) by unfold endV; rw [hq])
        rw [HEV2.out] at HE2
        rw [lastP_some hq, hS] at hun
        obtain ⟨p, hp⟩ : ∃ p, a + j = p := ⟨_, rfl⟩
        rw [hp] at HE2 hun
        have hpi : (p : Int) < (s.size : Int) := by omega
        have hpl : (p : Int) ≤ (s.size : Int) := by omega
        have hp0 : ¬ (p : Int) < 0 := by omega
        have hap : (a : Int) ≤ (p : Int) := by omega
        have hp4 : (p : Int) ≤ 4194304 := by omega
        obtain ⟨M, hM⟩ : ∃ M, s.extract a p = M := ⟨_, rfl⟩
        have hbM : bl M = ((bl s).drop a).take j := by rw [← hM, ← hp, bl_piece]
        rw [← hbM] at hun
        clear hbM hq hj
        by_cases hmm : bl M = [101, 110, 100]
        · have hmi : (M.toList == [101, 110, 100]) = true := by rw [Lib.toList_data]; exact beq_iff_eq.2 hmm
          rw [if_neg (by simpa using hmm)] at hun
          by_cases hlast : p + 1 < s.size
          · have hli : (p : Int) + 1 < (s.size : Int) := by omega
            rw [if_pos hlast] at hun
            have HUN := Lib.hid (show unpackP (bl s) = .error (5, p + 1) from hun)
            clear hun hlast hmm
            go_wp2_with (go_at_call 34; refine HE2.out.mono ?_; rintro en w5 ⟨rfl, rfl⟩)
            go_ret3
            rw [HUN.out]
            exact UnpR.err2 HO.out.2.1
          · have hli : ¬ (p : Int) + 1 < (s.size : Int) := by omega
            rw [if_neg hlast] at hun
            have HUN := Lib.hid (show unpackP (bl s) = .ok l from hun)
            clear hun hlast hmm
            go_wp2_with (go_at_call 34; refine HE2.out.mono ?_; rintro en w5 ⟨rfl, rfl⟩)
            go_ret3
            rw [HUN.out]
            exact ⟨Al, cl, rfl, HSL.out.2, HSL.out.1, HO.out.2.1⟩
        · have hmi : (M.toList == [101, 110, 100]) = false := by rw [Lib.toList_data]; exact beq_eq_false_iff_ne.2 hmm
          rw [if_pos hmm] at hun
          have HUN := Lib.hid (show unpackP (bl s) = .error (3, a) from hun)
          clear hun hmm
          go_wp2_with (go_at_call 34; refine HE2.out.mono ?_; rintro en w5 ⟨rfl, rfl⟩)
          go_ret3
          rw [HUN.out]
          exact UnpR.err2 HO.out.2.1
end Go.Proofs.YtecalodcbkljoaaGreatDoor
