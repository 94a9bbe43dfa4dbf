/- BatchSalvages is true for all texts. BatchDamage is true for all items, places and bytes. -/
import Derived.Test.YtecalodcbkljoaaGreatDoorMRsl
import Derived.Test.YtecalodcbkljoaaGreatDoorMSlv
import Derived.Test.YtecalodcbkljoaaGreatDoorMSam
import Derived.Test.YtecalodcbkljoaaGreatDoorMPkp
import Derived.Test.YtecalodcbkljoaaGreatDoorMBrw
import Derived.Test.YtecalodcbkljoaaGreatDoorMClx
import Derived.Test.YtecalodcbkljoaaGreatDoorMNmd
namespace Go.Proofs.YtecalodcbkljoaaGreatDoor
open Go.RowKit
theorem cut_size (t : ByteArray) (m : Nat) (hm : min t.size 6000 = m) : (t.extract 0 m).size ≤ 6000 := by
  rw [ByteArray.size_extract]
  omega
set_option maxRecDepth 100000 in
set_option maxHeartbeats 6400000 in
theorem salvages_law (t : ByteArray) (w : World) (hL : Laid w) : Calls Tryz.prog 4 #[.string t] w fun e w' => e = .returned (.bool true) ∧ Below w.heap.size w w' := by
  obtain ⟨m, hm⟩ : ∃ m, min t.size 6000 = m := ⟨_, rfl⟩
  have HS6 := Lib.hid (cut_size t m hm)
  obtain ⟨S, hS⟩ : ∃ S, t.extract 0 m = S := ⟨_, rfl⟩
  rw [hS] at HS6
  have hmi : min (t.size : Int) 6000 = (m : Int) := by omega
  have hmt : (m : Int) ≤ (t.size : Int) := by omega
  have HLEN := Lib.hid (show (salvP (bl S) 0).length ≤ 1073741824 from by
    have h1 := salvP_len (bl S) _ 0 (Nat.le_refl _)
    rw [bl_length] at h1
    have := HS6.out
    omega)
  obtain ⟨l, hl⟩ : ∃ l, salvP (bl S) 0 = l := ⟨_, rfl⟩
  rw [hl] at HLEN
  have H0 := Lib.hid hL
  have HLL := Lib.hid hl
  clear hL hm hl
  go_enter Tryz.func4, Tryz.ntmps4
  go_wp2_with (first
    | (go_at_call 12; refine (known_c _ H0.out).mono ?_; rintro e w1 ⟨rfl, hb1⟩; have H1 := Lib.hid hb1; clear hb1)
    | (go_at_call 15; refine (salvage_s S _ (H0.out.keep H1.out) (by have := HS6.out; omega)).mono ?_; rintro e w2 ⟨A2, c2, rfl, -, hs2, hb2⟩; rw [HLL.out] at hs2 ⊢; have H2 := Lib.hid (And.intro (Below.step H1.out hb2) hs2); clear hb2 hs2)
    | (go_at_call 16; refine (rsalv_b S _ (by have := HS6.out; omega)).mono ?_; rintro e w3 ⟨A3, c3, rfl, -, hs3, hb3⟩; rw [HLL.out] at hs3 ⊢; have H3 := Lib.hid (show Below w.heap.size w w3 ∧ Sl w3 cX A2 l ∧ Sl w3 cX A3 l from ⟨Below.step H2.out.1 hb3, H2.out.2.keep hb3, hs3⟩); clear hb3 hs3)
    | (go_at_call 13; refine (same_b A2 A3 c2 c3 l l _ H3.out.2.1 H3.out.2.2 HLEN.out HLEN.out).mono ?_; rintro e w4 ⟨rfl, hb4⟩; rw [decide_eq_true rfl]; have H4 := Lib.hid (Below.step H3.out.1 hb4); clear hb4))
  go_ret
  exact ⟨rfl, H4.out⟩
end Go.Proofs.YtecalodcbkljoaaGreatDoor
namespace Go.Proofs.YtecalodcbkljoaaGreatDoor
open Go.RowKit
def vP2 (a b : UInt8) : Value := .agg #[cB a, cB b]
def hdrL : List UInt8 := [98, 97, 116, 99, 104, 32, 48, 10]
/-- The damaged text, and the items that are whole, up to an item. -/
def dmgT (X : List It) (p : Nat) (D : List UInt8) : Nat → List UInt8
  | 0 => hdrL
  | i + 1 => dmgT X p D i ++ (if i = p then D else itL (X.getD i zX))
def wantL (X : List It) (p : Nat) : Nat → List It
  | 0 => []
  | i + 1 => if i = p then wantL X p i else wantL X p i ++ [X.getD i zX]
theorem getD_at {X : List It} {i : Nat} (h : i < X.length) : X.getD i zX = X[i] := by
  rw [List.getD_eq_getElem?_getD, List.getElem?_eq_getElem h]
  rfl
theorem dmg_low (X : List It) (p : Nat) (D : List UInt8) : ∀ i, i ≤ p → i ≤ X.length → dmgT X p D i = hdrL ++ (X.take i).flatMap itL ∧ wantL X p i = X.take i
  | 0, _, _ => by simp [dmgT, wantL]
  | i + 1, hp, hl => by
    obtain ⟨h1, h2⟩ := dmg_low X p D i (by omega) (by omega)
    have hi : i < X.length := by omega
    unfold dmgT wantL
    rw [if_neg (by omega), if_neg (by omega), h1, h2, getD_at hi, List.take_succ_eq_append_getElem hi, List.flatMap_append]
    simp
theorem dmg_high (X : List It) (p : Nat) (D : List UInt8) : ∀ i, p < i → i ≤ X.length → dmgT X p D i = hdrL ++ ((X.take p).flatMap itL ++ (D ++ ((X.take i).drop (p + 1)).flatMap itL)) ∧ wantL X p i = X.take p ++ (X.take i).drop (p + 1)
  | 0, hp, _ => by omega
  | i + 1, hp, hl => by
    have hi : i < X.length := by omega
    by_cases e : i = p
    · subst e
      obtain ⟨h1, h2⟩ := dmg_low X i D i (Nat.le_refl _) (by omega)
      unfold dmgT wantL
      rw [if_pos rfl, if_pos rfl, h1, h2, List.drop_eq_nil_of_le (by rw [List.length_take]; omega)]
      simp
    · obtain ⟨h1, h2⟩ := dmg_high X p D i (by omega) (by omega)
      unfold dmgT wantL
      have h3 : (X.take (i + 1)).drop (p + 1) = (X.take i).drop (p + 1) ++ [X[i]] := by
        rw [List.take_succ_eq_append_getElem hi, List.drop_append_of_le_length (by rw [List.length_take]; omega)]
      rw [if_neg e, if_neg e, h1, h2, getD_at hi, h3, List.flatMap_append]
      simp
theorem dmg_len (X : List It) (p : Nat) (D : List UInt8) (hD : D.length ≤ 700) (hX : ∀ x ∈ X, x.text.size ≤ 400) : ∀ i, i ≤ X.length → (dmgT X p D i).length ≤ 8 + 700 * i ∧ (wantL X p i).length ≤ i
  | 0, _ => by simp [dmgT, wantL, hdrL]
  | i + 1, hl => by
    obtain ⟨h1, h2⟩ := dmg_len X p D hD hX i (by omega)
    have hi : i < X.length := by omega
    have h3 : (itL (X.getD i zX)).length ≤ 700 := by
      rw [getD_at hi, itL_len]
      have := hX X[i] (List.getElem_mem _)
      unfold itN
      have := itoa_len 3 X[i].text.size (by decide) (by omega)
      omega
    unfold dmgT wantL
    constructor
    · rw [List.length_append]
      split <;> omega
    · split
      · omega
      · rw [List.length_append, List.length_singleton]
        omega
/-- The whole text, damaged in one byte of item p's line. -/
theorem dmg_all {X : List It} {p q : Nat} {v c0 : UInt8} (hp : p < X.length) (hq : q < 100) (hc : (itL X[p])[q]? = some c0) (hv : v ≠ c0) (hv10 : v ≠ 10) (hX : ∀ x ∈ X, x.text.size ≤ 65536) (hpl : Plain (bl X[p].text)) :
    salvP (dmgT X p ((itL X[p]).set q v) X.length) 0 = wantL X p X.length ∨ ∃ y, y ∈ salvP (dmgT X p ((itL X[p]).set q v) X.length) 0 ∧ X[p] ≠ y ∧ digT X[p] = digT y := by
  obtain ⟨h1, h2⟩ := dmg_high X p ((itL X[p]).set q v) X.length hp (Nat.le_refl _)
  have h100 := headL_100 X[p]
  have hit : itL X[p] = headL X[p] ++ 10 :: (bl X[p].text ++ [10]) := rfl
  have hset : (itL X[p]).set q v = (headL X[p]).set q v ++ 10 :: (bl X[p].text ++ [10]) := by
    rw [hit, List.set_append_left _ _ (by omega)]
  have hcq : (headL X[p])[q]? = some c0 := by
    rw [hit, List.getElem?_append_left (by omega)] at hc
    exact hc
  rw [List.take_length] at h1 h2
  have e : dmgT X p ((itL X[p]).set q v) X.length = [98, 97, 116, 99, 104, 32, 48, 10] ++ ((X.take p).flatMap itL ++ ((headL X[p]).set q v ++ 10 :: (bl X[p].text ++ 10 :: (X.drop (p + 1)).flatMap itL))) := by
    rw [h1, hset]
    simp [hdrL]
  rw [e, h2]
  refine salvP_damage (X.take p) (X.drop (p + 1)) X[p] ((headL X[p]).set q v) (fun y hy => hX y (List.mem_of_mem_take hy)) (fun y hy => hX y (List.mem_of_mem_drop hy)) (hX _ (List.getElem_mem _)) hpl (List.length_set) (ham_set _ _ _) ?_ ?_
  · intro h3
    have h4 := congrArg (fun z => z[q]?) h3
    change ((headL X[p]).set q v)[q]? = (headL X[p])[q]? at h4
    rw [List.getElem?_set_self (by omega), hcq] at h4
    exact hv (Option.some.inj h4)
  · intro h3
    rcases List.mem_or_eq_of_mem_set h3 with h4 | h4
    · exact head_no X[p] h4
    · exact hv10 h4.symm
theorem salvP_text (s : List UInt8) : ∀ (m a : Nat), s.length - a ≤ m → ∀ x ∈ salvP s a, x.text.size ≤ 65536 := by
  intro m
  induction m with
  | zero =>
    intro a h
    rcases hi : itemP s a with e | ⟨x, b⟩
    · rcases hn : nlAt (s.drop a) with _ | n
      · rw [salvP_none hi hn]
        intro x hx
        cases hx
      · have := nlAt_lt hn
        omega
    · have := itemP_lt hi
      omega
  | succ m ih =>
    intro a h
    rcases hi : itemP s a with e | ⟨x, b⟩
    · rcases hn : nlAt (s.drop a) with _ | n
      · rw [salvP_none hi hn]
        intro x hx
        cases hx
      · have := nlAt_lt hn
        rw [salvP_skip hi hn]
        exact ih (a + n + 1) (by omega)
    · have h1 := itemP_lt hi
      rw [salvP_ok hi]
      intro y hy
      rcases List.mem_cons.1 hy with rfl | hy
      · exact (itemP_back hi).2.2.2
      · exact ih b (by omega) y hy
theorem hexL_inj {a b : List UInt8} (h : hexL a = hexL b) : a = b := by rw [← unhex_hex a, h, unhex_hex]
theorem coll_of {x y : It} (h1 : x ≠ y) (h2 : digT x = digT y) : collB x y = true := by
  have h3 : (sha (msgL x)).take 16 = (sha (msgL y)).take 16 := hexL_inj h2
  unfold collB
  rw [decide_eq_false h1, decide_eq_true h3]
  rfl
set_option maxRecDepth 100000 in
set_option maxHeartbeats 12800000 in
theorem damage_law (A : Option Addr) (c : Nat) (l : List It) (pa pb y : UInt8) (w : World) (hs : Sl w cX A l) (hc : l.length ≤ c) (_hm : c ≤ maxLen) (hL : Laid w) : Calls Tryz.prog 5 #[.slice A l.length c, vP2 pa pb, vB y] w fun e w' => e = .returned (.bool true) ∧ Below w.heap.size w w' := by
  obtain ⟨X, hX⟩ : ∃ X, toL l = X := ⟨_, rfl⟩
  have HX := Lib.hid (show X.length ≤ 10 ∧ (∀ x ∈ X, x.text.size ≤ 400) from by
    rw [← hX]
    exact ⟨toL_len l, toL_size l⟩)
  have HXE := Lib.hid hX
  have H0 := Lib.hid (And.intro hs (And.intro hc hL))
  obtain ⟨b0, hb0⟩ : ∃ b, w.heap.size = b := ⟨_, rfl⟩
  obtain ⟨W0, hW0⟩ : ∃ W0, w.alloc (.cells #[.int .u8 (pa.toNat : Int), .int .u8 (pb.toNat : Int)] 45) = W0 := ⟨_, rfl⟩
  have HW0 := Lib.hid (show Below w.heap.size w W0 ∧ Row W0 b0 [cB pa, cB pb] 45 from by
    subst hW0 hb0
    exact ⟨below_alloc _ _, Row.new w [cB pa, cB pb] _⟩)
  obtain ⟨M, hM⟩ : ∃ M, X.length = M := ⟨_, rfl⟩
  have HM := Lib.hid hM
  have hMM : M ≤ 10 := by have := HX.out.1; omega
  clear hs hc hL hX hM
  unfold vP2 cB
  by_cases htr : M = 0 ∨ y = 0
  · by_cases hM0 : M = 0
    all_goals
      first
      | (have hm0 : ((M : Int) == 0) = true := by simp; omega)
      | (have hm0 : ((M : Int) == 0) = false := by simp; omega
         obtain rfl : y = 0 := by rcases htr with h | h
                                  · exact absurd h hM0
                                  · exact h)
      clear htr hM0
      go_enter Tryz.func5, Tryz.ntmps5
      go_wp2_with (first
        | (go_at_call 17; refine (to_b A c l _ (H0.out.1.keep HW0.out.1) H0.out.2.1).mono ?_; rintro e w1 ⟨v1, rfl, ho1, hb1⟩; rw [HXE.out] at ho1; obtain ⟨A1, d1, rfl, -, hs1⟩ := ho1.sl; rw [HM.out]; have H1 := Lib.hid (Below.step HW0.out.1 hb1); clear hb1 ho1 hs1)
        | (have hh := H1; clear hh; go_at_call 12; refine (known_c _ (H0.out.2.2.keep H1.out)).mono ?_; rintro en w2 ⟨rfl, hb2⟩; have H2 := Lib.hid (Below.step H1.out hb2); clear hb2 H1)
        | (go_at_call 12; refine (known_c _ (H0.out.2.2.keep H2.out)).mono ?_; rintro en w3 ⟨rfl, hb3⟩; have H3 := Lib.hid (Below.step H2.out hb3); clear hb3))
      go_ret
      exact ⟨rfl, H3.out⟩
  have hM0 : 0 < M := by omega
  have hy0 : y ≠ 0 := fun e => htr (.inr e)
  have hm0 : ((M : Int) == 0) = false := by simp; omega
  have hyb : ((y.toNat : Int) == 0) = false := by
    rw [beq_eq_false_iff_ne]
    intro e
    exact hy0 (UInt8.toNat_inj.1 (by show y.toNat = 0; omega))
  obtain ⟨p, hp⟩ : ∃ p, pa.toNat % M = p := ⟨_, rfl⟩
  obtain ⟨q, hq⟩ : ∃ q, pb.toNat % 100 = q := ⟨_, rfl⟩
  have hpM' : p < M := by rw [← hp]; exact Nat.mod_lt _ hM0
  have hq100 : q < 100 := by rw [← hq]; exact Nat.mod_lt _ (by decide)
  have hmod : (pa.toNat : Int) % (M : Int) = (p : Int) := by rw [← hp]; simp
  have htm : Int.tmod (pa.toNat : Int) (M : Int) = (p : Int) := by rw [Int.tmod_eq_emod_of_nonneg (by omega)]; exact hmod
  have hmz : ¬ (M : Int) = 0 := by omega
  have hmod2 : (pb.toNat : Int) % 100 = (q : Int) := by omega
  have htm2 : Int.tmod (pb.toNat : Int) 100 = (q : Int) := by rw [Int.tmod_eq_emod_of_nonneg (by omega)]; exact hmod2
  have hpl : p < X.length := by have := HM.out; omega
  obtain ⟨xp, hxp⟩ : ∃ xp, X[p] = xp := ⟨_, rfl⟩
  have h100 := headL_100 xp
  have hqi : q < (itL xp).length := by
    have := headL_len xp
    rw [itL_len]
    omega
  obtain ⟨c0, hc0⟩ : ∃ c0, (itL xp)[q]? = some c0 := ⟨_, List.getElem?_eq_getElem hqi⟩
  obtain ⟨v0, hv⟩ : ∃ v, c0 ^^^ y = v := ⟨_, rfl⟩
  obtain ⟨vn, hvn⟩ : ∃ vn : Nat, v0.toNat = vn := ⟨_, rfl⟩
  have hxo := b_xor c0 y
  rw [hv, hvn] at hxo
  have hx400 : xp.text.size ≤ 400 := HX.out.2 xp (by rw [← hxp]; exact List.getElem_mem _)
  have HP := Lib.hid (show X[p] = xp ∧ (itL xp)[q]? = some c0 ∧ v0 ≠ c0 ∧ v0.toNat = vn ∧ q < (itL xp).length ∧ xp.text.size ≤ 400 from ⟨hxp, hc0, by rw [← hv]; exact xor_ne hy0, hvn, hqi, hx400⟩)
  obtain ⟨D, hD⟩ : ∃ D, (itL xp).set q v0 = D := ⟨_, rfl⟩
  have HD := Lib.hid hD
  have HDL := Lib.hid (show D.length ≤ 700 from by
    rw [← hD, List.length_set, itL_len]
    unfold itN
    have := itoa_len 3 xp.text.size (by decide) (by omega)
    omega)
  have HPM := Lib.hid (And.intro hpM' (And.intro hq100 hpl))
  have hqn : (q : Int) ≤ 100 := by omega
  clear hp hq hxp hc0 hv hvn hqi h100 htr hy0 hx400 hD
  have ea : wrap64 (pa.toNat : Int) = (pa.toNat : Int) := by have := pa.toNat_lt; unfold wrap64; omega
  have eb : wrap64 (pb.toNat : Int) = (pb.toNat : Int) := by have := pb.toNat_lt; unfold wrap64; omega
  go_enter Tryz.func5, Tryz.ntmps5
  go_wp2_with (first
    | (go_at_call 17; refine (to_b A c l _ (H0.out.1.keep HW0.out.1) H0.out.2.1).mono ?_; rintro e w1 ⟨v1, rfl, ho1, hb1⟩; rw [HXE.out] at ho1; obtain ⟨A1, d1, rfl, -, hs1⟩ := ho1.sl; rw [HM.out]; have H1 := Lib.hid (show Below w.heap.size w w1 ∧ Sl w1 cX A1 X ∧ Row w1 b0 [cB pa, cB pb] 45 from ⟨Below.step HW0.out.1 hb1, hs1, HW0.out.2.keep hb1⟩); clear hb1 ho1 hs1)
    | (go_at_call 12; refine (known_c _ (H0.out.2.2.keep H1.out.1)).mono ?_; rintro en w2 ⟨rfl, hb2⟩; have H2 := Lib.hid (show Below w.heap.size w w2 ∧ Sl w2 cX A1 X ∧ Row w2 b0 [cB pa, cB pb] 45 from ⟨Below.step H1.out.1 hb2, H1.out.2.1.keep hb2, H1.out.2.2.keep hb2⟩); have z1 : ∀ m, (w2.drewN m).cell? ⟨b0, 0, none⟩ = some (.int .u8 (pa.toNat : Int)) := (fun m => (H2.out.2.2.drewN m).cell 0); have z2 : ∀ m, (w2.drewN m).cell? ⟨b0, 1, none⟩ = some (.int .u8 (pb.toNat : Int)) := (fun m => (H2.out.2.2.drewN m).cell 1); clear hb2 H1))
  go_quiet (fail)
  obtain ⟨w3, hw3⟩ : ∃ w3, w2.drewN nq = w3 := ⟨_, rfl⟩
  have H3 := Lib.hid (show Below w.heap.size w w3 ∧ Sl w3 cX A1 X from by
    rw [← hw3]
    exact ⟨Below.step H2.out.1 (below_drewN w2 nq), H2.out.2.1.keep (below_drewN w2 nq)⟩)
  rw [hw3]
  clear hw3 z1 z2 ea eb htm htm2 hmod hmod2
  go_wp2
  obtain ⟨ad, rfl, -⟩ := H3.out.2 (by intro e; have h := HM.out; rw [e] at h; simp at h; omega)
  go_loopw [10, 11, 12] (fun sv v iv wr => ∃ i : Nat, i ≤ M ∧ iv = .int .i64 (i : Int) ∧ sv = .string (mkS (dmgT X p D i)) ∧ Own wr w3.heap.size 39 33 cX v (wantL X p i) ∧ Below w3.heap.size w3 wr ∧ (p < i → ¬ NamE xp.text ∧ v0 ≠ 10)) (fun _ _ iv _ => M - (intOf iv).toNat)
  case atStart => exact ⟨0, Nat.zero_le _, rfl, rfl, Own.nil _ _ _ _ _, Below.refl _ _, fun h => by omega⟩
  case round =>
    obtain ⟨i, hi, rfl, rfl, ho, hb, hpi⟩ := hrel
    have HO := Lib.hid (And.intro ho (And.intro hb hpi))
    have HWR := Lib.hid (Below.step H3.out.1 hb)
    obtain ⟨s0, hs0⟩ : ∃ s0, mkS (dmgT X p D i) = s0 := ⟨_, rfl⟩
    have hdl := dmg_len X p D HDL.out HX.out.2 i (by have := HM.out; omega)
    have HSL := Lib.hid (show s0.size ≤ 8 + 700 * i ∧ (wantL X p i).length ≤ 10 from ⟨by rw [← hs0, ← bl_length, bl_mkS]; exact hdl.1, by omega⟩)
    have HS0 := Lib.hid hs0
    rw [hs0]
    have hn1 : (M : Int) ≤ 10 := by omega
    clear ho hb hpi hs0 hdl
    by_cases hlt : i < M
    · have hii : (i : Int) < (M : Int) := by omega
      have hil : i < X.length := by have := HM.out; omega
      obtain ⟨x, hx⟩ : ∃ x, X[i] = x := ⟨_, rfl⟩
      obtain ⟨ad2, had, hat⟩ := Sl.at_ cX_length (H3.out.2.keep HO.out.2.1) hil
      obtain rfl : ad = ad2 := Option.some.inj had
      rw [hx] at hat
      obtain ⟨-, -, hcl⟩ := at_idX hat
      obtain ⟨hok, hrd⟩ := at_X hat
      have hx4 : x.text.size ≤ 400 := HX.out.2 x (by rw [← hx]; exact List.getElem_mem _)
      have HAT := Lib.hid hat
      have HXX := Lib.hid (And.intro hx hx4)
      clear hat had hx hx4
      by_cases hnam : NamE x.text
      · have HNB := Lib.hid (namB_yes hnam)
        clear hnam
        go_wp2_with (go_at_call 18; refine (named_b x.text (by have := HXX.out.2; omega) _).mono ?_; rintro e w4 ⟨rfl, hw4⟩; obtain rfl := hw4.symm; rw [HNB.out])
        go_ret
        exact ⟨rfl, HWR.out⟩
      · have HNB := Lib.hid (namB_no hnam)
        have HNA := Lib.hid hnam
        obtain ⟨n5, hn5⟩ : ∃ n5, (itS1 x).size = n5 := ⟨_, rfl⟩
        have HN5 := Lib.hid (show (itS1 x).size = n5 ∧ (itL x).length = n5 ∧ n5 ≤ 700 from by
          have h1 : (itL x).length = n5 := by rw [← hn5, ← bl_length]; rfl
          refine ⟨hn5, h1, ?_⟩
          rw [← h1, itL_len]
          have := HXX.out.2
          unfold itN
          have := itoa_len 3 x.text.size (by decide) (by omega)
          omega)
        clear hnam hn5
        by_cases hip : i = p
        · have hipb : ((i : Int) == (p : Int)) = true := by simp; omega
          have HIP := Lib.hid hip
          have HXP := Lib.hid (show x = xp from by rw [← HXX.out.1, ← HP.out.1]; congr 1)
          have hqn5 : (q : Int) < (n5 : Int) := by
            have h1 := HN5.out.2.1
            rw [HXP.out] at h1
            have := HP.out.2.2.2.2.1
            omega
          have HNX := Lib.hid (show dmgT X p D (i + 1) = dmgT X p D i ++ D ∧ wantL X p (i + 1) = wantL X p i from by
            rw [dmgT, wantL, if_pos hip, if_pos hip]
            exact ⟨rfl, rfl⟩)
          obtain ⟨s1, hs1⟩ : ∃ s1, mkS (dmgT X p D (i + 1)) = s1 := ⟨_, rfl⟩
          have hadd : s0 ++ mkS D = s1 := by rw [← HS0.out, mkS_app, ← hs1, HNX.out.1]
          have hdz : ¬ 9223372036854775807 < s0.size + (mkS D).size := by
            have h1 := HSL.out.1
            have h2 := HDL.out
            have h3 : (mkS D).size = D.length := by rw [← bl_length, bl_mkS]
            omega
          have HS1 := Lib.hid hs1
          clear hip hs1
          obtain ⟨PD, hPD⟩ : ∃ PD, mkS D = PD := ⟨_, rfl⟩
          rw [hPD] at hadd hdz
          have HPD := Lib.hid hPD
          clear hPD
          by_cases hv10 : vn = 10
          · have hvb : ((vn : Int) == 10) = true := by simp; omega
            clear hv10
            go_wp2_with (first
              | (go_at_call 18; refine (named_b x.text (by have := HXX.out.2; omega) _).mono ?_; rintro e w4 ⟨rfl, hw4⟩; obtain rfl := hw4.symm; rw [HNB.out])
              | (go_at_call 19; refine (ritem_b x _ (by have := HXX.out.2; omega)).mono ?_; rintro e w5 ⟨rfl, hb5⟩; obtain ⟨c6, w6, hcv, hb6, hr6, -, -⟩ := conv_brow w5 (itS1 x); rw [HN5.out.1] at hcv; have k1 : w6.cell? ⟨w5.heap.size, q, none⟩ = some (.int .u8 (c0.toNat : Int)) := (hr6.cell q c0 (by rw [show bl (itS1 x) = itL x from rfl, HXP.out]; exact HP.out.2.1)); have H6 := Lib.hid (Below.step (Below.step HWR.out hb5) hb6); clear hb5 hb6 hr6))
            go_ret
            exact ⟨rfl, H6.out⟩
          · have hvb : ((vn : Int) == 10) = false := by simp; omega
            have HV1 := Lib.hid (show v0 ≠ 10 from fun e => hv10 (by rw [← HP.out.2.2.2.1, e]; rfl))
            clear hv10
            go_wp2_with (first
              | (go_at_call 18; refine (named_b x.text (by have := HXX.out.2; omega) _).mono ?_; rintro e w4 ⟨rfl, hw4⟩; obtain rfl := hw4.symm; rw [HNB.out])
              | (go_at_call 19; refine (ritem_b x _ (by have := HXX.out.2; omega)).mono ?_; rintro e w5 ⟨rfl, hb5⟩; obtain ⟨c6, w6, hcv, hb6, hr6, -, -⟩ := conv_brow w5 (itS1 x); rw [HN5.out.1] at hcv; obtain ⟨g, hg⟩ : ∃ g, w5.heap.size = g := ⟨_, rfl⟩; rw [hg] at hcv hr6; have k1 : w6.cell? ⟨g, q, none⟩ = some (.int .u8 (c0.toNat : Int)) := (hr6.cell q c0 (by rw [show bl (itS1 x) = itL x from rfl, HXP.out]; exact HP.out.2.1)); have k2 := hr6.fz q (by rw [show bl (itS1 x) = itL x from rfl, HXP.out]; exact HP.out.2.2.2.2.1); obtain ⟨W7, hW7⟩ : ∃ W7, w6.setCell ⟨g, q, none⟩ (.int .u8 (vn : Int)) = W7 := ⟨_, rfl⟩; have hr7 : BRow W7 g D := (by rw [← hW7, ← HP.out.2.2.2.1, ← HD.out]; have := hr6.set q v0 (by rw [show bl (itS1 x) = itL x from rfl, HXP.out]; exact HP.out.2.2.2.2.1); rwa [show bl (itS1 x) = itL x from rfl, HXP.out] at this); have hone : One g w6 W7 := (by rw [← hW7]; exact One.set q _); have hbw6 : Below w3.heap.size w3 w6 := Below.step (Below.step HO.out.2.1 hb5) hb6; have hgw : w3.heap.size ≤ g := (by rw [← hg]; exact (Below.step HO.out.2.1 hb5).size); have hcv2 : (convert 47 9 (.slice (some ⟨g, 0, none⟩) n5 c6)).run Tryz.prog W7 = .ok (.string PD) W7 := (by have := conv_any (n := n5) (c := c6) hr7.sl (by rw [← HD.out, List.length_set, ← HXP.out]; exact HN5.out.2.1); rw [this, ← HPD.out]; rfl); have H7 := Lib.hid (show Below w3.heap.size w3 W7 ∧ Own W7 w3.heap.size 39 33 cX u11 (wantL X p (i + 1)) from ⟨hbw6.trans (hone.below hgw hbw6.size), by rw [HNX.out.2]; exact ((HO.out.1.keep hb5).keep hb6).oneN hone (fun k hk => by have := ((HO.out.1.keep hb5).lt k hk).2; omega)⟩); clear hb5 hb6 hr6 hr7 hone hbw6 hgw))
            go_roundw
            case rel => exact ⟨i + 1, hlt, by go_num, by rw [HS1.out], H7.out.2, H7.out.1, fun _ => ⟨by rw [← HXP.out]; exact HNA.out, HV1.out⟩⟩
            case measure => simp [intOf]; omega
        · have hipb : ((i : Int) == (p : Int)) = false := by simp; omega
          have HIP := Lib.hid hip
          have HNX := Lib.hid (show dmgT X p D (i + 1) = dmgT X p D i ++ itL x ∧ wantL X p (i + 1) = wantL X p i ++ [x] from by
            rw [dmgT, wantL, if_neg hip, if_neg hip, getD_at hil, HXX.out.1]
            exact ⟨rfl, rfl⟩)
          obtain ⟨s1, hs1⟩ : ∃ s1, mkS (dmgT X p D (i + 1)) = s1 := ⟨_, rfl⟩
          have hadd : s0 ++ mkS (itL x) = s1 := by rw [← HS0.out, mkS_app, ← hs1, HNX.out.1]
          have hdz : ¬ 9223372036854775807 < s0.size + (mkS (itL x)).size := by
            have h1 := HSL.out.1
            have h2 := HN5.out
            have h3 : (mkS (itL x)).size = (itL x).length := by rw [← bl_length, bl_mkS]
            omega
          have HS1 := Lib.hid hs1
          clear hip hs1
          obtain ⟨PD, hPD⟩ : ∃ PD, mkS (itL x) = PD := ⟨_, rfl⟩
          rw [hPD] at hadd hdz
          have HPD := Lib.hid hPD
          clear hPD
          go_wp2_with (first
            | (go_at_call 18; refine (named_b x.text (by have := HXX.out.2; omega) _).mono ?_; rintro e w4 ⟨rfl, hw4⟩; obtain rfl := hw4.symm; rw [HNB.out])
            | (go_at_call 19; refine (ritem_b x _ (by have := HXX.out.2; omega)).mono ?_; rintro e w5 ⟨rfl, hb5⟩; obtain ⟨c6, w6, hcv, hb6, hr6, -, -⟩ := conv_brow w5 (itS1 x); rw [HN5.out.1] at hcv; obtain ⟨g, hg⟩ : ∃ g, w5.heap.size = g := ⟨_, rfl⟩; rw [hg] at hcv hr6; have hat6 := (HAT.out.keep hb5).keep hb6; obtain ⟨hok6, hrd6⟩ := at_X hat6; have H6 := Lib.hid (show Below w3.heap.size w3 w6 ∧ BRow w6 g (itL x) ∧ Own w6 w3.heap.size 39 33 cX u11 (wantL X p i) ∧ (∀ k, u11.ownBlock = some k → k ≠ g) from ⟨Below.step (Below.step HO.out.2.1 hb5) hb6, hr6, (HO.out.1.keep hb5).keep hb6, fun k hk => by have := ((HO.out.1.keep hb5).lt k hk).2; omega⟩); clear hb5 hb6 hr6 hat6)
            | (at_builtin; refine wpList_append_sl _ rfl (.tmp 77) (.tmp 82) 26 rfl w3.heap.size 39 33 48 cX underFs rowXF (by decide) cX_length cX_one u11 (wantL X p i) rfl (H6.out.2.2.1.keep (below_alloc _ _)) (some ⟨w6.heap.size, 0, none⟩) 1 1 [x] rfl rfl (sl_newF w6 x) (by have := HSL.out.2; omega) (by have := HSL.out.2; omega) (by have := H6.out.1.size; simp; omega) ?_))
          intro v7 w7 ho7 hg7
          have hbA := below_alloc w6 (.cells (aX x) 39)
          have hb7 := Own.grew (H6.out.2.2.1.keep hbA) hg7 (Below.step H6.out.1 hbA) (Nat.le_refl _) (Below.step H6.out.1 hbA).size
          have hr7 : BRow w7 g (itL x) := (H6.out.2.1.keep hbA).same (hg7.block g (Nat.lt_of_lt_of_le H6.out.2.1.lt hbA.size) (fun e => H6.out.2.2.2 g e.symm rfl))
          have hcv2 : (convert 47 9 (.slice (some ⟨g, 0, none⟩) n5 c6)).run Tryz.prog w7 = .ok (.string PD) w7 := by
            have := conv_any (n := n5) (c := c6) hr7.sl HN5.out.2.1
            rw [this, ← HPD.out]
            rfl
          have H7 := Lib.hid (show Below w3.heap.size w3 w7 ∧ Own w7 w3.heap.size 39 33 cX v7 (wantL X p (i + 1)) from ⟨hb7, by rw [HNX.out.2]; exact ho7⟩)
          clear ho7 hg7 hbA hb7 hr7
          go_wp2
          go_roundw
          case rel => exact ⟨i + 1, hlt, by go_num, by rw [HS1.out], H7.out.2, H7.out.1, fun h => HO.out.2.2 (by have := HIP.out; omega)⟩
          case measure => simp [intOf]; omega
    · obtain rfl : i = M := by omega
      obtain ⟨o, ho⟩ : ∃ o, salvP (bl s0) 0 = o := ⟨_, rfl⟩
      obtain ⟨W, hW⟩ : ∃ W, wantL X p i = W := ⟨_, rfl⟩
      have hall : o = W ∨ ∃ y, y ∈ o ∧ xp ≠ y ∧ digT xp = digT y := by
        have hpi := HO.out.2.2 HPM.out.1
        have h := dmg_all (X := X) (p := p) (q := q) (v := v0) (c0 := c0) HPM.out.2.2 HPM.out.2.1 (by rw [HP.out.1]; exact HP.out.2.1) HP.out.2.2.1 hpi.2 (fun x hx => by have := HX.out.2 x hx; omega) (by rw [HP.out.1]; exact nam_plain hpi.1)
        rw [HP.out.1, HD.out, HM.out, hW] at h
        rw [show dmgT X p D i = bl s0 from by rw [← HS0.out, bl_mkS], ho] at h
        exact h
      have HOE := Lib.hid ho
      have HSZ := Lib.hid (show s0.size ≤ 1073741824 by have := HSL.out.1; omega)
      have hol : o.length ≤ 10000 := by
        have h1 := salvP_len (bl s0) _ 0 (Nat.le_refl _)
        rw [bl_length, ho] at h1
        have := HSL.out.1
        omega
      have HOT := Lib.hid (show ∀ x ∈ o, x.text.size ≤ 65536 from by rw [← ho]; exact salvP_text (bl s0) _ 0 (Nat.le_refl _))
      obtain ⟨R, hR⟩ : ∃ R, o.length = R := ⟨_, rfl⟩
      have HR := Lib.hid (show o.length = R ∧ o.length ≤ 1073741824 from ⟨hR, by omega⟩)
      have hRi : (R : Int) ≤ 10000 := by omega
      rw [hW] at HO HSL
      obtain ⟨A11, c11, rfl, -, hs11⟩ := HO.out.1.sl
      have HS11 := Lib.hid hs11
      clear ho hW hol hR hs11 hlt
      by_cases hoW : o = W
      · subst hoW
        clear hall
        rw [HR.out.1]
        go_wp2_with (go_at_call 16; refine (rsalv_b s0 _ HSZ.out).mono ?_; rintro e w8 ⟨A14, c14, rfl, -, hs14, hb14⟩; rw [HOE.out] at hs14 ⊢; rw [HR.out.1]; have H8 := Lib.hid (show Below w.heap.size w w8 ∧ Sl w8 cX A14 o ∧ Sl w8 cX A11 o from ⟨Below.step HWR.out hb14, hs14, HS11.out.keep hb14⟩); clear hb14 hs14)
        go_loopw [15, 16] (fun ev iv wr => ∃ k : Nat, k ≤ R ∧ iv = .int .i64 (k : Int) ∧ ev = .bool true ∧ Below w8.heap.size w8 wr) (fun _ iv _ => R - (intOf iv).toNat)
        case atStart => exact ⟨0, Nat.zero_le _, rfl, rfl, Below.refl _ _⟩
        case round =>
          obtain ⟨k, hk, rfl, rfl, hb⟩ := hrel
          have HB := Lib.hid hb
          by_cases hkR : k < R
          · have hki : (k : Int) < (R : Int) := by omega
            have hko : k < o.length := by have := HR.out.1; omega
            obtain ⟨a1, rfl, hat⟩ := Sl.at_ cX_length (H8.out.2.1.keep hb) hko
            obtain ⟨a2, rfl, hbt⟩ := Sl.at_ cX_length (H8.out.2.2.keep hb) hko
            obtain ⟨z, hz⟩ : ∃ z, o[k] = z := ⟨_, rfl⟩
            rw [hz] at hat hbt
            have q1 : ∀ j, okA (wr.drewN j) (a1.add (k * 33)) 33 = true := fun j => (at_X (hat.keep (below_drewN wr j))).1
            have q2 : ∀ j, rdA (wr.drewN j) (a1.add (k * 33)) 33 = vX z := fun j => (at_X (hat.keep (below_drewN wr j))).2
            have q3 : ∀ j, okA (wr.drewN j) (a2.add (k * 33)) 33 = true := fun j => (at_X (hbt.keep (below_drewN wr j))).1
            have q4 : ∀ j, rdA (wr.drewN j) (a2.add (k * 33)) 33 = vX z := fun j => (at_X (hbt.keep (below_drewN wr j))).2
            have hd : decide (z = z) = true := decide_eq_true rfl
            clear hb hat hbt hz hko
            go_wp2_with fail
            go_quiet (fail)
            have H9 := Lib.hid (Below.step HB.out (below_drewN wr nq))
            go_wp2
            go_roundw
            case rel => exact ⟨k + 1, hkR, by go_num, rfl, H9.out⟩
            case measure => simp [intOf]; omega
          · obtain rfl : k = R := by omega
            clear hb hkR
            go_wp2_with (first
              | (go_at_call 15; refine (salvage_s s0 _ (H0.out.2.2.keep (Below.step H8.out.1 HB.out)) HSZ.out).mono ?_; rintro e w10 ⟨A10, c10, rfl, -, hs10, hb10⟩; rw [HOE.out] at hs10 ⊢; rw [HR.out.1]; have H10 := Lib.hid (show Below w8.heap.size w8 w10 ∧ Sl w10 cX A10 o from ⟨Below.step HB.out hb10, hs10⟩); clear hb10 hs10)
              | (go_at_call 13; have hsm := same_b A10 A11 c10 c11 o o _ H10.out.2 (H8.out.2.2.keep H10.out.1) HR.out.2 HR.out.2; rw [HR.out.1] at hsm; refine hsm.mono ?_; rintro e w11 ⟨rfl, hb11⟩; rw [decide_eq_true rfl]; have H11 := Lib.hid (Below.step H8.out.1 (Below.step H10.out.1 hb11)); clear hb11 hsm))
            go_ret
            exact ⟨rfl, H11.out⟩
      · have hcol : ∃ (i0 : Nat) (y0 : It), o[i0]? = some y0 ∧ collB xp y0 = true := by
          rcases hall with h | ⟨y0, h1, h2, h3⟩
          · exact absurd h hoW
          · obtain ⟨i0, h4⟩ := List.getElem?_of_mem h1
            exact ⟨i0, y0, h4, coll_of h2 h3⟩
        obtain ⟨i0, y0, hi0, hc0⟩ := hcol
        have HC := Lib.hid (And.intro hi0 hc0)
        have HONE := Lib.hid (show o ≠ [] from by rintro rfl; simp at hi0)
        obtain ⟨N, hN⟩ : ∃ N, W.length = N := ⟨_, rfl⟩
        have HN := Lib.hid hN
        have hN10 : (N : Int) ≤ 10 := by have := HSL.out.2; omega
        rw [hN]
        have HNE := Lib.hid hoW
        clear hall hoW hi0 hc0 hN
        by_cases hlen : R = N
        · have hlb : ((R : Int) == (N : Int)) = true := by simp; omega
          have HLEN := Lib.hid hlen
          clear hlen
          go_wp2_with (go_at_call 16; refine (rsalv_b s0 _ HSZ.out).mono ?_; rintro e w7 ⟨A14, c14, rfl, -, hs14, hb14⟩; rw [HOE.out] at hs14 ⊢; rw [HR.out.1]; have H8 := Lib.hid (show Below w.heap.size w w7 ∧ Sl w7 cX A14 o ∧ Sl w7 cX A11 W ∧ Below w3.heap.size w3 w7 from ⟨Below.step HWR.out hb14, hs14, HS11.out.keep hb14, Below.step HO.out.2.1 hb14⟩); clear hb14 hs14)
          go_loopw [15, 16] (fun ev iv wr => ∃ k : Nat, k ≤ R ∧ iv = .int .i64 (k : Int) ∧ ev = .bool (decide (o.take k = W.take k)) ∧ Below w7.heap.size w7 wr) (fun _ iv _ => R - (intOf iv).toNat)
          case atStart => exact ⟨0, Nat.zero_le _, rfl, rfl, Below.refl _ _⟩
          case round =>
            obtain ⟨k, hk, rfl, rfl, hb⟩ := hrel
            have HB := Lib.hid hb
            by_cases hkR : k < R
            · have hki : (k : Int) < (R : Int) := by omega
              have hkN : (k : Int) < (N : Int) := by have := HLEN.out; omega
              have hko : k < o.length := by have := HR.out.1; omega
              have hkw : k < W.length := by have := HN.out; have := HLEN.out; omega
              obtain ⟨a1, rfl, hat⟩ := Sl.at_ cX_length (H8.out.2.1.keep hb) hko
              obtain ⟨a2, rfl, hbt⟩ := Sl.at_ cX_length (H8.out.2.2.1.keep hb) hkw
              obtain ⟨z, hz⟩ : ∃ z, o[k] = z := ⟨_, rfl⟩
              obtain ⟨z2, hz2⟩ : ∃ z, W[k] = z := ⟨_, rfl⟩
              rw [hz] at hat
              rw [hz2] at hbt
              have q1 : ∀ j, okA (wr.drewN j) (a1.add (k * 33)) 33 = true := fun j => (at_X (hat.keep (below_drewN wr j))).1
              have q2 : ∀ j, rdA (wr.drewN j) (a1.add (k * 33)) 33 = vX z := fun j => (at_X (hat.keep (below_drewN wr j))).2
              have q3 : ∀ j, okA (wr.drewN j) (a2.add (k * 33)) 33 = true := fun j => (at_X (hbt.keep (below_drewN wr j))).1
              have q4 : ∀ j, rdA (wr.drewN j) (a2.add (k * 33)) 33 = vX z2 := fun j => (at_X (hbt.keep (below_drewN wr j))).2
              have HTK := Lib.hid (show o.take (k + 1) = W.take (k + 1) ↔ o.take k = W.take k ∧ z = z2 from by
                rw [List.take_succ_eq_append_getElem hko, List.take_succ_eq_append_getElem hkw, hz, hz2]
                constructor
                · intro h
                  have h2 := List.append_inj h (by rw [List.length_take, List.length_take]; omega)
                  exact ⟨h2.1, by simpa using h2.2⟩
                · rintro ⟨h1, h2⟩
                  rw [h1, h2])
              clear hb hat hbt hz hz2 hko hkw
              by_cases he : o.take k = W.take k
              · have hd : decide (o.take k = W.take k) = true := decide_eq_true he
                obtain ⟨e2, he2⟩ : ∃ e2, decide (z = z2) = e2 := ⟨_, rfl⟩
                have HD2 := Lib.hid (show decide (o.take (k + 1) = W.take (k + 1)) = e2 from by
                  rw [← he2, decide_eq_decide, HTK.out]
                  exact ⟨fun h => h.2, fun h => ⟨he, h⟩⟩)
                rw [hd]
                clear he hd
                go_wp2_with fail
                go_quiet (fail)
                have H9 := Lib.hid (Below.step HB.out (below_drewN wr nq))
                go_wp2
                go_roundw
                case rel => exact ⟨k + 1, hkR, by go_num, by rw [HD2.out], H9.out⟩
                case measure => simp [intOf]; omega
              · have hd : decide (o.take k = W.take k) = false := decide_eq_false he
                have HD2 := Lib.hid (show decide (o.take (k + 1) = W.take (k + 1)) = false from decide_eq_false (fun h => he (HTK.out.1 h).1))
                rw [hd]
                clear he hd
                go_wp2_with fail
                go_quiet (fail)
                have H9 := Lib.hid (Below.step HB.out (below_drewN wr nq))
                go_wp2
                go_roundw
                case rel => exact ⟨k + 1, hkR, by go_num, by rw [HD2.out], H9.out⟩
                case measure => simp [intOf]; omega
            · obtain rfl : R = k := by omega
              have hd : decide (o.take R = W.take R) = false := decide_eq_false (fun h => HNE.out (by
                rwa [List.take_of_length_le (by rw [HR.out.1]; exact Nat.le_refl _), List.take_of_length_le (by rw [HN.out, ← HLEN.out]; exact Nat.le_refl _)] at h))
              rw [hd]
              have HW8' := Below.step H8.out.1 hb
              have HS8' := And.intro (H3.out.2.keep (Below.step H8.out.2.2.2 hb)) (H8.out.2.1.keep hb)
              obtain ⟨w8, hw8⟩ : ∃ w8, w8 = wr := ⟨_, rfl⟩
              subst hw8
              have HW8 := Lib.hid HW8'
              have HS8 := Lib.hid HS8'
              clear hb hkR hd HW8' HS8' HB
              go_wp2
              obtain ⟨od, rfl, -⟩ := HS8.out.2 HONE.out
              go_loopw [17] (fun iv wr => ∃ k : Nat, k ≤ i0 ∧ iv = .int .i64 (k : Int) ∧ Below w8.heap.size w8 wr) (fun iv _ => i0 - (intOf iv).toNat)
              case atStart => exact ⟨0, Nat.zero_le _, rfl, Below.refl _ _⟩
              case round =>
                obtain ⟨k, hk, rfl, hb⟩ := hrel
                have HBB := Lib.hid hb
                have h1 := (List.getElem?_eq_some_iff.1 HC.out.1).1
                have hko : k < o.length := by omega
                have hkR : (k : Int) < (R : Int) := by have := HR.out.1; omega
                have hpM : (p : Int) < (i : Int) := by have := HPM.out.1; omega
                have hn1 : (i : Int) ≤ 10 ∧ (R : Int) ≤ 1073741824 := by have := HR.out; omega
                obtain ⟨ad2, had, hat⟩ := Sl.at_ cX_length (HS8.out.1.keep hb) HPM.out.2.2
                obtain rfl : ad = ad2 := Option.some.inj had
                obtain ⟨od2, hod, hbt⟩ := Sl.at_ cX_length (HS8.out.2.keep hb) hko
                obtain rfl : od = od2 := Option.some.inj hod
                obtain ⟨z, hz⟩ : ∃ z, o[k] = z := ⟨_, rfl⟩
                rw [HP.out.1] at hat
                rw [hz] at hbt
                have HAX := Lib.hid hat
                have HAZ := Lib.hid hbt
                have HXS := Lib.hid (show xp.text.size ≤ 1000000 ∧ z.text.size ≤ 1000000 from ⟨by have := HP.out.2.2.2.2.2; omega, by have := HOT.out z (by rw [← hz]; exact List.getElem_mem _); omega⟩)
                have hHI : (collB xp z = true) ∨ k < i0 := by
                  by_cases e : k = i0
                  · left
                    subst e
                    have e1 := HC.out.1
                    rw [List.getElem?_eq_getElem hko, hz] at e1
                    rw [Option.some.inj e1]
                    exact HC.out.2
                  · right
                    omega
                have HHI := Lib.hid hHI
                clear hb hat hbt hz hHI h1 hko had hod
                cases hcb : collB xp z with
                | true =>
                  have HCB := Lib.hid hcb
                  clear hcb
                  go_wp2_with fail
                  refine AnyO.wp_any_tail 8 (by kernel_rfl) (by kernel_rfl) (by kernel_rfl) (by kernel_rfl) (by kernel_rfl) (by kernel_rfl) (pstP [isV (.slice (some ad) i d1), isV (.int .i64 (p : Int)), isV (.pointer (some (ad.add (p * 33)))), isV (vX xp), isV (.slice (some od) R c14), isV (.int .i64 (k : Int)), isV (.pointer (some (od.add (k * 33)))), isV (vX z)]) (MonoL.cons (Mono.v _) (MonoL.cons (Mono.v _) (MonoL.cons (Mono.v _) (MonoL.cons (Mono.v _) (MonoL.cons (Mono.v _) (MonoL.cons (Mono.v _) (MonoL.cons (Mono.v _) (MonoL.cons (Mono.v _) MonoL.nil)))))))) ?_ ?_
                  · intro i hi
                    have hi2 : i = 0 ∨ i = 1 ∨ i = 2 ∨ i = 3 ∨ i = 4 ∨ i = 5 ∨ i = 6 ∨ i = 7 := by omega
                    clear hi
                    rcases hi2 with rfl | rfl | rfl | rfl | rfl | rfl | rfl | rfl
                    · -- 0: Op.move (Operand.tmp 7)
                      refine AnyO.Step.mk rfl [] (by kernel_rfl) ?_
                      intro vs u hE hp ac hb K hK
                      have s7 : ac.tmps[7]?.getD undef = .slice (some ad) i d1 := by rw [hb]; kernel_rfl
                      rw [if_pos (AnyO.wanted_none rfl)]
                      clear hb hp
                      go_simp
                      exact hK _ _ (Below.refl _ _) rfl
                    · -- 1: Op.move (Operand.tmp 8)
                      refine AnyO.Step.mk rfl [] (by kernel_rfl) ?_
                      intro vs u hE hp ac hb K hK
                      have s8 : ac.tmps[8]?.getD undef = .int .i64 (p : Int) := by rw [hb]; kernel_rfl
                      rw [if_pos (AnyO.wanted_none rfl)]
                      clear hb hp
                      go_simp
                      exact hK _ _ (Below.refl _ _) rfl
                    · -- 2: Op.indexAddr 26 (Operand.tmp 124) (Operand.tmp 125)
                      refine AnyO.Step.mk rfl [0, 1] (by kernel_rfl) ?_
                      intro vs u hE hp ac hb K hK
                      have s124 : ac.tmps[124]?.getD undef = .slice (some ad) i d1 := by rw [hb]; exact (show _ = vs 0 by kernel_rfl).trans (hp 0 (by decide))
                      have s125 : ac.tmps[125]?.getD undef = .int .i64 (p : Int) := by rw [hb]; exact (show _ = vs 1 by kernel_rfl).trans (hp 1 (by decide))
                      rw [if_pos (AnyO.wanted_none rfl)]
                      clear hb hp
                      have r1 := hpM
                      have r2 := hn1
                      go_simp
                      exact hK _ _ (Below.refl _ _) rfl
                    · -- 3: Op.load 39 (Operand.tmp 126)
                      refine AnyO.Step.mk rfl [2] (by kernel_rfl) ?_
                      intro vs u hE hp ac hb K hK
                      have s126 : ac.tmps[126]?.getD undef = .pointer (some (ad.add (p * 33))) := by rw [hb]; exact (show _ = vs 2 by kernel_rfl).trans (hp 2 (by decide))
                      rw [if_pos (AnyO.wanted_none rfl)]
                      clear hb hp
                      obtain ⟨r1, r2⟩ := at_X (HAX.out.keep (Below.step (below_drew wr) hE))
                      go_simp
                      exact hK _ _ (Below.refl _ _) rfl
                    · -- 4: Op.move (Operand.tmp 14)
                      refine AnyO.Step.mk rfl [] (by kernel_rfl) ?_
                      intro vs u hE hp ac hb K hK
                      have s14 : ac.tmps[14]?.getD undef = .slice (some od) R c14 := by rw [hb]; kernel_rfl
                      rw [if_pos (AnyO.wanted_none rfl)]
                      clear hb hp
                      go_simp
                      exact hK _ _ (Below.refl _ _) rfl
                    · -- 5: Op.move (Operand.tmp 17)
                      refine AnyO.Step.mk rfl [] (by kernel_rfl) ?_
                      intro vs u hE hp ac hb K hK
                      have s17 : ac.tmps[17]?.getD undef = .int .i64 (k : Int) := by rw [hb]; kernel_rfl
                      rw [if_pos (AnyO.wanted_none rfl)]
                      clear hb hp
                      go_simp
                      exact hK _ _ (Below.refl _ _) rfl
                    · -- 6: Op.indexAddr 26 (Operand.tmp 128) (Operand.tmp 129)
                      refine AnyO.Step.mk rfl [4, 5] (by kernel_rfl) ?_
                      intro vs u hE hp ac hb K hK
                      have s128 : ac.tmps[128]?.getD undef = .slice (some od) R c14 := by rw [hb]; exact (show _ = vs 4 by kernel_rfl).trans (hp 4 (by decide))
                      have s129 : ac.tmps[129]?.getD undef = .int .i64 (k : Int) := by rw [hb]; exact (show _ = vs 5 by kernel_rfl).trans (hp 5 (by decide))
                      rw [if_pos (AnyO.wanted_none rfl)]
                      clear hb hp
                      have r1 := hkR
                      have r2 := hn1
                      go_simp
                      exact hK _ _ (Below.refl _ _) rfl
                    · -- 7: Op.load 39 (Operand.tmp 130)
                      refine AnyO.Step.mk rfl [6] (by kernel_rfl) ?_
                      intro vs u hE hp ac hb K hK
                      have s130 : ac.tmps[130]?.getD undef = .pointer (some (od.add (k * 33))) := by rw [hb]; exact (show _ = vs 6 by kernel_rfl).trans (hp 6 (by decide))
                      rw [if_pos (AnyO.wanted_none rfl)]
                      clear hb hp
                      obtain ⟨r1, r2⟩ := at_X (HAZ.out.keep (Below.step (below_drew wr) hE))
                      go_simp
                      exact hK _ _ (Below.refl _ _) rfl
                  · intro vs u hE hp
                    have e0 : vs 0 = .slice (some ad) i d1 := hp 0 (by decide)
                    have e1 : vs 1 = .int .i64 (p : Int) := hp 1 (by decide)
                    have e2 : vs 2 = .pointer (some (ad.add (p * 33))) := hp 2 (by decide)
                    have e3 : vs 3 = vX xp := hp 3 (by decide)
                    have e4 : vs 4 = .slice (some od) R c14 := hp 4 (by decide)
                    have e5 : vs 5 = .int .i64 (k : Int) := hp 5 (by decide)
                    have e6 : vs 6 = .pointer (some (od.add (k * 33))) := hp 6 (by decide)
                    have e7 : vs 7 = vX z := hp 7 (by decide)
                    clear hp
                    have HE := Lib.hid hE
                    clear hE
                    rw [puts_range [some 124, some 125, some 126, some 127, some 128, some 129, some 130, some 131] (by kernel_rfl)]
                    simp only [putL, Nat.reduceAdd, List.drop_succ_cons, List.drop_zero, e0, e1, e2, e3, e4, e5, e6, e7]
                    clear e0 e1 e2 e3 e4 e5 e6 e7
                    go_simp
                    go_wp2_with (first
                      | (go_at_call 20; refine (collide_b xp z u HXS.out.1 HXS.out.2).mono ?_; rintro e w9 ⟨rfl, hb9⟩; rw [HCB.out]; have H9 := Lib.hid (Below.step (Below.step HBB.out HE.out) hb9); clear hb9)
                      | (go_at_call 15; refine (salvage_s s0 _ (H0.out.2.2.keep (Below.step HW8.out H9.out)) HSZ.out).mono ?_; rintro e w10 ⟨A10, c10, rfl, -, hs10, hb10⟩; rw [HOE.out] at hs10 ⊢; rw [HR.out.1]; have H10 := Lib.hid (show Below w8.heap.size w8 w10 ∧ Sl w10 cX A10 o from ⟨Below.step H9.out hb10, hs10⟩); clear hb10 hs10)
                      | (go_at_call 13; have hsm := same_b A10 (some od) c10 c14 o o _ H10.out.2 (HS8.out.2.keep H10.out.1) HR.out.2 HR.out.2; rw [HR.out.1] at hsm; refine hsm.mono ?_; rintro e w11 ⟨rfl, hb11⟩; rw [decide_eq_true rfl]; have H11 := Lib.hid (Below.step HW8.out (Below.step H10.out.1 hb11)); clear hb11 hsm))
                    go_ret
                    exact ⟨rfl, H11.out⟩
                | false =>
                  have HLK := Lib.hid (show k < i0 from by
                    rcases HHI.out with h | h
                    · rw [hcb] at h
                      cases h
                    · exact h)
                  have HCB := Lib.hid hcb
                  clear hcb
                  go_wp2_with fail
                  refine AnyO.wp_any_tail 8 (by kernel_rfl) (by kernel_rfl) (by kernel_rfl) (by kernel_rfl) (by kernel_rfl) (by kernel_rfl) (pstP [isV (.slice (some ad) i d1), isV (.int .i64 (p : Int)), isV (.pointer (some (ad.add (p * 33)))), isV (vX xp), isV (.slice (some od) R c14), isV (.int .i64 (k : Int)), isV (.pointer (some (od.add (k * 33)))), isV (vX z)]) (MonoL.cons (Mono.v _) (MonoL.cons (Mono.v _) (MonoL.cons (Mono.v _) (MonoL.cons (Mono.v _) (MonoL.cons (Mono.v _) (MonoL.cons (Mono.v _) (MonoL.cons (Mono.v _) (MonoL.cons (Mono.v _) MonoL.nil)))))))) ?_ ?_
                  · intro i hi
                    have hi2 : i = 0 ∨ i = 1 ∨ i = 2 ∨ i = 3 ∨ i = 4 ∨ i = 5 ∨ i = 6 ∨ i = 7 := by omega
                    clear hi
                    rcases hi2 with rfl | rfl | rfl | rfl | rfl | rfl | rfl | rfl
                    · -- 0: Op.move (Operand.tmp 7)
                      refine AnyO.Step.mk rfl [] (by kernel_rfl) ?_
                      intro vs u hE hp ac hb K hK
                      have s7 : ac.tmps[7]?.getD undef = .slice (some ad) i d1 := by rw [hb]; kernel_rfl
                      rw [if_pos (AnyO.wanted_none rfl)]
                      clear hb hp
                      go_simp
                      exact hK _ _ (Below.refl _ _) rfl
                    · -- 1: Op.move (Operand.tmp 8)
                      refine AnyO.Step.mk rfl [] (by kernel_rfl) ?_
                      intro vs u hE hp ac hb K hK
                      have s8 : ac.tmps[8]?.getD undef = .int .i64 (p : Int) := by rw [hb]; kernel_rfl
                      rw [if_pos (AnyO.wanted_none rfl)]
                      clear hb hp
                      go_simp
                      exact hK _ _ (Below.refl _ _) rfl
                    · -- 2: Op.indexAddr 26 (Operand.tmp 124) (Operand.tmp 125)
                      refine AnyO.Step.mk rfl [0, 1] (by kernel_rfl) ?_
                      intro vs u hE hp ac hb K hK
                      have s124 : ac.tmps[124]?.getD undef = .slice (some ad) i d1 := by rw [hb]; exact (show _ = vs 0 by kernel_rfl).trans (hp 0 (by decide))
                      have s125 : ac.tmps[125]?.getD undef = .int .i64 (p : Int) := by rw [hb]; exact (show _ = vs 1 by kernel_rfl).trans (hp 1 (by decide))
                      rw [if_pos (AnyO.wanted_none rfl)]
                      clear hb hp
                      have r1 := hpM
                      have r2 := hn1
                      go_simp
                      exact hK _ _ (Below.refl _ _) rfl
                    · -- 3: Op.load 39 (Operand.tmp 126)
                      refine AnyO.Step.mk rfl [2] (by kernel_rfl) ?_
                      intro vs u hE hp ac hb K hK
                      have s126 : ac.tmps[126]?.getD undef = .pointer (some (ad.add (p * 33))) := by rw [hb]; exact (show _ = vs 2 by kernel_rfl).trans (hp 2 (by decide))
                      rw [if_pos (AnyO.wanted_none rfl)]
                      clear hb hp
                      obtain ⟨r1, r2⟩ := at_X (HAX.out.keep (Below.step (below_drew wr) hE))
                      go_simp
                      exact hK _ _ (Below.refl _ _) rfl
                    · -- 4: Op.move (Operand.tmp 14)
                      refine AnyO.Step.mk rfl [] (by kernel_rfl) ?_
                      intro vs u hE hp ac hb K hK
                      have s14 : ac.tmps[14]?.getD undef = .slice (some od) R c14 := by rw [hb]; kernel_rfl
                      rw [if_pos (AnyO.wanted_none rfl)]
                      clear hb hp
                      go_simp
                      exact hK _ _ (Below.refl _ _) rfl
                    · -- 5: Op.move (Operand.tmp 17)
                      refine AnyO.Step.mk rfl [] (by kernel_rfl) ?_
                      intro vs u hE hp ac hb K hK
                      have s17 : ac.tmps[17]?.getD undef = .int .i64 (k : Int) := by rw [hb]; kernel_rfl
                      rw [if_pos (AnyO.wanted_none rfl)]
                      clear hb hp
                      go_simp
                      exact hK _ _ (Below.refl _ _) rfl
                    · -- 6: Op.indexAddr 26 (Operand.tmp 128) (Operand.tmp 129)
                      refine AnyO.Step.mk rfl [4, 5] (by kernel_rfl) ?_
                      intro vs u hE hp ac hb K hK
                      have s128 : ac.tmps[128]?.getD undef = .slice (some od) R c14 := by rw [hb]; exact (show _ = vs 4 by kernel_rfl).trans (hp 4 (by decide))
                      have s129 : ac.tmps[129]?.getD undef = .int .i64 (k : Int) := by rw [hb]; exact (show _ = vs 5 by kernel_rfl).trans (hp 5 (by decide))
                      rw [if_pos (AnyO.wanted_none rfl)]
                      clear hb hp
                      have r1 := hkR
                      have r2 := hn1
                      go_simp
                      exact hK _ _ (Below.refl _ _) rfl
                    · -- 7: Op.load 39 (Operand.tmp 130)
                      refine AnyO.Step.mk rfl [6] (by kernel_rfl) ?_
                      intro vs u hE hp ac hb K hK
                      have s130 : ac.tmps[130]?.getD undef = .pointer (some (od.add (k * 33))) := by rw [hb]; exact (show _ = vs 6 by kernel_rfl).trans (hp 6 (by decide))
                      rw [if_pos (AnyO.wanted_none rfl)]
                      clear hb hp
                      obtain ⟨r1, r2⟩ := at_X (HAZ.out.keep (Below.step (below_drew wr) hE))
                      go_simp
                      exact hK _ _ (Below.refl _ _) rfl
                  · intro vs u hE hp
                    have e0 : vs 0 = .slice (some ad) i d1 := hp 0 (by decide)
                    have e1 : vs 1 = .int .i64 (p : Int) := hp 1 (by decide)
                    have e2 : vs 2 = .pointer (some (ad.add (p * 33))) := hp 2 (by decide)
                    have e3 : vs 3 = vX xp := hp 3 (by decide)
                    have e4 : vs 4 = .slice (some od) R c14 := hp 4 (by decide)
                    have e5 : vs 5 = .int .i64 (k : Int) := hp 5 (by decide)
                    have e6 : vs 6 = .pointer (some (od.add (k * 33))) := hp 6 (by decide)
                    have e7 : vs 7 = vX z := hp 7 (by decide)
                    clear hp
                    have HE := Lib.hid hE
                    clear hE
                    rw [puts_range [some 124, some 125, some 126, some 127, some 128, some 129, some 130, some 131] (by kernel_rfl)]
                    simp only [putL, Nat.reduceAdd, List.drop_succ_cons, List.drop_zero, e0, e1, e2, e3, e4, e5, e6, e7]
                    clear e0 e1 e2 e3 e4 e5 e6 e7
                    go_simp
                    go_wp2_with (go_at_call 20; refine (collide_b xp z u HXS.out.1 HXS.out.2).mono ?_; rintro e w9 ⟨rfl, hb9⟩; rw [HCB.out]; have H9 := Lib.hid (Below.step (Below.step HBB.out HE.out) hb9); clear hb9)
                    go_roundw
                    case rel => exact ⟨k + 1, HLK.out, by go_num, H9.out⟩
                    case measure => have := HLK.out; simp [intOf]; omega
        · have hlb : ((R : Int) == (N : Int)) = false := by simp; omega
          clear hlen
          go_wp2_with (go_at_call 16; refine (rsalv_b s0 _ HSZ.out).mono ?_; rintro e w8 ⟨A14, c14, rfl, -, hs14, hb14⟩; rw [HOE.out] at hs14 ⊢; rw [HR.out.1]; have HW8 := Lib.hid (Below.step HWR.out hb14); have HS8 := Lib.hid (show Sl w8 cX (some ad) X ∧ Sl w8 cX A14 o from ⟨H3.out.2.keep (Below.step HO.out.2.1 hb14), hs14⟩); clear hb14 hs14)
          obtain ⟨od, rfl, -⟩ := HS8.out.2 HONE.out
          go_loopw [17] (fun iv wr => ∃ k : Nat, k ≤ i0 ∧ iv = .int .i64 (k : Int) ∧ Below w8.heap.size w8 wr) (fun iv _ => i0 - (intOf iv).toNat)
          case atStart => exact ⟨0, Nat.zero_le _, rfl, Below.refl _ _⟩
          case round =>
            obtain ⟨k, hk, rfl, hb⟩ := hrel
            have HBB := Lib.hid hb
            have h1 := (List.getElem?_eq_some_iff.1 HC.out.1).1
            have hko : k < o.length := by omega
            have hkR : (k : Int) < (R : Int) := by have := HR.out.1; omega
            have hpM : (p : Int) < (i : Int) := by have := HPM.out.1; omega
            have hn1 : (i : Int) ≤ 10 ∧ (R : Int) ≤ 1073741824 := by have := HR.out; omega
            obtain ⟨ad2, had, hat⟩ := Sl.at_ cX_length (HS8.out.1.keep hb) HPM.out.2.2
            obtain rfl : ad = ad2 := Option.some.inj had
            obtain ⟨od2, hod, hbt⟩ := Sl.at_ cX_length (HS8.out.2.keep hb) hko
            obtain rfl : od = od2 := Option.some.inj hod
            obtain ⟨z, hz⟩ : ∃ z, o[k] = z := ⟨_, rfl⟩
            rw [HP.out.1] at hat
            rw [hz] at hbt
            have HAX := Lib.hid hat
            have HAZ := Lib.hid hbt
            have HXS := Lib.hid (show xp.text.size ≤ 1000000 ∧ z.text.size ≤ 1000000 from ⟨by have := HP.out.2.2.2.2.2; omega, by have := HOT.out z (by rw [← hz]; exact List.getElem_mem _); omega⟩)
            have hHI : (collB xp z = true) ∨ k < i0 := by
              by_cases e : k = i0
              · left
                subst e
                have e1 := HC.out.1
                rw [List.getElem?_eq_getElem hko, hz] at e1
                rw [Option.some.inj e1]
                exact HC.out.2
              · right
                omega
            have HHI := Lib.hid hHI
            clear hb hat hbt hz hHI h1 hko had hod
            cases hcb : collB xp z with
            | true =>
              have HCB := Lib.hid hcb
              clear hcb
              go_wp2_with fail
              refine AnyO.wp_any_tail 8 (by kernel_rfl) (by kernel_rfl) (by kernel_rfl) (by kernel_rfl) (by kernel_rfl) (by kernel_rfl) (pstP [isV (.slice (some ad) i d1), isV (.int .i64 (p : Int)), isV (.pointer (some (ad.add (p * 33)))), isV (vX xp), isV (.slice (some od) R c14), isV (.int .i64 (k : Int)), isV (.pointer (some (od.add (k * 33)))), isV (vX z)]) (MonoL.cons (Mono.v _) (MonoL.cons (Mono.v _) (MonoL.cons (Mono.v _) (MonoL.cons (Mono.v _) (MonoL.cons (Mono.v _) (MonoL.cons (Mono.v _) (MonoL.cons (Mono.v _) (MonoL.cons (Mono.v _) MonoL.nil)))))))) ?_ ?_
              · intro i hi
                have hi2 : i = 0 ∨ i = 1 ∨ i = 2 ∨ i = 3 ∨ i = 4 ∨ i = 5 ∨ i = 6 ∨ i = 7 := by omega
                clear hi
                rcases hi2 with rfl | rfl | rfl | rfl | rfl | rfl | rfl | rfl
                · -- 0: Op.move (Operand.tmp 7)
                  refine AnyO.Step.mk rfl [] (by kernel_rfl) ?_
                  intro vs u hE hp ac hb K hK
                  have s7 : ac.tmps[7]?.getD undef = .slice (some ad) i d1 := by rw [hb]; kernel_rfl
                  rw [if_pos (AnyO.wanted_none rfl)]
                  clear hb hp
                  go_simp
                  exact hK _ _ (Below.refl _ _) rfl
                · -- 1: Op.move (Operand.tmp 8)
                  refine AnyO.Step.mk rfl [] (by kernel_rfl) ?_
                  intro vs u hE hp ac hb K hK
                  have s8 : ac.tmps[8]?.getD undef = .int .i64 (p : Int) := by rw [hb]; kernel_rfl
                  rw [if_pos (AnyO.wanted_none rfl)]
                  clear hb hp
                  go_simp
                  exact hK _ _ (Below.refl _ _) rfl
                · -- 2: Op.indexAddr 26 (Operand.tmp 124) (Operand.tmp 125)
                  refine AnyO.Step.mk rfl [0, 1] (by kernel_rfl) ?_
                  intro vs u hE hp ac hb K hK
                  have s124 : ac.tmps[124]?.getD undef = .slice (some ad) i d1 := by rw [hb]; exact (show _ = vs 0 by kernel_rfl).trans (hp 0 (by decide))
                  have s125 : ac.tmps[125]?.getD undef = .int .i64 (p : Int) := by rw [hb]; exact (show _ = vs 1 by kernel_rfl).trans (hp 1 (by decide))
                  rw [if_pos (AnyO.wanted_none rfl)]
                  clear hb hp
                  have r1 := hpM
                  have r2 := hn1
                  go_simp
                  exact hK _ _ (Below.refl _ _) rfl
                · -- 3: Op.load 39 (Operand.tmp 126)
                  refine AnyO.Step.mk rfl [2] (by kernel_rfl) ?_
                  intro vs u hE hp ac hb K hK
                  have s126 : ac.tmps[126]?.getD undef = .pointer (some (ad.add (p * 33))) := by rw [hb]; exact (show _ = vs 2 by kernel_rfl).trans (hp 2 (by decide))
                  rw [if_pos (AnyO.wanted_none rfl)]
                  clear hb hp
                  obtain ⟨r1, r2⟩ := at_X (HAX.out.keep (Below.step (below_drew wr) hE))
                  go_simp
                  exact hK _ _ (Below.refl _ _) rfl
                · -- 4: Op.move (Operand.tmp 14)
                  refine AnyO.Step.mk rfl [] (by kernel_rfl) ?_
                  intro vs u hE hp ac hb K hK
                  have s14 : ac.tmps[14]?.getD undef = .slice (some od) R c14 := by rw [hb]; kernel_rfl
                  rw [if_pos (AnyO.wanted_none rfl)]
                  clear hb hp
                  go_simp
                  exact hK _ _ (Below.refl _ _) rfl
                · -- 5: Op.move (Operand.tmp 17)
                  refine AnyO.Step.mk rfl [] (by kernel_rfl) ?_
                  intro vs u hE hp ac hb K hK
                  have s17 : ac.tmps[17]?.getD undef = .int .i64 (k : Int) := by rw [hb]; kernel_rfl
                  rw [if_pos (AnyO.wanted_none rfl)]
                  clear hb hp
                  go_simp
                  exact hK _ _ (Below.refl _ _) rfl
                · -- 6: Op.indexAddr 26 (Operand.tmp 128) (Operand.tmp 129)
                  refine AnyO.Step.mk rfl [4, 5] (by kernel_rfl) ?_
                  intro vs u hE hp ac hb K hK
                  have s128 : ac.tmps[128]?.getD undef = .slice (some od) R c14 := by rw [hb]; exact (show _ = vs 4 by kernel_rfl).trans (hp 4 (by decide))
                  have s129 : ac.tmps[129]?.getD undef = .int .i64 (k : Int) := by rw [hb]; exact (show _ = vs 5 by kernel_rfl).trans (hp 5 (by decide))
                  rw [if_pos (AnyO.wanted_none rfl)]
                  clear hb hp
                  have r1 := hkR
                  have r2 := hn1
                  go_simp
                  exact hK _ _ (Below.refl _ _) rfl
                · -- 7: Op.load 39 (Operand.tmp 130)
                  refine AnyO.Step.mk rfl [6] (by kernel_rfl) ?_
                  intro vs u hE hp ac hb K hK
                  have s130 : ac.tmps[130]?.getD undef = .pointer (some (od.add (k * 33))) := by rw [hb]; exact (show _ = vs 6 by kernel_rfl).trans (hp 6 (by decide))
                  rw [if_pos (AnyO.wanted_none rfl)]
                  clear hb hp
                  obtain ⟨r1, r2⟩ := at_X (HAZ.out.keep (Below.step (below_drew wr) hE))
                  go_simp
                  exact hK _ _ (Below.refl _ _) rfl
              · intro vs u hE hp
                have e0 : vs 0 = .slice (some ad) i d1 := hp 0 (by decide)
                have e1 : vs 1 = .int .i64 (p : Int) := hp 1 (by decide)
                have e2 : vs 2 = .pointer (some (ad.add (p * 33))) := hp 2 (by decide)
                have e3 : vs 3 = vX xp := hp 3 (by decide)
                have e4 : vs 4 = .slice (some od) R c14 := hp 4 (by decide)
                have e5 : vs 5 = .int .i64 (k : Int) := hp 5 (by decide)
                have e6 : vs 6 = .pointer (some (od.add (k * 33))) := hp 6 (by decide)
                have e7 : vs 7 = vX z := hp 7 (by decide)
                clear hp
                have HE := Lib.hid hE
                clear hE
                rw [puts_range [some 124, some 125, some 126, some 127, some 128, some 129, some 130, some 131] (by kernel_rfl)]
                simp only [putL, Nat.reduceAdd, List.drop_succ_cons, List.drop_zero, e0, e1, e2, e3, e4, e5, e6, e7]
                clear e0 e1 e2 e3 e4 e5 e6 e7
                go_simp
                go_wp2_with (first
                  | (go_at_call 20; refine (collide_b xp z u HXS.out.1 HXS.out.2).mono ?_; rintro e w9 ⟨rfl, hb9⟩; rw [HCB.out]; have H9 := Lib.hid (Below.step (Below.step HBB.out HE.out) hb9); clear hb9)
                  | (go_at_call 15; refine (salvage_s s0 _ (H0.out.2.2.keep (Below.step HW8.out H9.out)) HSZ.out).mono ?_; rintro e w10 ⟨A10, c10, rfl, -, hs10, hb10⟩; rw [HOE.out] at hs10 ⊢; rw [HR.out.1]; have H10 := Lib.hid (show Below w8.heap.size w8 w10 ∧ Sl w10 cX A10 o from ⟨Below.step H9.out hb10, hs10⟩); clear hb10 hs10)
                  | (go_at_call 13; have hsm := same_b A10 (some od) c10 c14 o o _ H10.out.2 (HS8.out.2.keep H10.out.1) HR.out.2 HR.out.2; rw [HR.out.1] at hsm; refine hsm.mono ?_; rintro e w11 ⟨rfl, hb11⟩; rw [decide_eq_true rfl]; have H11 := Lib.hid (Below.step HW8.out (Below.step H10.out.1 hb11)); clear hb11 hsm))
                go_ret
                exact ⟨rfl, H11.out⟩
            | false =>
              have HLK := Lib.hid (show k < i0 from by
                rcases HHI.out with h | h
                · rw [hcb] at h
                  cases h
                · exact h)
              have HCB := Lib.hid hcb
              clear hcb
              go_wp2_with fail
              refine AnyO.wp_any_tail 8 (by kernel_rfl) (by kernel_rfl) (by kernel_rfl) (by kernel_rfl) (by kernel_rfl) (by kernel_rfl) (pstP [isV (.slice (some ad) i d1), isV (.int .i64 (p : Int)), isV (.pointer (some (ad.add (p * 33)))), isV (vX xp), isV (.slice (some od) R c14), isV (.int .i64 (k : Int)), isV (.pointer (some (od.add (k * 33)))), isV (vX z)]) (MonoL.cons (Mono.v _) (MonoL.cons (Mono.v _) (MonoL.cons (Mono.v _) (MonoL.cons (Mono.v _) (MonoL.cons (Mono.v _) (MonoL.cons (Mono.v _) (MonoL.cons (Mono.v _) (MonoL.cons (Mono.v _) MonoL.nil)))))))) ?_ ?_
              · intro i hi
                have hi2 : i = 0 ∨ i = 1 ∨ i = 2 ∨ i = 3 ∨ i = 4 ∨ i = 5 ∨ i = 6 ∨ i = 7 := by omega
                clear hi
                rcases hi2 with rfl | rfl | rfl | rfl | rfl | rfl | rfl | rfl
                · -- 0: Op.move (Operand.tmp 7)
                  refine AnyO.Step.mk rfl [] (by kernel_rfl) ?_
                  intro vs u hE hp ac hb K hK
                  have s7 : ac.tmps[7]?.getD undef = .slice (some ad) i d1 := by rw [hb]; kernel_rfl
                  rw [if_pos (AnyO.wanted_none rfl)]
                  clear hb hp
                  go_simp
                  exact hK _ _ (Below.refl _ _) rfl
                · -- 1: Op.move (Operand.tmp 8)
                  refine AnyO.Step.mk rfl [] (by kernel_rfl) ?_
                  intro vs u hE hp ac hb K hK
                  have s8 : ac.tmps[8]?.getD undef = .int .i64 (p : Int) := by rw [hb]; kernel_rfl
                  rw [if_pos (AnyO.wanted_none rfl)]
                  clear hb hp
                  go_simp
                  exact hK _ _ (Below.refl _ _) rfl
                · -- 2: Op.indexAddr 26 (Operand.tmp 124) (Operand.tmp 125)
                  refine AnyO.Step.mk rfl [0, 1] (by kernel_rfl) ?_
                  intro vs u hE hp ac hb K hK
                  have s124 : ac.tmps[124]?.getD undef = .slice (some ad) i d1 := by rw [hb]; exact (show _ = vs 0 by kernel_rfl).trans (hp 0 (by decide))
                  have s125 : ac.tmps[125]?.getD undef = .int .i64 (p : Int) := by rw [hb]; exact (show _ = vs 1 by kernel_rfl).trans (hp 1 (by decide))
                  rw [if_pos (AnyO.wanted_none rfl)]
                  clear hb hp
                  have r1 := hpM
                  have r2 := hn1
                  go_simp
                  exact hK _ _ (Below.refl _ _) rfl
                · -- 3: Op.load 39 (Operand.tmp 126)
                  refine AnyO.Step.mk rfl [2] (by kernel_rfl) ?_
                  intro vs u hE hp ac hb K hK
                  have s126 : ac.tmps[126]?.getD undef = .pointer (some (ad.add (p * 33))) := by rw [hb]; exact (show _ = vs 2 by kernel_rfl).trans (hp 2 (by decide))
                  rw [if_pos (AnyO.wanted_none rfl)]
                  clear hb hp
                  obtain ⟨r1, r2⟩ := at_X (HAX.out.keep (Below.step (below_drew wr) hE))
                  go_simp
                  exact hK _ _ (Below.refl _ _) rfl
                · -- 4: Op.move (Operand.tmp 14)
                  refine AnyO.Step.mk rfl [] (by kernel_rfl) ?_
                  intro vs u hE hp ac hb K hK
                  have s14 : ac.tmps[14]?.getD undef = .slice (some od) R c14 := by rw [hb]; kernel_rfl
                  rw [if_pos (AnyO.wanted_none rfl)]
                  clear hb hp
                  go_simp
                  exact hK _ _ (Below.refl _ _) rfl
                · -- 5: Op.move (Operand.tmp 17)
                  refine AnyO.Step.mk rfl [] (by kernel_rfl) ?_
                  intro vs u hE hp ac hb K hK
                  have s17 : ac.tmps[17]?.getD undef = .int .i64 (k : Int) := by rw [hb]; kernel_rfl
                  rw [if_pos (AnyO.wanted_none rfl)]
                  clear hb hp
                  go_simp
                  exact hK _ _ (Below.refl _ _) rfl
                · -- 6: Op.indexAddr 26 (Operand.tmp 128) (Operand.tmp 129)
                  refine AnyO.Step.mk rfl [4, 5] (by kernel_rfl) ?_
                  intro vs u hE hp ac hb K hK
                  have s128 : ac.tmps[128]?.getD undef = .slice (some od) R c14 := by rw [hb]; exact (show _ = vs 4 by kernel_rfl).trans (hp 4 (by decide))
                  have s129 : ac.tmps[129]?.getD undef = .int .i64 (k : Int) := by rw [hb]; exact (show _ = vs 5 by kernel_rfl).trans (hp 5 (by decide))
                  rw [if_pos (AnyO.wanted_none rfl)]
                  clear hb hp
                  have r1 := hkR
                  have r2 := hn1
                  go_simp
                  exact hK _ _ (Below.refl _ _) rfl
                · -- 7: Op.load 39 (Operand.tmp 130)
                  refine AnyO.Step.mk rfl [6] (by kernel_rfl) ?_
                  intro vs u hE hp ac hb K hK
                  have s130 : ac.tmps[130]?.getD undef = .pointer (some (od.add (k * 33))) := by rw [hb]; exact (show _ = vs 6 by kernel_rfl).trans (hp 6 (by decide))
                  rw [if_pos (AnyO.wanted_none rfl)]
                  clear hb hp
                  obtain ⟨r1, r2⟩ := at_X (HAZ.out.keep (Below.step (below_drew wr) hE))
                  go_simp
                  exact hK _ _ (Below.refl _ _) rfl
              · intro vs u hE hp
                have e0 : vs 0 = .slice (some ad) i d1 := hp 0 (by decide)
                have e1 : vs 1 = .int .i64 (p : Int) := hp 1 (by decide)
                have e2 : vs 2 = .pointer (some (ad.add (p * 33))) := hp 2 (by decide)
                have e3 : vs 3 = vX xp := hp 3 (by decide)
                have e4 : vs 4 = .slice (some od) R c14 := hp 4 (by decide)
                have e5 : vs 5 = .int .i64 (k : Int) := hp 5 (by decide)
                have e6 : vs 6 = .pointer (some (od.add (k * 33))) := hp 6 (by decide)
                have e7 : vs 7 = vX z := hp 7 (by decide)
                clear hp
                have HE := Lib.hid hE
                clear hE
                rw [puts_range [some 124, some 125, some 126, some 127, some 128, some 129, some 130, some 131] (by kernel_rfl)]
                simp only [putL, Nat.reduceAdd, List.drop_succ_cons, List.drop_zero, e0, e1, e2, e3, e4, e5, e6, e7]
                clear e0 e1 e2 e3 e4 e5 e6 e7
                go_simp
                go_wp2_with (go_at_call 20; refine (collide_b xp z u HXS.out.1 HXS.out.2).mono ?_; rintro e w9 ⟨rfl, hb9⟩; rw [HCB.out]; have H9 := Lib.hid (Below.step (Below.step HBB.out HE.out) hb9); clear hb9)
                go_roundw
                case rel => exact ⟨k + 1, HLK.out, by go_num, H9.out⟩
                case measure => have := HLK.out; simp [intOf]; omega
end Go.Proofs.YtecalodcbkljoaaGreatDoor
