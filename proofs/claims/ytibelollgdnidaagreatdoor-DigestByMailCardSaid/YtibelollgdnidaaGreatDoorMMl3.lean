/- mail: a message's check, an address's text, clone, Equal. -/
import Derived.Test.YtibelollgdnidaaGreatDoorMMl1
namespace Go.Proofs.YtibelollgdnidaaGreatDoor
open Go.RowKit
theorem HpS.un {w : World} {A : Option Addr} {n c : Nat} {hs : List (List UInt8)} (h : HpS w (.slice A n c) hs) : n = hs.length ∧ n ≤ c ∧ ∀ (k : Nat) (x : List UInt8), hs[k]? = some x → ∃ g, A = some ⟨g, 0, none⟩ ∧ ∀ (j : Nat) y, hs[j]? = some y → w.cell? ⟨g, 0 + j, none⟩ = some (.string (tx y)) := by
 rcases h with ⟨rfl, A', c', h⟩ | ⟨h0, g, c', h, h1, h2, h3⟩
 ·injection h with e1 e2 e3
  subst e1 e2 e3
  exact ⟨rfl, Nat.zero_le _, fun k x hk => by simp at hk⟩
 ·injection h with e1 e2 e3
  subst e1 e2 e3
  exact ⟨rfl, h1, fun k x hk => ⟨g, rfl, h3⟩⟩
structure HpOk (hs : List (List UInt8)) : Prop where
 nd : hs.Nodup
 len : hs.length ≤ 16
 site : ∀ x ∈ hs, siteB x = true ∧ x.length ≤ 30
theorem boatsOk : (∀ i (h : i < (⟨#[66, 111, 97, 116, 115]⟩ : ByteArray).size), visB ((⟨#[66, 111, 97, 116, 115]⟩ : ByteArray)[i]) = true) ∧ (⟨#[66, 111, 97, 116, 115]⟩ : ByteArray).size = 5 ∧ sqz ⟨#[66, 111, 97, 116, 115]⟩ = ⟨#[66, 111, 97, 116, 115]⟩ ∧ (⟨#[66, 111, 97, 116, 115]⟩ : ByteArray).size ≤ 1000000 := by
 refine ⟨fun i h => ?_, rfl, by decide +kernel, by decide +kernel⟩
 have : (wBo.all visB) = true := by decide +kernel
 exact List.all_eq_true.1 this _ (List.getElem_mem (l := wBo) h)
theorem nodup_take {hs : List (List UInt8)} (h : hs.Nodup) (k : Nat) (hk : k < hs.length) : decide (hs[k] ∈ hs.take k) = false := by
 rw [decide_eq_false_iff_not]
 intro hm
 obtain ⟨j, hj, e⟩ := List.getElem_of_mem hm
 rw [List.getElem_take] at e
 have hj2 : j < k := by rw [List.length_take] at hj; omega
 have := (List.getElem_inj h).1 e
 omega
set_option maxRecDepth 100000 in
set_option maxHeartbeats 1600000 in
theorem check22 (A : Option Addr) (n c : Nat) (B : ByteArray) (hs : List (List UInt8)) (w : World) (h : HpS w (.slice A n c) hs) (ho : HpOk hs) (hB : B.size ≤ 32768) : Calls Tryz.prog 22 #[.agg (aMs A n c B)] w fun e w' => e = .returned (.int .i64 0) ∧ Below w.heap.size w w' := by
 obtain ⟨sb, hsb⟩ : ∃ sb : ByteArray, (⟨#[66, 111, 97, 116, 115]⟩ : ByteArray) = sb := ⟨_, rfl⟩
 have hS := boatsOk
 have hrow := Row.new w (aMs A n c B).toList 47
 have q6 : (w.alloc (.cells (aMs A n c B) 47)).cell? ⟨w.heap.size, 6, none⟩ = some (.string ⟨#[66, 111, 97, 116, 115]⟩) := hrow.cell 6
 have q7 : (w.alloc (.cells (aMs A n c B) 47)).cell? ⟨w.heap.size, 7, none⟩ = some (.slice A n c) := hrow.cell 7
 have q8 : (w.alloc (.cells (aMs A n c B) 47)).cell? ⟨w.heap.size, 8, none⟩ = some (.string B) := hrow.cell 8
 have hh := (h.keep (below_alloc w (.cells (aMs A n c B) 47)))
 rw [hsb] at hS q6
 have hnl := h.un
 have hn16 : (n : Int) ≤ 16 := by have := ho.len; omega
 have hsz : (sb.size : Int) = 5 := by rw [hS.2.1]; rfl
 have hB2 : ¬ 32768 < (B.size : Int) := by omega
 have HS := Lib.hid hS
 have HO := Lib.hid (And.intro ho hnl)
 have Q := Lib.hid (And.intro (And.intro q6 q7) (And.intro q8 (And.intro hh (below_alloc w (.cells (aMs A n c B) 47)))))
 clear hS hrow q6 q7 q8 hh h ho hB hnl hsb
 unfold aMs at Q
 rw [show (Value.agg (aMs A n c B)) = .agg #[.string ⟨#[100, 105, 103, 101, 115, 116]⟩, .string ⟨#[97]⟩, .string ⟨#[114, 101, 97, 100, 101, 114]⟩, .string ⟨#[98]⟩, .int .i64 0, .int .i64 100, .string ⟨#[66, 111, 97, 116, 115]⟩, .slice A n c, .string B] from rfl]
 go_enter Tryz.func22, Tryz.ntmps22
 go_wp2_with (go_at_call 53; refine (checkEnvelope53 A n c B _).mono ?_; rintro e w1 ⟨rfl, hb1⟩; have c6 := cell_below Q.out.1.1 hb1; have c7 := cell_below Q.out.1.2 hb1; have c8 := cell_below Q.out.2.1 hb1; have S1 := Lib.hid (And.intro c6 (And.intro c7 (And.intro c8 (And.intro (Q.out.2.2.1.keep hb1) (Below.step Q.out.2.2.2 hb1))))); clear hb1 Q)
 go_loopw [4, 5, 22] (fun _ _ i wr => ∃ k : Nat, k ≤ sb.size ∧ i = .int .i64 (k : Int) ∧ wr = w1) (fun _ _ i _ => sb.size - (intOf i).toNat)
 case atStart => exact ⟨0, Nat.zero_le _, rfl, rfl⟩
 case round =>
  obtain ⟨k, hk, rfl, hwr⟩ := hrel
  obtain rfl := hwr.symm
  have hk5 : k ≤ 5 := by omega
  by_cases hlt : k < sb.size
  ·have hki : (k : Int) < 5 := by omega
   have hb := HS.out.1 k hlt
   go_wp2_with (go_at_call 54; refine (isVisible_b sb[k] _).mono ?_; rintro e w2 ⟨rfl, rfl⟩; rw [hb])
   go_roundw
   case rel => exact ⟨k + 1, hlt, by go_num, by first | rfl | trivial⟩
   case measure => simp [intOf]; omega
  ·obtain rfl : k = sb.size := by omega
   go_wp2
   refine AnyO.wp_anyI (by kernel_rfl) (by kernel_rfl) (AnyO.InvG (σ := Unit) (fun σ => AnyO.pvL [some (.pointer (some ⟨w.heap.size, 6, none⟩)), some (.string sb), some (.string sb), some (.pointer (some ⟨w.heap.size, 6, none⟩)), some (.string sb), some (.bool false)]) (fun _ _ u => Below w1.heap.size w1 u)) (AnyO.InvG.start (g := ()) (below_drew w1)) ?_ ?_
   ·intro i hi
    have hi2 : i = 2 ∨ i = 0 ∨ i = 1 ∨ i = 3 ∨ i = 4 ∨ i = 5 := by simp only [List.size_toArray, List.length_cons, List.length_nil] at hi; omega
    clear hi
    rcases hi2 with rfl | rfl | rfl | rfl | rfl | rfl
    ·refine AnyO.I rfl [1] ?_; rintro D vs u σ Q h0 hC hp ac hb K hK
     have s38 : _ = _ := AnyO.sv 38 1 hb hp Q
     go_simp
     go_at_call 55
     refine (squeeze22 sb u HS.out.2.2.2).mono ?_
     rintro e w2 ⟨rfl, hb2⟩
     rw [HS.out.2.2.1]
     exact hK _ _ (AnyO.InvG.step (g := σ) Q.out.1 rfl (Below.step Q.out.2 hb2))
    all_goals
     refine AnyO.J rfl ?_; rintro D vs u σ Q h0 hC hp ac hb K hK
     try have s1 : ac.tmps[1]?.getD undef = .pointer (some ⟨w.heap.size, 0, none⟩) := by rw [hb.out]; kernel_rfl
     try have s37 : _ = _ := AnyO.sv 37 0 hb hp Q
     try have s40 : _ = _ := AnyO.sv 40 3 hb hp Q
     try have s39 : _ = _ := AnyO.sv 39 2 hb hp Q
     try have s41 : _ = _ := AnyO.sv 41 4 hb hp Q
     have rr1_0 : u.cell? ⟨w.heap.size, 6, none⟩ = some (.string sb) := cell_below S1.out.1 Q.out.2
     have rr1_1 : (sb.toList == sb.toList) = true := beq_self_eq_true _
     go_simp
     exact hK _ _ (AnyO.InvG.step (g := σ) Q.out.1 rfl Q.out.2)
   ·intro D vs u hI hD
    obtain ⟨σ, hP, hW⟩ := hI
    have e0 : _ = _ := hP 0 (hD 0 (by decide))
    have e1 : _ = _ := hP 1 (hD 1 (by decide))
    have e2 : _ = _ := hP 2 (hD 2 (by decide))
    have e3 : _ = _ := hP 3 (hD 3 (by decide))
    have e4 : _ = _ := hP 4 (hD 4 (by decide))
    have e5 : _ = _ := hP 5 (hD 5 (by decide))
    have HW := Lib.hid hW
    clear hW hP hD
    rw [puts_range [some 37, some 38, some 39, some 40, some 41, some 42] (by kernel_rfl)]
    simp only [putL, Nat.reduceAdd, e0, e1, e2, e3, e4, e5]
    clear e0 e1 e2 e3 e4 e5
    clear c6 c7 c8
    have c6 := cell_below S1.out.1 HW.out
    have c7 := cell_below S1.out.2.1 HW.out
    have c8 := cell_below S1.out.2.2.1 HW.out
    have S2 := Lib.hid (And.intro (S1.out.2.2.2.1.keep HW.out) (Below.step S1.out.2.2.2.2 HW.out))
    clear S1 HW
    go_simp
    go_wp2
    go_loopw [6, 7, 8, 9, 50] (fun _ _ _ _ i wr => ∃ k : Nat, k ≤ n ∧ i = .int .i64 (k : Int) ∧ wr = u) (fun _ _ _ _ i _ => n - (intOf i).toNat)
    case atStart => exact ⟨0, Nat.zero_le _, rfl, rfl⟩
    case round =>
     obtain ⟨k, hk, rfl, hwr⟩ := hrel
     obtain rfl := hwr.symm
     by_cases hlt : k < n
     ·have hki : (k : Int) < (n : Int) := by omega
      have hkh : k < hs.length := by rw [← HO.out.2.1]; exact hlt
      obtain ⟨g, rfl, h3⟩ := S2.out.1.un.2.2 k _ (List.getElem?_eq_getElem hkh)
      obtain ⟨x, hx⟩ : ∃ x, hs[k] = x := ⟨_, rfl⟩
      have hcl : u.cell? ⟨g, k, none⟩ = some (.string (tx x)) := by rw [← hx]; have := h3 k _ (List.getElem?_eq_getElem hkh); rwa [Nat.zero_add] at this
      have hsi := HO.out.1.site x (by rw [← hx]; exact List.getElem_mem _)
      have hnt := nodup_take HO.out.1.nd k hkh
      rw [hx] at hnt
      have hcc : (k : Int) ≤ (c : Int) := by have := HO.out.2.2.1; omega
      have HX := Lib.hid (And.intro h3 (And.intro hsi hnt))
      clear h3 hsi hnt hx
      go_wp2_with (first
       | (go_at_call 31; refine (site_yes (tx x) HX.out.2.1.1 _ (by rw [tx_size]; have := HX.out.2.1.2; omega)).mono ?_; rintro e w2 ⟨⟨a1, rfl⟩, rfl⟩)
       | (go_at_call 32; refine (contains32t g c k hs x _ (Nat.le_of_lt hkh) HX.out.1 (by have := HO.out.1.len; omega)).mono ?_; rintro e w2 ⟨rfl, rfl⟩; rw [HX.out.2.2]))
      go_roundw
      case rel => exact ⟨k + 1, hlt, by go_num, by first | rfl | trivial⟩
      case measure => simp [intOf]; omega
     ·obtain rfl : k = n := by omega
      go_wp2
      go_ret
      exact ⟨rfl, S2.out.2⟩
theorem string24 (x y : List UInt8) (h : x.length + y.length ≤ 1000) (w : World) : Calls Tryz.prog 24 #[.agg #[.string (tx x), .string (tx y)]] w fun e w' => e = .returned (.string (tx (x ++ 64 :: y))) ∧ Below w.heap.size w w' := by
 have he : tx x ++ (⟨#[64]⟩ : ByteArray) ++ tx y = tx (x ++ 64 :: y) := by
  rw [show (⟨#[64]⟩ : ByteArray) = tx [64] from rfl, tx_app, tx_app, List.append_assoc]
  rfl
 obtain ⟨p, hp⟩ : ∃ p, tx (x ++ 64 :: y) = p := ⟨_, rfl⟩
 obtain ⟨a, ha⟩ : ∃ a, tx x = a := ⟨_, rfl⟩
 obtain ⟨b, hb⟩ : ∃ b, tx y = b := ⟨_, rfl⟩
 have hza : a.size = x.length := by rw [← ha]; rfl
 have hzb : b.size = y.length := by rw [← hb]; rfl
 rw [hp, ha, hb] at he
 rw [hp, ha, hb]
 have g1 : ¬ 9223372036854775807 < a.size + 1 := by omega
 have g2 : ¬ 9223372036854775807 < a.size + 1 + b.size := by omega
 have HB := Lib.hid (below_alloc w (.cells #[.string a, .string b] 45))
 clear hp ha hb hza hzb h
 go_enter Tryz.func24, Tryz.ntmps24
 go_wp2
 go_ret
 exact ⟨by first | rfl | (rw [he]), HB.out⟩
open Go.RowKit
theorem HpS.of_own {w : World} {base : Nat} {e : TypeId} {v : Value} {hs : List (List UInt8)} (h : Own w base e 1 cS v (hs.map tx)) : HpS w v hs := by
 rcases own_str h with ⟨rfl, h0⟩ | ⟨g, c, rfl, h1, h2, h3⟩
 ·exact .inl ⟨List.map_eq_nil_iff.1 h0, _, _, rfl⟩
 ·rw [List.length_map] at h1 ⊢
  by_cases h0 : hs = []
  ·subst h0
   exact .inl ⟨rfl, _, _, rfl⟩
  ·exact .inr ⟨h0, g, c, rfl, h1, h2, fun j x hx => h3 j _ (by rw [List.getElem?_map, hx]; rfl)⟩
theorem map_cS (l : List ByteArray) : l.map Value.string = l.flatMap cS := by
 induction l with
 | nil => rfl
 | cons x l ih => rw [List.map_cons, List.flatMap_cons, ih]; rfl
theorem cloneS70 (A : Option Addr) (n c : Nat) (hs : List (List UInt8)) (w : World) (h : HpS w (.slice A n c) hs) (hl : hs.length ≤ 100) :
  Calls Tryz.prog 70 #[.slice A n c] w fun e w' => ∃ A' n' c', e = .returned (.slice A' n' c') ∧ Own w' w.heap.size 9 1 cS (.slice A' n' c') (hs.map tx) ∧ Below w.heap.size w w' := by
 rcases h with ⟨rfl, A', c', h⟩ | ⟨h0, g, c', h, h1, h2, h3⟩
 ·injection h with e1 e2 e3
  subst e1 e2 e3
  cases A with
  | none => exact (Tryz.slices_Clone_string_nil 0 c w).mono fun e w' ⟨h1, h2⟩ => ⟨none, 0, 0, h1, Own.nil _ _ _ _ _, by rw [h2]; exact Below.refl _ _⟩
  | some a =>
   refine (Tryz.slices_Clone_string_zero a c w).mono ?_
   rintro e w' ⟨v, rfl, hr, -, hb⟩
   have ho : Own w' w.heap.size 9 1 cS v (([] : List (List UInt8)).map tx) := hr
   obtain ⟨A2, c2, rfl, -, -⟩ := ho.sl
   exact ⟨A2, _, c2, rfl, ho, hb⟩
 ·injection h with e1 e2 e3
  subst e1 e2 e3
  refine (Tryz.slices_Clone_string g 0 hs.length c (hs.map tx) w (by simp) (by omega) (hop_zs h3)).mono ?_
  rintro e w' ⟨v, rfl, hr, -, hb⟩
  rw [List.take_of_length_le (by simp), map_cS] at hr
  have ho : Own w' w.heap.size 9 1 cS v (hs.map tx) := by
   unfold Own
   rw [List.length_map]
   exact hr
  obtain ⟨A2, c2, rfl, -, -⟩ := ho.sl
  exact ⟨A2, _, c2, rfl, ho, hb⟩
def st9 (W : World) (b : Nat) (v0 v1 v2 v3 v4 v5 v6 v7 v8 : Value) : World := (((((((((W.setCell ⟨b, 0, none⟩ v0).setCell ⟨b, 1, none⟩ v1).setCell ⟨b, 2, none⟩ v2).setCell ⟨b, 3, none⟩ v3).setCell ⟨b, 4, none⟩ v4).setCell ⟨b, 5, none⟩ v5).setCell ⟨b, 6, none⟩ v6).setCell ⟨b, 7, none⟩ v7).setCell ⟨b, 8, none⟩ v8)
theorem Row.st9 {W : World} {b : Nat} {v0 v1 v2 v3 v4 v5 v6 v7 v8 : Value} {t : TypeId} {cs : List Value} (h : Row W b cs t) (hl : cs.length = 9) : Row (st9 W b v0 v1 v2 v3 v4 v5 v6 v7 v8) b [v0, v1, v2, v3, v4, v5, v6, v7, v8] t := by
 obtain ⟨x0, x1, x2, x3, x4, x5, x6, x7, x8, rfl⟩ : ∃ x0 x1 x2 x3 x4 x5 x6 x7 x8, cs = [x0, x1, x2, x3, x4, x5, x6, x7, x8] := by
  match cs, hl with
  | [x0, x1, x2, x3, x4, x5, x6, x7, x8], _ => exact ⟨x0, x1, x2, x3, x4, x5, x6, x7, x8, rfl⟩
 exact ((((((((h.set 0 v0).set 1 v1).set 2 v2).set 3 v3).set 4 v4).set 5 v5).set 6 v6).set 7 v7).set 8 v8
theorem One.st9 {W : World} {b : Nat} {v0 v1 v2 v3 v4 v5 v6 v7 v8 : Value} : One b W (st9 W b v0 v1 v2 v3 v4 v5 v6 v7 v8) :=
 ((((((((One.set 0 v0).trans (One.set 1 v1)).trans (One.set 2 v2)).trans (One.set 3 v3)).trans (One.set 4 v4)).trans (One.set 5 v5)).trans (One.set 6 v6)).trans (One.set 7 v7)).trans (One.set 8 v8)
theorem ldMs {W : World} {b : Nat} {v0 v1 v2 v3 v4 v5 v6 v7 v8 : Value} (h : Row W b [v0, v1, v2, v3, v4, v5, v6, v7, v8] 47) : (loadVar 47 ⟨b, 0, none⟩).run Tryz.prog W = .ok (.agg #[v0, v1, v2, v3, v4, v5, v6, v7, v8]) W := by
 have d0 := h.cell 0
 have d1 := h.cell 1
 have d2 := h.cell 2
 have d3 := h.cell 3
 have d4 := h.cell 4
 have d5 := h.cell 5
 have d6 := h.cell 6
 have d7 := h.cell 7
 have d8 := h.cell 8
 go_simp
set_option maxRecDepth 100000 in
set_option maxHeartbeats 1600000 in
theorem clone33 (A : Option Addr) (n c : Nat) (B : ByteArray) (hs : List (List UInt8)) (w : World) (h : HpS w (.slice A n c) hs) (hl : hs.length ≤ 100) :
  Calls Tryz.prog 33 #[.agg (aMs A n c B)] w fun e w' => ∃ A' n' c', e = .returned (.agg (aMs A' n' c' B)) ∧ Own w' w.heap.size 9 1 cS (.slice A' n' c') (hs.map tx) ∧ Below w.heap.size w w' := by
 obtain ⟨u1, h1⟩ : ∃ x : ByteArray, (⟨#[100, 105, 103, 101, 115, 116]⟩ : ByteArray) = x := ⟨_, rfl⟩
 obtain ⟨s1, h2⟩ : ∃ x : ByteArray, (⟨#[97]⟩ : ByteArray) = x := ⟨_, rfl⟩
 obtain ⟨u2, h3⟩ : ∃ x : ByteArray, (⟨#[114, 101, 97, 100, 101, 114]⟩ : ByteArray) = x := ⟨_, rfl⟩
 obtain ⟨s2, h4⟩ : ∃ x : ByteArray, (⟨#[98]⟩ : ByteArray) = x := ⟨_, rfl⟩
 obtain ⟨sb, h5⟩ : ∃ x : ByteArray, (⟨#[66, 111, 97, 116, 115]⟩ : ByteArray) = x := ⟨_, rfl⟩
 unfold aMs
 rw [h1, h2, h3, h4, h5]
 clear h1 h2 h3 h4 h5
 obtain ⟨W1, hW1⟩ : ∃ W, w.alloc (.cells #[.string u1, .string s1, .string u2, .string s2, .int .i64 0, .int .i64 100, .string sb, .slice A n c, .string B] 47) = W := ⟨_, rfl⟩
 have r1 := Row.new w [.string u1, .string s1, .string u2, .string s2, .int .i64 0, .int .i64 100, .string sb, .slice A n c, .string B] 47
 have b1 := below_alloc w (.cells #[.string u1, .string s1, .string u2, .string s2, .int .i64 0, .int .i64 100, .string sb, .slice A n c, .string B] 47)
 have z1 : W1.heap.size = w.heap.size + 1 := by rw [← hW1, World.size_alloc]
 rw [show w.alloc (.cells #[.string u1, .string s1, .string u2, .string s2, .int .i64 0, .int .i64 100, .string sb, .slice A n c, .string B] 47) = W1 from hW1] at b1
 rw [show w.alloc (.cells [.string u1, .string s1, .string u2, .string s2, .int .i64 0, .int .i64 100, .string sb, .slice A n c, .string B].toArray 47) = W1 from hW1] at r1
 obtain ⟨W2, hW2⟩ : ∃ W, W1.alloc (.cells #[.string ⟨#[]⟩, .string ⟨#[]⟩, .string ⟨#[]⟩, .string ⟨#[]⟩, .int .i64 0, .int .i64 0, .string ⟨#[]⟩, .slice none 0 0, .string ⟨#[]⟩] 47) = W := ⟨_, rfl⟩
 have r2 := Row.new W1 [.string ⟨#[]⟩, .string ⟨#[]⟩, .string ⟨#[]⟩, .string ⟨#[]⟩, .int .i64 0, .int .i64 0, .string ⟨#[]⟩, .slice none 0 0, .string ⟨#[]⟩] 47
 have b2 := below_alloc W1 (.cells #[.string ⟨#[]⟩, .string ⟨#[]⟩, .string ⟨#[]⟩, .string ⟨#[]⟩, .int .i64 0, .int .i64 0, .string ⟨#[]⟩, .slice none 0 0, .string ⟨#[]⟩] 47)
 rw [show W1.alloc (.cells #[.string ⟨#[]⟩, .string ⟨#[]⟩, .string ⟨#[]⟩, .string ⟨#[]⟩, .int .i64 0, .int .i64 0, .string ⟨#[]⟩, .slice none 0 0, .string ⟨#[]⟩] 47) = W2 from hW2, z1] at b2
 rw [show W1.alloc (.cells [.string ⟨#[]⟩, .string ⟨#[]⟩, .string ⟨#[]⟩, .string ⟨#[]⟩, .int .i64 0, .int .i64 0, .string ⟨#[]⟩, .slice none 0 0, .string ⟨#[]⟩].toArray 47) = W2 from hW2, z1] at r2
 have z2 : W2.heap.size = w.heap.size + 2 := by rw [← hW2, World.size_alloc, z1]
 rw [← z1] at b2
 have c7 : W2.cell? ⟨w.heap.size, 7, none⟩ = some (.slice A n c) := (r1.keep b2).cell 7
 have S := Lib.hid (And.intro (r1.keep b2) (And.intro r2 (And.intro (Below.step b1 b2) (And.intro z2 ((h.keep b1).keep b2)))))
 clear r1 b1 r2 b2 h z2
 go_enter Tryz.func33, Tryz.ntmps33
 go_wp2_with (go_at_call 70; refine (cloneS70 A n c hs _ S.out.2.2.2.2 hl).mono ?_; rintro e w3 ⟨A2, n2, c2, rfl, ho, hb3⟩; have r3 := S.out.1.keep hb3; have r4 := S.out.2.1.keep hb3; have c7 := r3.cell 7; have g7 := r3.fz 7; have S3 := Lib.hid (And.intro r3 (And.intro r4 (And.intro (Below.step S.out.2.2.1 hb3) (And.intro S.out.2.2.2.1 ho)))); clear r3 r4 hb3 ho S hW1 hW2; obtain ⟨W4, hW4⟩ : ∃ W, w3.setCell ⟨w.heap.size, 7, none⟩ (.slice A2 n2 c2) = W := ⟨_, rfl⟩; have r5 := S3.out.1.set 7 (.slice A2 n2 c2); have r6 := S3.out.2.1.same (heap_set_other w3 w.heap.size 7 (.slice A2 n2 c2) (w.heap.size + 1) (by omega)); rw [hW4] at r5 r6; have d0 := r5.cell 0; have d1 := r5.cell 1; have d2 := r5.cell 2; have d3 := r5.cell 3; have d4 := r5.cell 4; have d5 := r5.cell 5; have d6 := r5.cell 6; have d7 := r5.cell 7; have d8 := r5.cell 8; have e0 := r6.cell 0; have f0 := r6.fz 0; have e1 := r6.cell 1; have f1 := r6.fz 1; have e2 := r6.cell 2; have f2 := r6.fz 2; have e3 := r6.cell 3; have f3 := r6.fz 3; have e4 := r6.cell 4; have f4 := r6.fz 4; have e5 := r6.cell 5; have f5 := r6.fz 5; have e6 := r6.cell 6; have f6 := r6.fz 6; have e7 := r6.cell 7; have f7 := r6.fz 7; have e8 := r6.cell 8; have f8 := r6.fz 8; have S4 := Lib.hid (And.intro r5 r6); clear r5 r6)
 have r7 := Row.st9 (v0 := .string u1) (v1 := .string s1) (v2 := .string u2) (v3 := .string s2) (v4 := .int .i64 0) (v5 := .int .i64 100) (v6 := .string sb) (v7 := .slice A2 n2 c2) (v8 := .string B) S4.out.2 rfl
 have hlt := S3.out.2.2.2.2
 refine bodyPost_ret (results_c1 (ad := ⟨w.heap.size + 1, 0, none⟩) rfl rfl (ldMs r7)) rfl ⟨A2, n2, c2, rfl, ?_, ?_⟩
 ·have h1 := S3.out.2.2.2.2
  rw [S3.out.2.2.2.1] at h1
  have h2 := h1.one (One.set (g := w.heap.size) 7 (.slice A2 n2 c2)) (by omega)
  rw [hW4] at h2
  exact (h2.one One.st9 (by omega)).mono (by omega)
 ·have h1 := S3.out.2.2.1.setCell (p := ⟨w.heap.size, 7, none⟩) (Nat.le_refl _) (.slice A2 n2 c2)
  rw [hW4] at h1
  exact h1.trans (One.st9.below (by omega) h1.size)
end Go.Proofs.YtibelollgdnidaaGreatDoor
