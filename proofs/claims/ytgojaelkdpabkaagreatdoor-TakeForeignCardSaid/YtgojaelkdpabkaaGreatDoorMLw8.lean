/- bulletinlaw34.TakeForeign: whatever the operations and the command, the law returns true. -/
import Derived.Test.YtgojaelkdpabkaaGreatDoorMClS
namespace Go.Proofs.YtgojaelkdpabkaaGreatDoor
open Go.RowKit
theorem TkAt.other {k : Nat} {s : Tk} {F F1 F2 : List Nat} {u u' : World} (h : TkAt k s F2 u) (hk : Kp F F1 u u') (hd : ∀ j ∈ F2, j < u.heap.size ∧ j ∉ F) : TkAt k s F2 u' := by
 obtain ⟨va, vk, h⟩ := h
 exact ⟨va, vk, h.same fun j hj => (hk.out j (hd j hj).1 (hd j hj).2).2⟩
theorem fmt_bad74 (b2 b3 b4 b5 b6 b7 : Bool) : (bits BinOp.andNot .i64 (orL (psL true b2 b3 b4 b5 b6 b7)) 74 != 0) = true := by
 cases b2 <;> cases b3 <;> cases b4 <;> cases b5 <;> cases b6 <;> cases b7 <;> rfl
theorem fmt_bad2 (b2 b3 b4 b5 b6 b7 : Bool) : (bits BinOp.andNot .i64 (orL (psL true b2 b3 b4 b5 b6 b7)) 2 != 0) = true := by
 cases b2 <;> cases b3 <;> cases b4 <;> cases b5 <;> cases b6 <;> cases b7 <;> rfl
set_option maxRecDepth 100000 in
set_option maxHeartbeats 12800000 in
theorem check16_fmt (c : Cm) (w : World) (hL : FormsAt w) (hv7 : c.verb = 7 ∨ c.verb = 8) (hnm : c.name.size ≠ 0) : Calls Tryz.prog 32 #[vC c] w fun e w' => e = .returned (.int .i64 3) ∧ Below w.heap.size w w' := by
 have hv1 : 1 ≤ c.verb := by omega
 have hv2 : c.verb ≤ 11 := by omega
 obtain ⟨k, hk⟩ : ∃ k : Nat, c.verb = (k : Int) := ⟨c.verb.toNat, by omega⟩
 have hk12 : k < formsL.length := by show k < 12; omega
 have hR := Row.new w (cC c) 32
 have j0 : (w.alloc (.cells (aC c) 32)).cell? ⟨w.heap.size, 0, none⟩ = some (.int .i64 (k : Int)) := by rw [← hk]; exact hR.cell 0
 obtain ⟨ad, had, hok, hrd⟩ := Sl.fm (FormsAt.keep hL (below_alloc w (.cells (aC c) 32))) hk12
 obtain rfl := Option.some.inj had
 clear had
 have hao := add_off 0 0 (k * 3)
 rw [Nat.zero_add] at hao
 rw [hao] at hok hrd
 clear hao
 obtain ⟨⟨wd, fl, most⟩, hfm⟩ : ∃ fm, formsL[k] = fm := ⟨_, rfl⟩
 have hfl : (formsL[k]).2.1 = 74 ∨ (formsL[k]).2.1 = 2 := by
  rcases hv7 with h | h
  ·obtain rfl : k = 7 := by omega
   exact Or.inl rfl
  ·obtain rfl : k = 8 := by omega
   exact Or.inr rfl
 rw [hfm] at hrd hfl
 clear hfm
 obtain ⟨bad, hbad⟩ : ∃ bad, (bits BinOp.andNot .i64 (orL (psC c)) fl != 0) = bad := ⟨_, rfl⟩
 obtain rfl : bad = true := by
  rw [← hbad]
  have he : (!c.name.toList.isEmpty) = true := by rw [isE]; simpa using hnm
  dsimp only at hfl
  unfold psC
  rw [he]
  rcases hfl with rfl | rfl
  ·exact fmt_bad74 _ _ _ _ _ _
  ·exact fmt_bad2 _ _ _ _ _ _
 have HB := Lib.hid hbad
 have hkk : (k : Int) < 12 := by omega
 have hk1 : 1 ≤ (k : Int) := by omega
 have hk2 : (k : Int) ≤ 11 := by omega
 clear hv1 hv2 hk hbad hfl hv7 hnm
 clear hL hR
 go_enter Tryz.func32, Tryz.ntmps32
 go_wp2_with (go_at_call 50; refine (isVerb35 (k : Int) _ hk1 hk2).mono ?_; rintro e w1 ⟨rfl, rfl⟩)
 have hb1 := below_alloc w (.cells (aC c) 32)
 have HW2 : Below w.heap.size w ((w.alloc (.cells (aC c) 32)).alloc (.cells (aF (wd, fl, most)) 101)) := Below.step hb1 (below_alloc _ _)
 have R1 : Row ((w.alloc (.cells (aC c) 32)).alloc (.cells (aF (wd, fl, most)) 101)) w.heap.size (cC c) 32 := (Row.new w (cC c) 32).keep (below_alloc _ _)
 have R2 : Row ((w.alloc (.cells (aC c) 32)).alloc (.cells (aF (wd, fl, most)) 101)) (w.heap.size + 1) (cF (wd, fl, most)) 101 := by
  have h := Row.new (w.alloc (.cells (aC c) 32)) (cF (wd, fl, most)) 101
  rwa [show (w.alloc (.cells (aC c) 32)).heap.size = w.heap.size + 1 by simp] at h
 clear hok hrd hb1 j0
 change Code.wp _ _ _ _ ((w.alloc (.cells (aC c) 32)).alloc (.cells (aF (wd, fl, most)) 101))
 generalize ((w.alloc (.cells (aC c) 32)).alloc (.cells (aF (wd, fl, most)) 101)) = W2 at HW2 R1 R2 ⊢
 obtain ⟨g3, hg3⟩ : ∃ g3, g3 = w.heap.size + 1 := ⟨_, rfl⟩
 rw [← hg3] at R2 ⊢
 clear hg3
 obtain ⟨b, hb0⟩ : ∃ b, b = w.heap.size := ⟨_, rfl⟩
 rw [← hb0] at R1 ⊢
 clear hb0
 have hsz := R1.lt
 have j1 := (R1.at_ (k := 0) (n := 39) (ds := cC c) (by rw [List.drop_zero, List.take_of_length_le (by rw [cC_length]; omega)])).ok
 have j1' := (R1.at_ (k := 0) (n := 39) (ds := cC c) (by rw [List.drop_zero, List.take_of_length_le (by rw [cC_length]; omega)])).rd
 rw [cC_length] at j1 j1'
 have k1 : W2.cell? ⟨g3, 1, none⟩ = some (.int .i64 fl) := R2.cell 1
 have HR := Lib.hid (And.intro R1 R2)
 clear R1 R2
 refine AnyO.wp_any (by kernel_rfl) (by kernel_rfl) (pstP [isV (vC c), isV (.int .i64 (orL (psC c))), isV (.pointer (some ⟨g3, 1, none⟩)), isV (.int .i64 fl), isV (.int .i64 (bits BinOp.andNot .i64 (orL (psC c)) fl)), isV (.bool true)]) (MonoL.cons (Mono.v _) (MonoL.cons (Mono.v _) (MonoL.cons (Mono.v _) (MonoL.cons (Mono.v _) (MonoL.cons (Mono.v _) (MonoL.cons (Mono.v _) MonoL.nil)))))) ?_ ?_
 ·intro i hi
  have hi2 : i = 1 ∨ i = 0 ∨ i = 2 ∨ i = 3 ∨ i = 4 ∨ i = 5 := by simp only [List.size_toArray, List.length_cons, List.length_nil] at hi; omega
  clear hi
  rcases hi2 with rfl | rfl | rfl | rfl | rfl | rfl
  ·refine AnyO.Step.mk rfl [0] (by kernel_rfl) ?_; intro vs u hE hp ac hb K hK
   have s16 := AnyO.slot 16 hb (by kernel_rfl) (hp 0 (by decide))
   rw [if_pos (AnyO.wanted_none rfl)]; clear hb hp
   go_simp
   go_at_call 51
   refine (present36 c u _ _ _ _ _ _ _ (psC_ok c)).mono ?_
   rintro e w2 ⟨rfl, hb2⟩
   exact hK _ _ hb2 rfl
  all_goals
   refine AnyO.Step.mk rfl _ rfl ?_; intro vs u hE hp ac hb K hK
   try have s1 : ac.tmps[1]?.getD undef = .pointer (some ⟨b, 0, none⟩) := by rw [hb]; kernel_rfl
   try have s3 : ac.tmps[3]?.getD undef = .pointer (some ⟨g3, 0, none⟩) := by rw [hb]; kernel_rfl
   try have s18 := AnyO.slot 18 hb (by kernel_rfl) (hp 2 (by decide +kernel))
   try have s17 := AnyO.slot 17 hb (by kernel_rfl) (hp 1 (by decide +kernel))
   try have s19 := AnyO.slot 19 hb (by kernel_rfl) (hp 3 (by decide +kernel))
   try have s20 := AnyO.slot 20 hb (by kernel_rfl) (hp 4 (by decide +kernel))
   rw [if_pos (AnyO.wanted_none rfl)]; clear hb hp
   have rr_0 := okA_below j1 hsz (Below.step (below_drew _) hE)
   rw [j1'] at rr_0
   obtain ⟨rr1_0, rr2_0⟩ := rr_0
   have rr_1 := cell_below k1 (Below.step (below_drew _) hE)
   have rr_2 := HB.out
   go_simp
   exact hK _ _ (Below.refl _ _) rfl
 ·intro vs u hE hp
  have e0 : _ = _ := hp 0 (by decide)
  have e1 : _ = _ := hp 1 (by decide)
  have e2 : _ = _ := hp 2 (by decide)
  have e3 : _ = _ := hp 3 (by decide)
  have e4 : _ = _ := hp 4 (by decide)
  have e5 : _ = _ := hp 5 (by decide)
  clear hp
  have HE := Lib.hid hE
  clear hE
  rw [puts_range [some 16, some 17, some 18, some 19, some 20, some 21] (by kernel_rfl)]
  simp only [putL, Nat.reduceAdd, e0, e1, e2, e3, e4, e5]
  clear e0 e1 e2 e3 e4 e5
  go_simp
  have hrow1 := HR.out.1.keep HE.out
  have hrow2 := HR.out.2.keep HE.out
  have l1 : u.cell? ⟨g3, 1, none⟩ = some (.int .i64 fl) := hrow2.cell 1
  have l5 : u.cell? ⟨b, 1, none⟩ = some (.string c.name) := hrow1.cell 1
  obtain ⟨l6, l6'⟩ := hrow1.idC
  clear k1 j1 j1'
  go_wp2
  go_ret
  exact ⟨rfl, Below.step HW2 HE.out⟩
theorem look_rcv {s : Tk} {x : Id} (h : (lookL s x).state ≠ 2) : rcvL s.act x = none := by
 unfold rcvL
 cases hp : posL s.act x with
 | none => rfl
 | some k =>
  unfold lookL at h
  rw [hp] at h
  exact if_neg h
theorem foreign_hear {s : Tk} {c : Cm} (ho : s.opn = true) (hc : chk c = 0) (hv : c.verb = 7 ∨ c.verb = 8) (hl : (lookL s c.id).state ≠ 2) : hearT s c = (s, [], [], 0) := by
 have hr := look_rcv hl
 unfold hearT
 rw [if_neg (by rw [ho]; simp), if_neg (by rw [hc]; simp), if_neg (by omega)]
 rcases hv with h | h
 ·rw [if_pos h]
  unfold dataT
  rw [hr]
 ·rw [if_neg (by omega), if_pos h]
  unfold doneT
  rw [hr]
set_option maxRecDepth 100000 in
set_option maxHeartbeats 3200000 in
theorem law8_small (A : Option Addr) (cap : Nat) (l : List Opn) (p : Cm) (w : World) (hs : Sl w cO A l) (hc : l.length ≤ cap) (hm : cap ≤ 9223372036854775807) (hL : Laid w) (h1 : smallL l = false) :
  Calls Tryz.prog 8 #[.slice A l.length cap, vC p] w fun e w' => e = .returned (.bool true) ∧ Below w.heap.size w w' := by
 obtain ⟨ob, W0, hob, hW0, hrow, hb0⟩ : ∃ ob W0, w.heap.size = ob ∧ w.alloc (.cells (aC p) 35) = W0 ∧ Row W0 ob (cC p) 35 ∧ Below w.heap.size w W0 := ⟨_, _, rfl, rfl, Row.new w (cC p) _, below_alloc _ _⟩
 have HL := Lib.hid (And.intro hL (And.intro hs (show l.length ≤ 9223372036854775807 by omega)))
 have H0 := Lib.hid (And.intro hrow hb0)
 clear hL hs hrow hb0
 have HS1 := Lib.hid h1
 clear h1
 go_enter Tryz.func8, Tryz.ntmps8
 go_wp2_with (first
  | (go_at_call 11; refine (known34 w2 (HL.out.1.keep H2.out.2)).mono ?_; rintro e w9 ⟨rfl, hb9⟩; have H9 := Lib.hid (Below.step H2.out.2 hb9); clear hb9)
  | (go_at_call 12; refine (small12 A cap l w1 (HL.out.2.1.keep H1.out.2) HL.out.2.2).mono ?_; rw [HS1.out]; rintro e w2 ⟨rfl, hb2⟩; have y38 := ((H1.out.1.keep hb2).cell 38).trans (cC_at (aC_38 p)); have H2 := Lib.hid (And.intro (H1.out.1.keep hb2) (Below.step H1.out.2 hb2)); clear hb2)
  | (go_at_call 11; refine (known34 W0 (HL.out.1.keep H0.out.2)).mono ?_; rintro e w1 ⟨rfl, hb1⟩; have H1 := Lib.hid (And.intro (H0.out.1.keep hb1) (Below.step H0.out.2 hb1)); clear hb1))
 go_ret
 exact ⟨rfl, H9.out⟩
set_option maxRecDepth 100000 in
set_option maxHeartbeats 3200000 in
theorem law8_long (A : Option Addr) (cap : Nat) (l : List Opn) (p : Cm) (w : World) (hs : Sl w cO A l) (hc : l.length ≤ cap) (hm : cap ≤ 9223372036854775807) (hL : Laid w) (h1 : smallL l = true) (h2 : 200 < p.text.size) :
  Calls Tryz.prog 8 #[.slice A l.length cap, vC p] w fun e w' => e = .returned (.bool true) ∧ Below w.heap.size w w' := by
 obtain ⟨ob, W0, hob, hW0, hrow, hb0⟩ : ∃ ob W0, w.heap.size = ob ∧ w.alloc (.cells (aC p) 35) = W0 ∧ Row W0 ob (cC p) 35 ∧ Below w.heap.size w W0 := ⟨_, _, rfl, rfl, Row.new w (cC p) _, below_alloc _ _⟩
 have HL := Lib.hid (And.intro hL (And.intro hs (show l.length ≤ 9223372036854775807 by omega)))
 have H0 := Lib.hid (And.intro hrow hb0)
 clear hL hs hrow hb0
 have HS1 := Lib.hid h1
 have h3 : (200 : Int) < (p.text.size : Int) := by omega
 clear h1
 go_enter Tryz.func8, Tryz.ntmps8
 go_wp2_with (first
  | (go_at_call 11; refine (known34 w2 (HL.out.1.keep H2.out.2)).mono ?_; rintro e w9 ⟨rfl, hb9⟩; have H9 := Lib.hid (Below.step H2.out.2 hb9); clear hb9)
  | (go_at_call 12; refine (small12 A cap l w1 (HL.out.2.1.keep H1.out.2) HL.out.2.2).mono ?_; rw [HS1.out]; rintro e w2 ⟨rfl, hb2⟩; have y38 := ((H1.out.1.keep hb2).cell 38).trans (cC_at (aC_38 p)); have H2 := Lib.hid (And.intro (H1.out.1.keep hb2) (Below.step H1.out.2 hb2)); clear hb2)
  | (go_at_call 11; refine (known34 W0 (HL.out.1.keep H0.out.2)).mono ?_; rintro e w1 ⟨rfl, hb1⟩; have H1 := Lib.hid (And.intro (H0.out.1.keep hb1) (Below.step H0.out.2 hb1)); clear hb1))
 go_ret
 exact ⟨rfl, H9.out⟩
set_option maxRecDepth 100000 in
set_option maxHeartbeats 3200000 in
theorem law8_yes (A : Option Addr) (cap : Nat) (l : List Opn) (p : Cm) (w : World) (hs : Sl w cO A l) (hc : l.length ≤ cap) (hm : cap ≤ 9223372036854775807) (hL : Laid w) (h1 : smallL l = true) (h2 : ¬ 200 < p.text.size) :
  Calls Tryz.prog 8 #[.slice A l.length cap, vC p] w fun e w' => e = .returned (.bool true) ∧ Below w.heap.size w w' := by
 obtain ⟨ob, W0, hob, hW0, hrow, hb0⟩ : ∃ ob W0, w.heap.size = ob ∧ w.alloc (.cells (aC p) 35) = W0 ∧ Row W0 ob (cC p) 35 ∧ Below w.heap.size w W0 := ⟨_, _, rfl, rfl, Row.new w (cC p) _, below_alloc _ _⟩
 have HL := Lib.hid (And.intro hL (And.intro hs (show l.length ≤ 9223372036854775807 by omega)))
 have H0 := Lib.hid (And.intro hrow hb0)
 clear hL hs hrow hb0
 have HS1 := Lib.hid h1
 have HM := Lib.hid (small_mem h1)
 have HP := Lib.hid (show p.text.size ≤ 200 by omega)
 have h3 : ¬ (200 : Int) < (p.text.size : Int) := by omega
 obtain ⟨s, hs0⟩ : ∃ s, runT (Tk.new 3) l = s := ⟨_, rfl⟩
 have HRT := Lib.hid hs0
 clear h1 h2
 clear hs0
 go_enter Tryz.func8, Tryz.ntmps8
 go_upto_region 7 with (first
  | (go_at_call 14; refine (own14 p W7).mono ?_; rintro e w8 ⟨rfl, hb8⟩; obtain ⟨db, V1, V2, hdb, hV1, rokd, hV2, hrd, hbd, -⟩ := row_made (ds := cC p) (t := 32) w8 (cC_length zC); rw [show w8.alloc (.cells (cC zC).toArray 32) = w8.alloc (.cells (aC zC) 32) from rfl] at hV1; rw [show V1.setRow db (cC p).toArray = V1.setRow db (aC p) from rfl] at hV2; have v0 : V2.cell? ⟨db, 0, none⟩ = some (.int .i64 p.verb) := hrd.cell 0; have vi := hrd.idC; have vi1 := vi.1; have vi2 := vi.2; obtain ⟨vk1, vk2⟩ := Row.okw hrd (cC_length p); have H8 := Lib.hid (And.intro ((H7.out.1.keep hb8).keep hbd) hrd); clear hb8 hbd hrd vi)
  | (go_at_call 26; refine (run26 3 (by decide) (by decide) w A cap l w2 HL.out.1 H2.out.2 (HL.out.2.1.keep H2.out.2) HM.out.2 HM.out.1).mono ?_; rw [HRT.out]; rintro e w5 ⟨b, r, F, rfl, ht5, -, hk5⟩; obtain ⟨nx, W6, W7, hnx, hW6, rokn, hW7, -, hb7, -⟩ := row_made (ds := cT r) (t := 60) w5 (cT_length zT); rw [show w5.alloc (.cells (cT zT).toArray 60) = w5.alloc (.cells (aT zT) 60) from rfl] at hW6; rw [show W6.setRow nx (cT r).toArray = W6.setRow nx (aT r) from rfl] at hW7; have hr7 := (H2.out.1.same (hk5.out ob H2.out.1.lt (fun h => by cases h)).2).keep hb7; obtain ⟨kk1, kk2⟩ := Row.okw hr7 (cC_length p); have H7 := Lib.hid (And.intro (ht5.keep hb7) hr7); clear ht5 hk5 hb7 hr7)
  | (go_at_call 12; refine (small12 A cap l w1 (HL.out.2.1.keep H1.out.2) HL.out.2.2).mono ?_; rw [HS1.out]; rintro e w2 ⟨rfl, hb2⟩; have y38 := ((H1.out.1.keep hb2).cell 38).trans (cC_at (aC_38 p)); have H2 := Lib.hid (And.intro (H1.out.1.keep hb2) (Below.step H1.out.2 hb2)); clear hb2)
  | (go_at_call 11; refine (known34 W0 (HL.out.1.keep H0.out.2)).mono ?_; rintro e w1 ⟨rfl, hb1⟩; have H1 := Lib.hid (And.intro (H0.out.1.keep hb1) (Below.step H0.out.2 hb1)); clear hb1))
 by_cases h78 : p.verb = 7 ∨ p.verb = 8
 ·have HVV := Lib.hid h78
  obtain ⟨vb, hvb⟩ : ∃ vb, p.verb = vb := ⟨_, rfl⟩
  rw [hvb] at v0 h78
  clear hvb
  obtain ⟨st, hst⟩ : ∃ st, (lookL s p.id).state = st := ⟨_, rfl⟩
  have HST := Lib.hid hst
  clear hst
  by_cases h2s : st = 2
  ·subst h2s
   rcases h78 with rfl | rfl
   all_goals
    go_wp2_with (go_at_call 22; refine (H8.out.1.state p.id).mono ?_; rw [HST.out]; rintro e w9 ⟨rfl, hb9⟩; obtain ⟨z1, z2⟩ := Row.okw (H8.out.2.keep hb9) (cC_length p); have H9 := Lib.hid (And.intro (H8.out.1.keep hb9) (H8.out.2.keep hb9)); clear hb9)
    go_ret
    exact ⟨rfl, H9.out.1.bel⟩
  have q2 : (st == 2) = false := by simpa using h2s
  obtain ⟨op, hop⟩ : ∃ op, s.opn = op := ⟨_, rfl⟩
  have HOP := Lib.hid hop
  have HN2 := Lib.hid h2s
  clear hop h2s
  cases op with
  | false =>
   rcases h78 with rfl | rfl
   all_goals
    go_wp2_with (first
     | (go_at_call 21; refine (H9.out.1.isOpen).mono ?_; rw [HOP.out]; rintro e w10 ⟨rfl, hb10⟩; obtain ⟨y1, y2⟩ := Row.okw (H9.out.2.keep hb10) (cC_length p); have H10 := Lib.hid (And.intro (H9.out.1.keep hb10) (H9.out.2.keep hb10)); clear hb10)
     | (go_at_call 22; refine (H8.out.1.state p.id).mono ?_; rw [HST.out]; rintro e w9 ⟨rfl, hb9⟩; obtain ⟨z1, z2⟩ := Row.okw (H8.out.2.keep hb9) (cC_length p); have H9 := Lib.hid (And.intro (H8.out.1.keep hb9) (H8.out.2.keep hb9)); clear hb9))
    go_ret
    exact ⟨rfl, H10.out.1.bel⟩
  | true =>
   by_cases hnm : p.name.size = 0
   ·have HNM := Lib.hid hnm
    clear hnm
    obtain ⟨n0, hn0⟩ : ∃ n0, chk p = n0 := ⟨_, rfl⟩
    have HCK := Lib.hid hn0
    clear hn0
    by_cases hz : n0 = 0
    ·subst hz
     have HEA := Lib.hid (show hearT s p = (s, [], [], 0) from foreign_hear HOP.out HCK.out HVV.out (by rw [HST.out]; exact HN2.out))
     rcases h78 with rfl | rfl
     all_goals
      go_wp2_with (first
       | (go_at_call 29; refine (equal29s b kc s F1 F2 w13 H13.out.1.tk H13.out.2 H11.out.1.inv.a100 H11.out.1.inv.k100).mono ?_; rintro e w14 ⟨rfl, hb14⟩; have H14 := Lib.hid (Below.step H13.out.1.bel hb14); clear hb14)
       | (go_at_call 15; refine (H12.out.1.hear HL.out.1 p (by have := HNM.out; omega) (by have := HP.out; omega)).mono ?_; rw [HEA.out]; rintro e w13 ⟨⟨qa, qn, qc⟩, ⟨la, ln, lc⟩, rfl, F1, ht1, hk1, hq, hl⟩; have eq1 := hq.1; have el1 := hl.1; dsimp only [List.length_nil] at eq1 el1; subst eq1; subst el1; have H13 := Lib.hid (And.intro ht1 (H12.out.2.1.other hk1 H12.out.2.2)); clear ht1 hk1 hq hl)
       | (go_at_call 27; refine (clone27 b s F w11 H11.out.1.tk H11.out.1.inv.a100 H11.out.1.inv.k100).mono ?_; rintro e w12 ⟨kc, F2, rfl, hT8, hF8, hb12⟩; obtain ⟨u1, u2⟩ := Row.okw (H11.out.2.keep hb12) (cC_length p); have H12 := Lib.hid (And.intro (H11.out.1.keep hb12) (And.intro hT8 (show ∀ j ∈ F2, j < w12.heap.size ∧ j ∉ F from fun j hj => ⟨(hF8 j hj).2, fun h => by have := H11.out.1.lt j h; have := (hF8 j hj).1; omega⟩))); clear hb12 hT8 hF8)
       | (go_at_call 32; refine (check16 p w10 (HL.out.1.keep H10.out.1.bel).forms (by have := HNM.out; omega)).mono ?_; rw [HCK.out]; rintro e w11 ⟨rfl, hb11⟩; have H11 := Lib.hid (And.intro (H10.out.1.keep hb11) (H10.out.2.keep hb11)); clear hb11)
       | (go_at_call 21; refine (H9.out.1.isOpen).mono ?_; rw [HOP.out]; rintro e w10 ⟨rfl, hb10⟩; obtain ⟨y1, y2⟩ := Row.okw (H9.out.2.keep hb10) (cC_length p); have H10 := Lib.hid (And.intro (H9.out.1.keep hb10) (H9.out.2.keep hb10)); clear hb10)
       | (go_at_call 22; refine (H8.out.1.state p.id).mono ?_; rw [HST.out]; rintro e w9 ⟨rfl, hb9⟩; obtain ⟨z1, z2⟩ := Row.okw (H8.out.2.keep hb9) (cC_length p); have H9 := Lib.hid (And.intro (H8.out.1.keep hb9) (H8.out.2.keep hb9)); clear hb9))
      go_ret
      exact ⟨rfl, H14.out⟩
    ·have q3 : (n0 != 0) = true := by simpa using hz
     clear hz
     rcases h78 with rfl | rfl
     all_goals
      go_wp2_with (first
       | (go_at_call 32; refine (check16 p w10 (HL.out.1.keep H10.out.1.bel).forms (by have := HNM.out; omega)).mono ?_; rw [HCK.out]; rintro e w11 ⟨rfl, hb11⟩; have H11 := Lib.hid (And.intro (H10.out.1.keep hb11) (H10.out.2.keep hb11)); clear hb11)
       | (go_at_call 21; refine (H9.out.1.isOpen).mono ?_; rw [HOP.out]; rintro e w10 ⟨rfl, hb10⟩; obtain ⟨y1, y2⟩ := Row.okw (H9.out.2.keep hb10) (cC_length p); have H10 := Lib.hid (And.intro (H9.out.1.keep hb10) (H9.out.2.keep hb10)); clear hb10)
       | (go_at_call 22; refine (H8.out.1.state p.id).mono ?_; rw [HST.out]; rintro e w9 ⟨rfl, hb9⟩; obtain ⟨z1, z2⟩ := Row.okw (H8.out.2.keep hb9) (cC_length p); have H9 := Lib.hid (And.intro (H8.out.1.keep hb9) (H8.out.2.keep hb9)); clear hb9))
      go_ret
      exact ⟨rfl, H11.out.1.bel⟩
   ·have HNM := Lib.hid hnm
    clear hnm
    rcases h78 with rfl | rfl
    all_goals
     go_wp2_with (first
      | (go_at_call 32; refine (check16_fmt p w10 (HL.out.1.keep H10.out.1.bel).forms HVV.out HNM.out).mono ?_; rintro e w11 ⟨rfl, hb11⟩; have H11 := Lib.hid (And.intro (H10.out.1.keep hb11) (H10.out.2.keep hb11)); clear hb11)
      | (go_at_call 21; refine (H9.out.1.isOpen).mono ?_; rw [HOP.out]; rintro e w10 ⟨rfl, hb10⟩; obtain ⟨y1, y2⟩ := Row.okw (H9.out.2.keep hb10) (cC_length p); have H10 := Lib.hid (And.intro (H9.out.1.keep hb10) (H9.out.2.keep hb10)); clear hb10)
      | (go_at_call 22; refine (H8.out.1.state p.id).mono ?_; rw [HST.out]; rintro e w9 ⟨rfl, hb9⟩; obtain ⟨z1, z2⟩ := Row.okw (H8.out.2.keep hb9) (cC_length p); have H9 := Lib.hid (And.intro (H8.out.1.keep hb9) (H8.out.2.keep hb9)); clear hb9))
     go_ret
     exact ⟨rfl, H11.out.1.bel⟩
 ·have q7 : (p.verb != 7) = true := by simpa using fun e => h78 (Or.inl e)
  have q8 : (p.verb != 8) = true := by simpa using fun e => h78 (Or.inr e)
  clear h78
  go_wp2
  go_ret
  exact ⟨rfl, H8.out.1.bel⟩
theorem law8 (A : Option Addr) (cap : Nat) (l : List Opn) (p : Cm) (hpi : p.ints) (w : World) (hs : Sl w cO A l) (hi : ∀ x ∈ l, x.ints) (hc : l.length ≤ cap) (hm : cap ≤ 9223372036854775807) (hL : Laid w) :
  Calls Tryz.prog 8 #[.slice A l.length cap, vC p] w fun e w' => e = .returned (.bool true) ∧ Below w.heap.size w w' := by
 have _ := hpi
 have _ := hi
 cases h1 : smallL l with
 | false => exact law8_small A cap l p w hs hc hm hL h1
 | true =>
  by_cases h2 : 200 < p.text.size
  ·exact law8_long A cap l p w hs hc hm hL h1 h2
  exact law8_yes A cap l p w hs hc hm hL h1 h2
end Go.Proofs.YtgojaelkdpabkaaGreatDoor
