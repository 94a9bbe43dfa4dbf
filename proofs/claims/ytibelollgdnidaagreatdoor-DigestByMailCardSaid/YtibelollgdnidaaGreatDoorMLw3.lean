/- DigestByMail is true for all letters and hops: its walk. -/
import Derived.Test.YtibelollgdnidaaGreatDoorMLq2
import Derived.BigQuiet
namespace Go.Proofs.YtibelollgdnidaaGreatDoor
open Go.RowKit
theorem cell_plain {u : World} {ad : Addr} {v : Value} (h : u.cell? ad = some v) : u.cell? ⟨ad.block, ad.off, none⟩ = some v := by
 unfold World.cell? at h ⊢
 split at h
 ·rename_i heq
  rw [heq]
  split at h
  ·cases h
  ·exact h
 ·cases h
theorem own_itk {w : World} {base g n c : Nat} {xs : List It} (h : Own w base 36 36 cIt (.slice (some ⟨g, 0, none⟩) n c) xs) {k : Nat} (hk : k < xs.length) : okA w ⟨g, k * 36, none⟩ 36 = true ∧ rdA w ⟨g, k * 36, none⟩ 36 = vIt xs[k] := by
 obtain ⟨A, c', e, -, hsl⟩ := h.sl
 injection e with e1 e2 e3
 obtain ⟨ad, ea, hat⟩ := Sl.at_ cIt_length hsl hk
 rw [ea] at e1
 obtain rfl := Option.some.inj e1
 rw [show (⟨g, 0, none⟩ : Addr).add (k * 36) = ⟨g, k * 36, none⟩ by rw [add_off, Nat.zero_add]] at hat
 have h1 := hat.ok
 have h2 := hat.rd
 rw [cIt_length] at h1 h2
 exact ⟨h1, h2⟩
theorem hpl_nil : HpL [] := ⟨⟨List.nodup_nil, by decide, fun x hx => by cases hx⟩, fun x hx => by cases hx⟩
theorem known4 (w0 w : World) (hL : Ldz w0 w) : Calls Tryz.prog 4 #[] w fun e w' => e = .returned (.bool true) ∧ Below w.heap.size w w' := by
 have H := Lib.hid (known14 w0 w hL)
 clear hL
 go_enter Tryz.func4, Tryz.ntmps4
 go_wp2_with (go_at_call 14; refine H.out.mono ?_; rintro e w2 ⟨rfl, hb2⟩)
 go_ret
 exact ⟨rfl, hb2⟩
theorem sbV_at (q : Nat) (h : q < 4) : sbV[q]? = some (.string (tx (sbj q))) := by
 rcases (show q = 0 ∨ q = 1 ∨ q = 2 ∨ q = 3 by omega) with rfl | rfl | rfl | rfl <;> rfl
set_option maxRecDepth 100000 in
set_option maxHeartbeats 12800000 in
theorem mail_law (A : Option Addr) (c : Nat) (ls : List Lt) (A2 : Option Addr) (c2 : Nat) (hp : List UInt8) (w : World) (hs : Sl w cLt A ls) (hc : ls.length ≤ c) (hs2 : Sl w c1 A2 hp) (hc2 : hp.length ≤ c2) (hL : Ldz w w) :
  Calls Tryz.prog 3 #[.slice A ls.length c, .slice A2 hp.length c2] w fun e w' => e = .returned (.bool true) ∧ Below w.heap.size w w' := by
 have H0 := Lib.hid (And.intro hs (And.intro hs2 hL))
 obtain ⟨n, hn⟩ : ∃ n, ls.length = n := ⟨_, rfl⟩
 obtain ⟨m, hm⟩ : ∃ m, hp.length = m := ⟨_, rfl⟩
 have HN := Lib.hid (And.intro hn hm)
 rw [hn, hm]
 have HK := Lib.hid (fun (u : World) (hu : Ldz w u) => known4 w u hu)
 clear hs hc hs2 hc2 hL hn hm
 have T1 := Lib.hid True.intro
 by_cases h8 : 8 < n
 ·have h8i : (8 : Int) < (n : Int) := by omega
  go_enter Tryz.func3, Tryz.ntmps3
  go_wp2_with (first
   | (go_at_call 4; refine (usee T1 (HK.out _ H0.out.2.2)).mono ?_; clear T1; rintro e w1 ⟨rfl, hb1⟩; have H1 := Lib.hid hb1; clear hb1)
   | (go_at_call 4; refine (HK.out _ (H0.out.2.2.keep H1.out)).mono ?_; rintro e w2 ⟨rfl, hb2⟩; have H2 := Lib.hid (Below.step H1.out hb2); clear hb2))
  go_ret
  exact ⟨rfl, H2.out⟩
 have h8i : ¬ (8 : Int) < (n : Int) := by omega
 by_cases h40 : 40 < m
 ·have h40i : (40 : Int) < (m : Int) := by omega
  go_enter Tryz.func3, Tryz.ntmps3
  go_wp2_with (first
   | (go_at_call 4; refine (usee T1 (HK.out _ H0.out.2.2)).mono ?_; clear T1; rintro e w1 ⟨rfl, hb1⟩; have H1 := Lib.hid hb1; clear hb1)
   | (go_at_call 4; refine (HK.out _ (H0.out.2.2.keep H1.out)).mono ?_; rintro e w2 ⟨rfl, hb2⟩; have H2 := Lib.hid (Below.step H1.out hb2); clear hb2))
  go_ret
  exact ⟨rfl, H2.out⟩
 have h40i : ¬ (40 : Int) < (m : Int) := by omega
 have hn8 : n ≤ 8 := by omega
 have hm40 : m ≤ 40 := by omega
 clear h8 h40
 go_enter Tryz.func3, Tryz.ntmps3
 go_wp2_with (first
  | (go_at_call 4; refine (usee T1 (HK.out _ H0.out.2.2)).mono ?_; clear T1; rintro e w1 ⟨rfl, hb1⟩; have H1 := Lib.hid hb1; clear hb1)
  | (go_at_call 5; refine (newBuilder5 wBo _ hdB.pl hdB.h1 hdB.h2).mono ?_; rintro e w2 ⟨rfl, hbl, hb2⟩; obtain ⟨r, hr⟩ : ∃ r, w1.heap.size = r := ⟨_, rfl⟩; obtain ⟨b, hb⟩ : ∃ b, r + 1 = b := ⟨_, rfl⟩; have hrw : w.heap.size ≤ r := hr ▸ H1.out.size; have hbw := Below.step H1.out hb2; rw [hr, hb] at hbl; rw [hr, hb]; obtain ⟨bs, hbs⟩ : ∃ b, w2.heap.size = b := ⟨_, rfl⟩; obtain ⟨W3, hW3⟩ : ∃ W, w2.alloc (.cells #[.string ⟨#[]⟩, .string ⟨#[97]⟩, .string ⟨#[98]⟩, .string ⟨#[82, 101, 58, 32, 97]⟩] 9) = W := ⟨_, rfl⟩; have S3 := Lib.hid (show LpS w b r bs ls 0 (.slice none 0 0) 0 (.slice none 0 0) W3 from by have hb3 : Below w2.heap.size w2 W3 := hW3 ▸ below_alloc w2 _; exact ⟨by rw [wantL_zero]; exact hbl.keep hb3, by rw [wantL_zero]; exact Own.nil _ _ _ _ _, by rw [← hbs, ← hW3]; exact Row.new w2 sbV 9, fun k hk => (by cases hk), fun _ => ⟨rfl, rfl⟩, Below.step hbw hb3, hrw, hbs ▸ hbl.row.lt⟩); clear hbl hb2 hbw hrw hr hb H1))
 go_loopw [8, 9, 10, 11] (fun v8 iv _ _ wr => ∃ i : Nat, i ≤ n ∧ iv = .int .i64 (i : Int) ∧ ∃ fs v, LpS w b r bs ls i v8 fs v wr ∧ ∀ k (h : k < ls.length), k < i → ls[k].2.size ≤ 200) (fun _ iv _ _ _ => n - (intOf iv).toNat)
 case atStart => exact ⟨0, Nat.zero_le _, rfl, 0, _, S3.out, fun k h h2 => absurd h2 (Nat.not_lt_zero _)⟩
 case round =>
  clear S3
  obtain ⟨i, hi, rfl, fs, v, hlp, hsz⟩ := hrel
  have HS := Lib.hid (And.intro hlp hsz)
  clear hlp hsz
  by_cases hlt : i < n
  ·have hii : (i : Int) < (n : Int) := by omega
   have hil : i < ls.length := by rw [HN.out.1]; exact hlt
   obtain ⟨⟨sx, t⟩, hx⟩ : ∃ x : Lt, ls[i]'hil = x := ⟨_, rfl⟩
   obtain ⟨ad, rfl, hadl, hg0', hg1'⟩ := Sl.lt (H0.out.1.keep HS.out.1.bel) hil
   have hg0 : wr.cell? (ad.add (i * 2)) = some (.int .u8 ((sx.toNat : Nat) : Int)) := by
    have := hg0'
    rwa [hx] at this
   have hg1 : wr.cell? ⟨(ad.add (i * 2)).block, (ad.add (i * 2)).off + 1, none⟩ = some (.string t) := by
    have := cell_plain hg1'
    rw [hx] at this
    exact this
   have HT := Lib.hid hx
   clear hg0' hg1' hx hadl
   by_cases ht : 200 < t.size
   ·have hti : (200 : Int) < (t.size : Int) := by omega
    go_wp2
    go_ret
    exact ⟨rfl, HS.out.1.bel⟩
   ·have hti : ¬ (200 : Int) < (t.size : Int) := by omega
    have HI8 := Lib.hid (show i < 8 by omega)
    obtain ⟨s, hs⟩ : ∃ s : Int, ((sx.toNat : Nat) : Int) = s := ⟨_, rfl⟩
    obtain ⟨q, hq⟩ : ∃ q, sx.toNat % 4 = q := ⟨_, rfl⟩
    rw [hs] at hg0
    have hq3 : (q : Int) < 4 := by omega
    have hs0 : 0 ≤ s := by omega
    have hq4 : s.tmod 4 = (q : Int) := by rw [Int.tmod_eq_emod_of_nonneg hs0]; omega
    have hs1 : s ≤ 255 := by have := sx.toNat_lt; omega
    have hql : q < 4 := by omega
    have hsq0 := HS.out.1.sb.cell q
    rw [sbV_at q hql] at hsq0
    obtain ⟨sq, hsqe⟩ : ∃ x, tx (sbj q) = x := ⟨_, rfl⟩
    rw [hsqe] at hsq0
    have hsq := hsq0
    obtain ⟨X, hX⟩ : ∃ X, itK i (sx, t) = X := ⟨_, rfl⟩
    have HX := Lib.hid (show (∀ u : World, (blA 36 #[(0, .string ⟨#[65, 32, 66]⟩), (1, .int .i64 (i : Int)), (2, .string sq), (3, vI (idK (i + 1))), (4, .string t)]).run Tryz.prog u = .ok (vIt X) u) ∧ itK i (sx, t) = X from ⟨fun u => by
     have := bl_itK u i HI8.out (sbj q) (bl t)
     rw [hsqe, tx_bl] at this
     rw [← hX]
     unfold itK
     rw [hq]
     exact this, hX⟩)
    obtain ⟨bx, hbx⟩ : ∃ b, wr.heap.size = b := ⟨_, rfl⟩
    clear hsq0 hsqe hX hs
    go_wp2
    refine AnyO.wp_anyI (by kernel_rfl) (by kernel_rfl) (AnyO.InvG (σ := Unit) (fun σ => AnyO.pvL [some (.int .i64 (i : Int)), some (.slice (some ⟨bs, 0, none⟩) 4 4), some (.slice (some ad) n c), some (.int .i64 (i : Int)), some (.pointer (some (ad.add (i * 2)))), some (.pointer (some (ad.add (i * 2)))), some (.int .u8 s), some (.int .u8 (q : Int)), some (.pointer (some ⟨bs, q, none⟩)), some (.string sq), some (.int .i64 (i : Int)), some (.int .i64 ((i : Int) + 1)), some (.int .u8 ((i : Int) + 1)), some (vI (idK (i + 1))), some (.slice (some ad) n c), some (.int .i64 (i : Int)), some (.pointer (some (ad.add (i * 2)))), some (.pointer (some ⟨(ad.add (i * 2)).block, (ad.add (i * 2)).off + 1, none⟩)), some (.string t), some (vIt X), some (.pointer (some ⟨bx, 0, none⟩)), none]) (fun _ D u => XW wr X u (D 20) (D 21))) (AnyO.InvG.start (g := ()) (⟨below_drew _, rfl⟩)) ?_ ?_
    ·intro i hi
     have hi2 : i = 6 ∨ i = 9 ∨ i = 18 ∨ i = 20 ∨ i = 21 ∨ i = 0 ∨ i = 1 ∨ i = 2 ∨ i = 3 ∨ i = 4 ∨ i = 5 ∨ i = 7 ∨ i = 8 ∨ i = 10 ∨ i = 11 ∨ i = 12 ∨ i = 13 ∨ i = 14 ∨ i = 15 ∨ i = 16 ∨ i = 17 ∨ i = 19 := by simp only [List.size_toArray, List.length_cons, List.length_nil] at hi; omega
     clear hi
     rcases hi2 with rfl | rfl | rfl | rfl | rfl | rfl | rfl | rfl | rfl | rfl | rfl | rfl | rfl | rfl | rfl | rfl | rfl | rfl | rfl | rfl | rfl | rfl
     ·refine AnyO.I rfl [5] ?_; rintro D vs u σ Q h0 hC hp ac hb K hK
      have s77 : _ = _ := AnyO.sv 77 5 hb hp Q
      have hf21 := AnyO.fls (hC.out 21) h0 (by kernel_rfl)
      have hst := Q.out.2
      rw [hf21] at hst
      replace hst := hst.bel
      have rr := cell_below hg0 hst
      clear hst hf21
      go_simp; exact hK _ _ (AnyO.InvG.step (g := σ) Q.out.1 rfl Q.out.2)
     ·refine AnyO.I rfl [8] ?_; rintro D vs u σ Q h0 hC hp ac hb K hK
      have s80 : _ = _ := AnyO.sv 80 8 hb hp Q
      have hf21 := AnyO.fls (hC.out 21) h0 (by kernel_rfl)
      have hst := Q.out.2
      rw [hf21] at hst
      replace hst := hst.bel
      have rr := cell_below hsq hst
      clear hst hf21
      go_simp; exact hK _ _ (AnyO.InvG.step (g := σ) Q.out.1 rfl Q.out.2)
     ·refine AnyO.I rfl [17] ?_; rintro D vs u σ Q h0 hC hp ac hb K hK
      have s89 : _ = _ := AnyO.sv 89 17 hb hp Q
      have hf21 := AnyO.fls (hC.out 21) h0 (by kernel_rfl)
      have hst := Q.out.2
      rw [hf21] at hst
      replace hst := hst.bel
      have rr := cell_below hg1 hst
      clear hst hf21
      go_simp; exact hK _ _ (AnyO.InvG.step (g := σ) Q.out.1 rfl Q.out.2)
     ·refine AnyO.I rfl [] ?_; rintro D vs u σ Q h0 hC hp ac hb K hK
      have hf21 := AnyO.fls (hC.out 21) h0 (by kernel_rfl)
      have hst := Q.out.2
      rw [h0] at hst
      have HST := Lib.hid hst
      have hsz := hst.2
      have HF21 := Lib.hid hf21
      clear hst hf21
      go_simp
      refine hK _ _ (AnyO.InvG.step (g := σ) Q.out.1 rfl ?_)
      rw [show AnyO.addD D 20 20 = true from rfl, show AnyO.addD D 20 21 = D 21 from rfl, HF21.out]
      exact HST.out.made
     ·refine AnyO.I rfl [20, 19, 0, 1, 2, 3, 4, 5, 6, 7, 8, 9, 10, 11, 12, 13, 14, 15, 16, 17, 18, 19, 20] ?_; rintro D vs u σ Q h0 hC hp ac hb K hK
      have s10 : _ = _ := AnyO.sv 10 20 hb hp Q
      have s91 : _ = _ := AnyO.sv 91 19 hb hp Q
      have hp20 : D 20 = true := hp.out 20 (by decide)
      have hst := Q.out.2
      rw [hp20, h0] at hst
      have rr := hst.rowOk
      rw [hbx] at rr
      have HST := Lib.hid hst
      clear hst
      go_simp
      exact hK undef _ (AnyO.InvG.step (g := σ) Q.out.1 trivial (by rw [show AnyO.addD D 21 20 = D 20 from rfl, hp20, show AnyO.addD D 21 21 = true from rfl]; exact hbx ▸ HST.out.stored))
     all_goals
      refine AnyO.J rfl ?_; rintro D vs u σ Q h0 hC hp ac hb K hK
      try have s9 : ac.tmps[9]?.getD undef = .int .i64 (i : Int) := by rw [hb.out]; kernel_rfl
      try have s7 : ac.tmps[7]?.getD undef = .slice (some ⟨bs, 0, none⟩) 4 4 := by rw [hb.out]; kernel_rfl
      try have s0 : ac.tmps[0]?.getD undef = .slice (some ad) n c := by rw [hb.out]; kernel_rfl
      try have s74 : _ = _ := AnyO.sv 74 2 hb hp Q
      try have s75 : _ = _ := AnyO.sv 75 3 hb hp Q
      try have s76 : _ = _ := AnyO.sv 76 4 hb hp Q
      try have s78 : _ = _ := AnyO.sv 78 6 hb hp Q
      try have s73 : _ = _ := AnyO.sv 73 1 hb hp Q
      try have s79 : _ = _ := AnyO.sv 79 7 hb hp Q
      try have s82 : _ = _ := AnyO.sv 82 10 hb hp Q
      try have s83 : _ = _ := AnyO.sv 83 11 hb hp Q
      try have s84 : _ = _ := AnyO.sv 84 12 hb hp Q
      try have s86 : _ = _ := AnyO.sv 86 14 hb hp Q
      try have s87 : _ = _ := AnyO.sv 87 15 hb hp Q
      try have s88 : _ = _ := AnyO.sv 88 16 hb hp Q
      try have s72 : _ = _ := AnyO.sv 72 0 hb hp Q
      try have s81 : _ = _ := AnyO.sv 81 9 hb hp Q
      try have s85 : _ = _ := AnyO.sv 85 13 hb hp Q
      try have s90 : _ = _ := AnyO.sv 90 18 hb hp Q
      have rr_0 := hq4
      have rr_1 := hq3
      have rr1_2 := wr_i64k i HI8.out
      have rr1_3 := wr_u8k i HI8.out
      have rr1_4 := bl_idK u i HI8.out
      have rr1_5 := HX.out.1 u
      go_simp
      exact hK _ _ (AnyO.InvG.step (g := σ) Q.out.1 rfl Q.out.2)
    ·intro D vs u hI hD
     obtain ⟨σ, hP, hW⟩ := hI
     have e0 : _ = _ := hP 0 (hD 0 (by decide))
     have e1 : _ = _ := hP 1 (hD 1 (by decide))
     have e2 : _ = _ := hP 2 (hD 2 (by decide))
     have e3 : _ = _ := hP 3 (hD 3 (by decide))
     have e4 : _ = _ := hP 4 (hD 4 (by decide))
     have e5 : _ = _ := hP 5 (hD 5 (by decide))
     have e6 : _ = _ := hP 6 (hD 6 (by decide))
     have e7 : _ = _ := hP 7 (hD 7 (by decide))
     have e8 : _ = _ := hP 8 (hD 8 (by decide))
     have e9 : _ = _ := hP 9 (hD 9 (by decide))
     have e10 : _ = _ := hP 10 (hD 10 (by decide))
     have e11 : _ = _ := hP 11 (hD 11 (by decide))
     have e12 : _ = _ := hP 12 (hD 12 (by decide))
     have e13 : _ = _ := hP 13 (hD 13 (by decide))
     have e14 : _ = _ := hP 14 (hD 14 (by decide))
     have e15 : _ = _ := hP 15 (hD 15 (by decide))
     have e16 : _ = _ := hP 16 (hD 16 (by decide))
     have e17 : _ = _ := hP 17 (hD 17 (by decide))
     have e18 : _ = _ := hP 18 (hD 18 (by decide))
     have e19 : _ = _ := hP 19 (hD 19 (by decide))
     have e20 : _ = _ := hP 20 (hD 20 (by decide))
     rw [show D 20 = true from hD 20 (by decide), show D 21 = true from hD 21 (by decide)] at hW
     have HW := Lib.hid hW
     clear hW hP hD
     rw [puts_range [some 72, some 73, some 74, some 75, some 76, some 77, some 78, some 79, some 80, some 81, some 82, some 83, some 84, some 85, some 86, some 87, some 88, some 89, some 90, some 91, some 10, none] (by kernel_rfl)]
     simp only [putL, Nat.reduceAdd, e0, e1, e2, e3, e4, e5, e6, e7, e8, e9, e10, e11, e12, e13, e14, e15, e16, e17, e18, e19, e20]
     clear e0 e1 e2 e3 e4 e5 e6 e7 e8 e9 e10 e11 e12 e13 e14 e15 e16 e17 e18 e19 e20
     have hb13 := HW.out.1
     have hrx := HW.out.2
     rw [hbx] at hrx
     obtain ⟨ox, dx⟩ := row_it hrx
     have HU := Lib.hid (And.intro (HS.out.1.keep hb13) (And.intro hrx hb13))
     have HXP := Lib.hid (show ItPl X ∧ X.body = bl t ∧ X.id ∉ (wantL ls i).map (·.id) ∧ (wantL ls i).length ≤ 100 from by
      rw [← HX.out.2]
      exact ⟨itK_pl HI8.out _, rfl, wantL_new HI8.out _, Nat.le_trans (wantL_len ls i) (by have := HI8.out; omega)⟩)
     have HSZ := Lib.hid (show ∀ k (h : k < ls.length), k < i + 1 → ls[k].2.size ≤ 200 from fun k h h2 => by
      by_cases hki : k = i
      ·subst hki
       rw [HT.out]
       show t.size ≤ 200
       omega
      ·exact HS.out.2 k h (by omega))
     clear hb13 hrx HW hg0 hg1 hsq hq3 hq4 hs0 hs1
     by_cases h13 : (13 : UInt8) ∈ bl t
     ·have HE := Lib.hid (show wantL ls (i + 1) = wantL ls i from by
       rw [wantL_succ ls i hil, HT.out, if_pos h13, List.append_nil])
      have H13 := Lib.hid h13
      clear h13
      go_simp
      go_wp2_with (go_at_call 6; refine (add6n b X _ HXP.out.1 (by rw [HXP.out.2.1]; exact H13.out)).mono ?_; rintro e w5 ⟨rfl, hb5⟩; have S5 := Lib.hid (HU.out.1.keep hb5); clear hb5)
      go_roundw
      case rel => exact ⟨i + 1, hlt, by go_num, fs, v, S5.out.skip HE.out, HSZ.out⟩
      case measure => simp [intOf]; omega
     ·have HE := Lib.hid (show wantL ls (i + 1) = wantL ls i ++ [X] from by
       rw [wantL_succ ls i hil, HT.out, if_neg h13, HX.out.2])
      have H13 := Lib.hid h13
      clear h13
      go_simp
      go_wp2_with (first
       | (go_at_call 6; refine (add6 b r wBo 0 fs v (wantL ls i) _ X _ HU.out.1.bl HXP.out.1 (by rw [HXP.out.2.1]; exact H13.out) HXP.out.2.2.1 HXP.out.2.2.2).mono ?_; rintro e w5 ⟨rfl, fs5, v5, hB5, hF5⟩; have M5 := Lib.hid (HU.out.1.added hB5 hF5); have hr5 := HS.out.1.xrow hF5 HU.out.2.2 (hbx ▸ HU.out.2.1); rw [hbx] at hr5; obtain ⟨ox5, dx5⟩ := row_it hr5; clear hB5 hF5 hr5 ox dx)
       | (at_builtin; go_loud (refine wpList_append_sl_at _ rfl (.tmp 97) (.tmp 99) 30 rfl (bs + 1) 36 36 88 cIt underIts rowIt (by decide) cIt_length cIt_one _ (wantL ls i) rfl (M5.out.keep (below_alloc _ _)).ow _ 1 _ [X] rfl (by simp) rfl (sl_newIt _ _) (by have := HXP.out.2.2.2; omega) (by have := HXP.out.2.2.2; omega) (by have := M5.out.sb.lt; rw [World.size_alloc]; omega) ?_)))
      intro v9 w9 ho9 hg9 ha9
      have S9 := Lib.hid ((M5.out.keep (below_alloc _ _)).app ho9 hg9 (by rw [World.size_alloc]; exact ha9) HE.out)
      clear ho9 hg9 ha9 ox5 dx5
      go_wp2
      go_roundw
      case rel => exact ⟨i + 1, hlt, by go_num, fs5, v5, S9.out, HSZ.out⟩
      case measure => simp [intOf]; omega
  ·obtain rfl : i = n := by omega
   have HSZ := Lib.hid HS.out.2
   by_cases hy : wantL ls i = []
   ·obtain ⟨rfl, rfl⟩ := HS.out.1.nil hy
    have hbl := HS.out.1.bl
    rw [hy] at hbl
    have HBL := Lib.hid (And.intro hbl HS.out.1.bel)
    clear hbl HS
    go_wp2_with (go_at_call 7; refine (take7z b r wBo fs _ _ HBL.out.1).mono ?_; rintro e w5 ⟨rfl, hb5⟩; obtain ⟨b6, hb6⟩ : ∃ b, w5.heap.size = b := ⟨_, rfl⟩; obtain ⟨W6, hW6⟩ : ∃ W, w5.alloc (.cells #[.string ⟨#[]⟩, .int .i64 0, .int .i64 0, .int .i64 0, .slice none 0 0] 39) = W := ⟨_, rfl⟩; obtain ⟨W7, hW7⟩ : ∃ W, (((((W6.setCell ⟨b6, 0, none⟩ (.string ⟨#[]⟩)).setCell ⟨b6, 1, none⟩ (.int .i64 0)).setCell ⟨b6, 2, none⟩ (.int .i64 0)).setCell ⟨b6, 3, none⟩ (.int .i64 0)).setCell ⟨b6, 4, none⟩ (.slice none 0 0)) = W := ⟨_, rfl⟩; obtain ⟨bl7, r7, r6⟩ := dg_made hW6 hb6 hW7; have f0 := r6.fz 0; have o0 := r6.cell 0; have f1 := r6.fz 1; have o1 := r6.cell 1; have f2 := r6.fz 2; have o2 := r6.cell 2; have f3 := r6.fz 3; have o3 := r6.cell 3; have f4 := r6.fz 4; have o4 := r6.cell 4; have S7 := Lib.hid (Below.step (Below.step HBL.out.2 hb5) bl7); clear bl7 r7 r6 hb5)
    go_ret
    exact ⟨rfl, S7.out⟩
   ·obtain ⟨g4, c4, rfl, hc4, hg4, hgl4, -⟩ := own_it HS.out.1.bl.own hy
    obtain ⟨g8, c8, rfl, hc8, hg8, hgl8, -⟩ := own_it HS.out.1.ow hy
    obtain ⟨ys, hys⟩ : ∃ ys, wantL ls i = ys := ⟨_, rfl⟩
    have HW8 := Lib.hid (show ys ≠ [] ∧ ys.length ≤ 8 ∧ (∀ y ∈ ys, ItOk y) ∧ (ys.map (·.id)).Nodup ∧ (lnT (dgL wBo 1 100 ys)).length ≤ 32768 from by
     have h8 : (wantL ls i).length ≤ 8 := Nat.le_trans (wantL_len ls i) hn8
     rw [← hys]
     exact ⟨hy, h8, wantL_ok hn8 HSZ.out, wantL_nd ls i hn8 (by rw [HN.out.1]; exact Nat.le_refl _), dg_size h8 (want_sz HSZ.out)⟩)
    have hlp := HS.out.1
    have hbl4 := hlp.bl
    have how8 := hlp.ow
    have hbel4 := hlp.bel
    have hbb4 := hlp.bb
    have hwr4 := hlp.rr
    rw [hys] at hbl4 how8
    rw [hys] at hc4 hc8 ⊢
    obtain ⟨A4', c4', e4, -, hsl4⟩ := hbl4.own.sl
    cases e4
    have hbl4' := hbl4
    obtain ⟨ny, hny⟩ : ∃ k, ys.length = k := ⟨_, rfl⟩
    have HNY := Lib.hid hny
    have hny0 : 0 < ny := by rw [← hny]; exact List.length_pos_iff.2 HW8.out.1
    have hny8 : ny ≤ 8 := by rw [← hny]; exact HW8.out.2.1
    have HT7 := Lib.hid (take7 b r wBo fs ⟨g4, 0, none⟩ c4 ys _ w wr hbl4 ⟨hdB, by decide, HW8.out.1, HW8.out.2.1, HW8.out.2.2.1, HW8.out.2.2.2.1, Nat.le_trans HW8.out.2.2.2.2 (by decide), hsl4, hc4, H0.out.2.2.keep hbel4⟩)
    have HOW := Lib.hid (And.intro hbl4.own (And.intro how8 (And.intro hbel4 (And.intro hbb4 (And.intro (Nat.le_trans hwr4 (Nat.le_of_lt hbl4.rb)) (And.intro hc4 hc8))))))
    rw [hny] at HT7 HOW ⊢
    clear HS hlp hbl4 how8 hbel4 hbb4 hwr4 hbl4' hsl4 hny hc4 hc8 hg4 hgl4 hg8 hgl8 hy
    obtain ⟨B, hB⟩ : ∃ B, tx (lnT (dgL wBo 1 100 ys)) = B := ⟨_, rfl⟩
    have HB := Lib.hid hB
    clear hB
    have HBU := Lib.hid (fun (u : World) (hu : DgM wBo 1 100 ⟨g4, 0, none⟩ c4 ys w u) => (by have := bundle8 wBo 1 100 ⟨g4, 0, none⟩ c4 ys w u hu; rw [HB.out, HNY.out] at this; exact this : Calls Tryz.prog 8 #[.agg #[.string (tx wBo), .int .i64 1, .int .i64 1, .int .i64 100, .slice (some ⟨g4, 0, none⟩) ny c4]] u fun e w' => e = .returned (.tuple #[.string B, .int .i64 0]) ∧ Below u.heap.size u w'))
    obtain ⟨u1, h1⟩ : ∃ x : ByteArray, (⟨#[100, 105, 103, 101, 115, 116]⟩ : ByteArray) = x := ⟨_, rfl⟩
    obtain ⟨y1, h2⟩ : ∃ x : ByteArray, (⟨#[97]⟩ : ByteArray) = x := ⟨_, rfl⟩
    obtain ⟨u2, h3⟩ : ∃ x : ByteArray, (⟨#[114, 101, 97, 100, 101, 114]⟩ : ByteArray) = x := ⟨_, rfl⟩
    obtain ⟨y2, h4⟩ : ∃ x : ByteArray, (⟨#[98]⟩ : ByteArray) = x := ⟨_, rfl⟩
    obtain ⟨sb, h5⟩ : ∃ x : ByteArray, (⟨#[66, 111, 97, 116, 115]⟩ : ByteArray) = x := ⟨_, rfl⟩
    have HMg := Lib.hid (show ∀ (A : Option Addr) (n c : Nat) (B : ByteArray), Value.agg (aMs A n c B) = .agg #[.string u1, .string y1, .string u2, .string y2, .int .i64 0, .int .i64 100, .string sb, .slice A n c, .string B] from fun A n c B => by unfold aMs; rw [h1, h2, h3, h4, h5])
    go_wp2_with (first
     | (go_at_call 7; refine HT7.out.mono ?_; rintro e w5 ⟨rfl, ho5⟩; obtain ⟨b6, hb6⟩ : ∃ b, w5.heap.size = b := ⟨_, rfl⟩; obtain ⟨W6, hW6⟩ : ∃ W, w5.alloc (.cells #[.string ⟨#[]⟩, .int .i64 0, .int .i64 0, .int .i64 0, .slice none 0 0] 39) = W := ⟨_, rfl⟩; obtain ⟨W7, hW7⟩ : ∃ W, (((((W6.setCell ⟨b6, 0, none⟩ (.string (tx wBo))).setCell ⟨b6, 1, none⟩ (.int .i64 1)).setCell ⟨b6, 2, none⟩ (.int .i64 1)).setCell ⟨b6, 3, none⟩ (.int .i64 100)).setCell ⟨b6, 4, none⟩ (.slice (some ⟨g4, 0, none⟩) ny c4)) = W := ⟨_, rfl⟩; obtain ⟨bl7, r7, r6⟩ := dg_made hW6 hb6 hW7; have f0 := r6.fz 0; have o0 := r6.cell 0; have f1 := r6.fz 1; have o1 := r6.cell 1; have f2 := r6.fz 2; have o2 := r6.cell 2; have f3 := r6.fz 3; have o3 := r6.cell 3; have f4 := r6.fz 4; have o4 := r6.cell 4; have bel7 : Below w.heap.size w W7 := Below.step (HOW.out.2.2.1.trans (ho5.below HOW.out.2.2.2.2.1 HOW.out.2.2.1.size)) bl7; have k0 := r7.cell 0; have k1 := r7.cell 1; have k2 := r7.cell 2; have k3 := r7.cell 3; have k4 := r7.cell 4; have S7 := Lib.hid (show Own W7 (b + 1) 36 36 cIt (.slice (some ⟨g4, 0, none⟩) ny c4) ys ∧ Own W7 (bs + 1) 36 36 cIt (.slice (some ⟨g8, 0, none⟩) ny c8) ys ∧ Below w.heap.size w W7 from ⟨(Own.one HOW.out.1 ho5 (Nat.lt_succ_self _)).keep bl7, (Own.one HOW.out.2.1 ho5 (Nat.lt_succ_of_lt HOW.out.2.2.2.1)).keep bl7, bel7⟩); have D7 := Lib.hid (show DgM wBo 1 100 ⟨g4, 0, none⟩ c4 ys w W7 from by obtain ⟨A5, c5, e5, -, hsl5⟩ := S7.out.1.sl; injection e5 with e6 e7 e8; exact ⟨hdB, by decide, HW8.out.1, HW8.out.2.1, HW8.out.2.2.1, HW8.out.2.2.2.1, Nat.le_trans HW8.out.2.2.2.2 (by decide), e6 ▸ hsl5, HNY.out ▸ HOW.out.2.2.2.2.2.1, H0.out.2.2.keep S7.out.2.2⟩); clear ho5 bl7 r7 r6 bel7 HT7)
     | (go_at_call 8; refine (HBU.out _ D7.out).mono ?_; rintro e w8 ⟨rfl, hb8⟩; obtain ⟨bm, hbm⟩ : ∃ b, w8.heap.size = b := ⟨_, rfl⟩; obtain ⟨W9, hW9⟩ : ∃ W, w8.alloc (.cells #[.string ⟨#[]⟩, .string ⟨#[]⟩, .string ⟨#[]⟩, .string ⟨#[]⟩, .int .i64 0, .int .i64 0, .string ⟨#[]⟩, .slice none 0 0, .string ⟨#[]⟩] 47) = W := ⟨_, rfl⟩; obtain ⟨W10, hW10⟩ : ∃ W, (((((((((W9.setCell ⟨bm, 0, none⟩ (.string u1)).setCell ⟨bm, 1, none⟩ (.string y1)).setCell ⟨bm, 2, none⟩ (.string u2)).setCell ⟨bm, 3, none⟩ (.string y2)).setCell ⟨bm, 4, none⟩ (.int .i64 0)).setCell ⟨bm, 5, none⟩ (.int .i64 100)).setCell ⟨bm, 6, none⟩ (.string sb)).setCell ⟨bm, 7, none⟩ (.slice none 0 0)).setCell ⟨bm, 8, none⟩ (.string B)) = W := ⟨_, rfl⟩; obtain ⟨bl10, r10, r9⟩ := msg_made (v0 := .string u1) (v1 := .string y1) (v2 := .string u2) (v3 := .string y2) (v4 := .int .i64 0) (v5 := .int .i64 100) (v6 := .string sb) (v7 := .slice none 0 0) (v8 := .string B) hW9 hbm hW10; have i0 := r9.fz 0; have j0 := r9.cell 0; have i1 := r9.fz 1; have j1 := r9.cell 1; have i2 := r9.fz 2; have j2 := r9.cell 2; have i3 := r9.fz 3; have j3 := r9.cell 3; have i4 := r9.fz 4; have j4 := r9.cell 4; have i5 := r9.fz 5; have j5 := r9.cell 5; have i6 := r9.fz 6; have j6 := r9.cell 6; have i7 := r9.fz 7; have j7 := r9.cell 7; have i8 := r9.fz 8; have j8 := r9.cell 8; have S10 := Lib.hid (show LqS w bm bs (fun A n c => [.string u1, .string y1, .string u2, .string y2, .int .i64 0, .int .i64 100, .string sb, .slice A n c, .string B]) (.slice (some ⟨g8, 0, none⟩) ny c8) ys [] none 0 0 (.slice none 0 0) W10 from ⟨r10, Own.nil _ _ _ _ _, Own.nil _ _ _ _ _, fun k hk => (by cases hk), hpl_nil, (S7.out.2.1.keep hb8).keep bl10, fun k hk => hbm ▸ (Own.lt (S7.out.2.1.keep hb8) k hk).2, Below.step (Below.step S7.out.2.2 hb8) bl10, hbm ▸ (Below.step S7.out.2.2 hb8).size⟩); clear bl10 r10 r9 hb8 S7 D7 k0 k1 k2 k3 k4))
    clear HBU HOW
    go_loopw [19, 20, 21, 22, 23, 24, 25, 26, 27, 28, 29, 30] (fun v19 iv _ _ _ _ _ _ _ _ _ _ wr => ∃ i : Nat, i ≤ m ∧ iv = .int .i64 (i : Int) ∧ ∃ ps A na ca, LqS w bm bs (fun A n c => [.string u1, .string y1, .string u2, .string y2, .int .i64 0, .int .i64 100, .string sb, .slice A n c, .string B]) (.slice (some ⟨g8, 0, none⟩) ny c8) ys ps A na ca v19 wr) (fun _ iv _ _ _ _ _ _ _ _ _ _ _ => m - (intOf iv).toNat)
    case atStart => exact ⟨0, Nat.zero_le _, rfl, [], none, 0, 0, S10.out⟩
    case round =>
     clear S10
     obtain ⟨j, hj, rfl, ps, Am, na, ca, hlq⟩ := hrel
     have HQ := Lib.hid hlq
     clear hlq
     by_cases hlt2 : j < m
     ·have hji : (j : Int) < (m : Int) := by omega
      have hjl : j < hp.length := by rw [HN.out.2]; exact hlt2
      obtain ⟨y, hy⟩ : ∃ y : UInt8, hp[j]'hjl = y := ⟨_, rfl⟩
      obtain ⟨ad, rfl, hat⟩ := Sl.at_ (s := 1) (fun _ => rfl) H0.out.2.1 hjl
      obtain ⟨s, hs⟩ : ∃ s : Int, ((y.toNat : Nat) : Int) = s := ⟨_, rfl⟩
      have hc1 : ∀ k, (wr.drewN k).cell? (ad.add j) = some (.int .u8 s) := fun k => by
       have := hat.2 0 _ rfl
       rw [add_of_add, Nat.mul_one, Nat.add_zero, hy] at this
       rw [← hs]
       exact cell_below (cell_below this HQ.out.bel) (below_drewN wr k)
      obtain ⟨q, hq⟩ : ∃ q, y.toNat % 26 = q := ⟨_, rfl⟩
      have hq26 : q < 26 := by omega
      have hs0 : 0 ≤ s := by omega
      have hs1 : s ≤ 255 := by have := y.toNat_lt; omega
      have hqm : s.tmod 26 = (q : Int) := by rw [Int.tmod_eq_emod_of_nonneg hs0]; omega
      have hqw : IntKind.u8.wrap ((q : Int) + 1) = (q : Int) + 1 := by
       simp [IntKind.wrap, IntKind.bits, IntKind.signed]
       omega
      obtain ⟨ab, hab⟩ : ∃ x : ByteArray, (⟨#[97, 98, 99, 100, 101, 102, 103, 104, 105, 106, 107, 108, 109, 110, 111, 112, 113, 114, 115, 116, 117, 118, 119, 120, 121, 122]⟩ : ByteArray) = x := ⟨_, rfl⟩
      have habz : ab.size = 26 := by rw [← hab]; rfl
      obtain ⟨sk, hsk⟩ : ∃ x : ByteArray, tx [UInt8.ofNat (97 + q)] = x := ⟨_, rfl⟩
      have hex : ab.extract q (q + 1) = sk := by rw [← hab, ← hsk]; exact abc_cut q hq26
      obtain ⟨X, hX⟩ : ∃ X : ByteArray, tx (siteK q) = X := ⟨_, rfl⟩
      obtain ⟨ss, hss⟩ : ∃ x : ByteArray, (⟨#[115]⟩ : ByteArray) = x := ⟨_, rfl⟩
      have hap : ss ++ sk = X := by rw [← hss, ← hsk, ← hX, show (⟨#[115]⟩ : ByteArray) = tx [115] from rfl, tx_app]; rfl
      have hz1 : ss.size = 1 := by rw [← hss]; rfl
      have hz2 : sk.size = 1 := by rw [← hsk]; rfl
      have gq0 : (q : Int) ≤ 26 := by omega
      have gq1 : (q : Int) + 1 ≤ 26 := by omega
      have gq2 : ((q : Int) + 1).toNat = q + 1 := by omega
      have HX := Lib.hid (And.intro hX hq26)
      clear hat hy hs hq hsk hX
      obtain ⟨A9, c9, rfl, hc9, hsl9⟩ := HQ.out.own.sl
      obtain ⟨np, hnp⟩ : ∃ k, ps.length = k := ⟨_, rfl⟩
      have hnp2 : (ps.map tx).length = np := by rw [List.length_map, hnp]
      have hnp16 : np ≤ 16 := by rw [← hnp]; exact HQ.out.ok.ok.len
      rw [hnp2] at HQ ⊢
      have HNP := Lib.hid (And.intro hnp hnp2)
      clear hnp hnp2 hc9 hsl9
      go_wp2
      go_quiet (fail)
      have hq2 := HQ.out.keep (below_drewN wr nq)
      clear HQ hc1 hqm hqw hex hap hz1 hz2 gq0 gq1 gq2 habz hs0 hs1
      revert hq2
      generalize wr.drewN nq = w3
      intro hq2
      have m0 : w3.cell? ⟨bm, 0, none⟩ = some (.string u1) := (hq2.msg).cell 0
      have m1 : w3.cell? ⟨bm, 1, none⟩ = some (.string y1) := (hq2.msg).cell 1
      have m2 : w3.cell? ⟨bm, 2, none⟩ = some (.string u2) := (hq2.msg).cell 2
      have m3 : w3.cell? ⟨bm, 3, none⟩ = some (.string y2) := (hq2.msg).cell 3
      have m4 : w3.cell? ⟨bm, 4, none⟩ = some (.int .i64 0) := (hq2.msg).cell 4
      have m5 : w3.cell? ⟨bm, 5, none⟩ = some (.int .i64 100) := (hq2.msg).cell 5
      have m6 : w3.cell? ⟨bm, 6, none⟩ = some (.string sb) := (hq2.msg).cell 6
      have m7 : w3.cell? ⟨bm, 7, none⟩ = some (.slice Am na ca) := (hq2.msg).cell 7
      have m8 : w3.cell? ⟨bm, 8, none⟩ = some (.string B) := (hq2.msg).cell 8
      have HQ := Lib.hid hq2
      clear hq2 hab hss
      have hBl : (lnT (dgL wBo 1 100 ys)).length ≤ 32768 := HW8.out.2.2.2.2
      obtain ⟨S, hS⟩ : ∃ S, tx (msT ps (lnT (dgL wBo 1 100 ys))) = S := ⟨_, rfl⟩
      have p0 := fun (u : World) (hu : Ldz w u) (h : HpS u (.slice Am na ca) ps) => print9 Am na ca (lnT (dgL wBo 1 100 ys)) ps w u hu h HQ.out.ok hBl
      have p1 := fun (u : World) (hu : Ldz w u) => parse10 (lnT (dgL wBo 1 100 ys)) ps w u hu HQ.out.ok hBl
      have p2 := fun (A' : Option Addr) (n' c' : Nat) (u : World) (h : HpS u (.slice A' n' c') ps) (h' : HpS u (.slice Am na ca) ps) => equal11 A' Am n' c' na ca B ps u h h' (Nat.le_trans HQ.out.ok.ok.len (by decide))
      simp only [hS, HB.out, HMg.out] at p0 p1 p2
      have PC := Lib.hid (And.intro p0 (And.intro p1 p2))
      clear p0 p1 p2 hS hBl
      go_wp2_with (first
       | (go_at_call 9; refine (PC.out.1 _ (H0.out.2.2.keep HQ.out.bel) HQ.out.hps).mono ?_; rintro e w4 ⟨rfl, hb4⟩; have S4 := Lib.hid (HQ.out.keep hb4); clear hb4 m0 m1 m2 m3 m4 m5 m6 m7 m8)
       | (go_at_call 10; refine (PC.out.2.1 _ (H0.out.2.2.keep S4.out.bel)).mono ?_; rintro e w5 ⟨A5, n5, c5, rfl, hh5, hb5⟩; obtain ⟨b24, hb24⟩ : ∃ b, w5.heap.size = b := ⟨_, rfl⟩; obtain ⟨W6, hW6⟩ : ∃ W, w5.alloc (.cells #[.string ⟨#[]⟩, .string ⟨#[]⟩, .string ⟨#[]⟩, .string ⟨#[]⟩, .int .i64 0, .int .i64 0, .string ⟨#[]⟩, .slice none 0 0, .string ⟨#[]⟩] 47) = W := ⟨_, rfl⟩; obtain ⟨W7, hW7⟩ : ∃ W, (((((((((W6.setCell ⟨b24, 0, none⟩ (.string u1)).setCell ⟨b24, 1, none⟩ (.string y1)).setCell ⟨b24, 2, none⟩ (.string u2)).setCell ⟨b24, 3, none⟩ (.string y2)).setCell ⟨b24, 4, none⟩ (.int .i64 0)).setCell ⟨b24, 5, none⟩ (.int .i64 100)).setCell ⟨b24, 6, none⟩ (.string sb)).setCell ⟨b24, 7, none⟩ (.slice A5 n5 c5)).setCell ⟨b24, 8, none⟩ (.string B)) = W := ⟨_, rfl⟩; obtain ⟨bl7, r7, r6⟩ := msg_made (v0 := .string u1) (v1 := .string y1) (v2 := .string u2) (v3 := .string y2) (v4 := .int .i64 0) (v5 := .int .i64 100) (v6 := .string sb) (v7 := .slice A5 n5 c5) (v8 := .string B) hW6 hb24 hW7; have i0 := r6.fz 0; have j0 := r6.cell 0; have i1 := r6.fz 1; have j1 := r6.cell 1; have i2 := r6.fz 2; have j2 := r6.cell 2; have i3 := r6.fz 3; have j3 := r6.cell 3; have i4 := r6.fz 4; have j4 := r6.cell 4; have i5 := r6.fz 5; have j5 := r6.cell 5; have i6 := r6.fz 6; have j6 := r6.cell 6; have i7 := r6.fz 7; have j7 := r6.cell 7; have i8 := r6.fz 8; have j8 := r6.cell 8; have l7 := (S4.out.keep hb5).keep bl7; have a0 := r7.cell 0; have a1 := r7.cell 1; have a2 := r7.cell 2; have a3 := r7.cell 3; have a4 := r7.cell 4; have a5 := r7.cell 5; have a6 := r7.cell 6; have a7 := r7.cell 7; have a8 := r7.cell 8; have m0 : W7.cell? ⟨bm, 0, none⟩ = some (.string u1) := (l7.msg).cell 0; have m1 : W7.cell? ⟨bm, 1, none⟩ = some (.string y1) := (l7.msg).cell 1; have m2 : W7.cell? ⟨bm, 2, none⟩ = some (.string u2) := (l7.msg).cell 2; have m3 : W7.cell? ⟨bm, 3, none⟩ = some (.string y2) := (l7.msg).cell 3; have m4 : W7.cell? ⟨bm, 4, none⟩ = some (.int .i64 0) := (l7.msg).cell 4; have m5 : W7.cell? ⟨bm, 5, none⟩ = some (.int .i64 100) := (l7.msg).cell 5; have m6 : W7.cell? ⟨bm, 6, none⟩ = some (.string sb) := (l7.msg).cell 6; have m7 : W7.cell? ⟨bm, 7, none⟩ = some (.slice Am na ca) := (l7.msg).cell 7; have m8 : W7.cell? ⟨bm, 8, none⟩ = some (.string B) := (l7.msg).cell 8; have S7 := Lib.hid (show LqS w bm bs (fun A n c => [.string u1, .string y1, .string u2, .string y2, .int .i64 0, .int .i64 100, .string sb, .slice A n c, .string B]) (.slice (some ⟨g8, 0, none⟩) ny c8) ys ps Am na ca (.slice A9 np c9) W7 ∧ Row W7 b24 [.string u1, .string y1, .string u2, .string y2, .int .i64 0, .int .i64 100, .string sb, .slice A5 n5 c5, .string B] 47 ∧ HpS W7 (.slice A5 n5 c5) ps ∧ bm < b24 from ⟨l7, r7, hh5.keep bl7, hb24 ▸ (S4.out.keep hb5).msg.lt⟩); clear bl7 r7 r6 l7 hh5 hb5)
       | (go_at_call 11; refine (PC.out.2.2 A5 n5 c5 _ S7.out.2.2.1 S7.out.1.hps).mono ?_; rintro e w8 ⟨rfl, hb8⟩; have S8 := Lib.hid (show LqS w bm bs (fun A n c => [.string u1, .string y1, .string u2, .string y2, .int .i64 0, .int .i64 100, .string sb, .slice A n c, .string B]) (.slice (some ⟨g8, 0, none⟩) ny c8) ys ps Am na ca (.slice A9 np c9) w8 ∧ Row w8 b24 [.string u1, .string y1, .string u2, .string y2, .int .i64 0, .int .i64 100, .string sb, .slice A5 n5 c5, .string B] 47 ∧ HpS w8 (.slice A5 n5 c5) ps ∧ bm < b24 from ⟨S7.out.1.keep hb8, S7.out.2.1.keep hb8, S7.out.2.2.1.keep hb8, S7.out.2.2.2⟩); clear m0 m1 m2 m3 m4 m5 m6 m7 m8 a0 a1 a2 a3 a4 a5 a6 a7 a8 hb8))
      go_loopw [27, 28] (fun bv kv wr4 => ∃ k : Nat, k ≤ np ∧ kv = .int .i64 (k : Int) ∧ bv = .bool (decide (siteK q ∈ ps.take k)) ∧ wr4 = w8) (fun _ kv _ => np - (intOf kv).toNat)
      case atStart => exact ⟨0, Nat.zero_le _, rfl, by simp, rfl⟩
      case round =>
       obtain ⟨k, hk, rfl, rfl, hwr⟩ := hrel
       obtain rfl := hwr.symm
       obtain ⟨bb, hbb⟩ : ∃ x : Bool, decide (siteK q ∈ ps.take k) = x := ⟨_, rfl⟩
       rw [hbb]
       have HBB := Lib.hid hbb
       clear hbb
       by_cases hlk : k < np
       ·have hki : (k : Int) < (np : Int) := by omega
        have hkh : k < ps.length := by rw [HNP.out.1]; exact hlk
        obtain ⟨A', c', e', -, hsl⟩ := S8.out.1.own.sl
        injection e' with e1 e2 e3
        have hkm : k < (ps.map tx).length := by rw [List.length_map]; exact hkh
        obtain ⟨ad9, ea9, hat9⟩ := Sl.at_ cS_length hsl hkm
        rw [ea9] at e1
        have hz9 : w8.cell? (ad9.add k) = some (.string (tx ps[k])) := by
         have := hat9.2 0 _ rfl
         rw [add_of_add, Nat.mul_one, Nat.add_zero, List.getElem_map] at this
         exact this
        subst e1
        have hsn : siteK q ∈ ps.take (k + 1) ↔ siteK q ∈ ps.take k ∨ ps[k] = siteK q := by
         rw [List.take_succ_eq_append_getElem hkh, List.mem_append, List.mem_singleton]
         exact ⟨fun h => h.imp id Eq.symm, fun h => h.imp id Eq.symm⟩
        have HSN := Lib.hid hsn
        clear hsn hsl hat9 ea9 e2 e3 hkm
        cases bb with
        | true =>
         clear hz9
         go_wp2
         go_roundw
         case rel => exact ⟨k + 1, hlk, by go_num, by rw [decide_eq_true (HSN.out.2 (.inl (of_decide_eq_true HBB.out)))], by first | rfl | trivial⟩
         case measure => simp [intOf]; omega
        | false =>
         obtain ⟨z, hz⟩ : ∃ z, tx ps[k] = z := ⟨_, rfl⟩
         obtain ⟨d, hd⟩ : ∃ d : Bool, decide (ps[k] = siteK q) = d := ⟨_, rfl⟩
         have hbe : (z.toList == X.toList) = d := by
          rw [← hz, ← HX.out.1, tx_beq, hd]
         rw [hz] at hz9
         have HD := Lib.hid hd
         clear hz hd
         go_wp2
         go_roundw
         case rel =>
          refine ⟨k + 1, hlk, by go_num, ?_, by first | rfl | trivial⟩
          have hnb : ¬ siteK q ∈ ps.take k := of_decide_eq_false HBB.out
          congr 1
          rw [← HD.out]
          exact decide_eq_decide.2 ⟨fun h => HSN.out.2 (.inr h), fun h => (HSN.out.1 h).resolve_left hnb⟩
         case measure => simp [intOf]; omega
       ·obtain rfl : k = np := by omega
        have htk : ps.take k = ps := List.take_of_length_le (by rw [HNP.out.1]; exact Nat.le_refl _)
        rw [htk] at HBB
        have HZB := Lib.hid (show B.size ≤ 32768 from by rw [← HB.out, tx_size]; exact HW8.out.2.2.2.2)
        have HSK := Lib.hid (siteK_ok q HX.out.2)
        have t0 : w8.cell? ⟨b24, 0, none⟩ = some (.string u1) := S8.out.2.1.cell 0
        have t1 : w8.cell? ⟨b24, 1, none⟩ = some (.string y1) := S8.out.2.1.cell 1
        have t2 : w8.cell? ⟨b24, 2, none⟩ = some (.string u2) := S8.out.2.1.cell 2
        have t3 : w8.cell? ⟨b24, 3, none⟩ = some (.string y2) := S8.out.2.1.cell 3
        have t4 : w8.cell? ⟨b24, 4, none⟩ = some (.int .i64 0) := S8.out.2.1.cell 4
        have t5 : w8.cell? ⟨b24, 5, none⟩ = some (.int .i64 100) := S8.out.2.1.cell 5
        have t6 : w8.cell? ⟨b24, 6, none⟩ = some (.string sb) := S8.out.2.1.cell 6
        have t7 : w8.cell? ⟨b24, 7, none⟩ = some (.slice A5 n5 c5) := S8.out.2.1.cell 7
        have t8 : w8.cell? ⟨b24, 8, none⟩ = some (.string B) := S8.out.2.1.cell 8
        cases bb with
        | true =>
         have q0 := fun (u : World) (h : HpS u (.slice A5 n5 c5) ps) => pass12_loop A5 n5 c5 B ps (siteK q) u h S8.out.1.ok.ok HZB.out HSK.out.1 (show 2 ≤ 30 by decide) (of_decide_eq_true HBB.out)
         simp only [HX.out.1, HMg.out, vZM] at q0
         go_wp2_with (go_at_call 12; refine (q0 _ S8.out.2.2.1).mono ?_; clear q0; rintro e w9 ⟨rfl, hb9⟩; obtain ⟨b29, hb29⟩ : ∃ b, w9.heap.size = b := ⟨_, rfl⟩; obtain ⟨W10, hW10'⟩ : ∃ W, w9.alloc (.cells #[.string ⟨#[]⟩, .string ⟨#[]⟩, .string ⟨#[]⟩, .string ⟨#[]⟩, .int .i64 0, .int .i64 0, .string ⟨#[]⟩, .slice none 0 0, .string ⟨#[]⟩] 47) = W := ⟨_, rfl⟩; obtain ⟨W11, hW11⟩ : ∃ W, (((((((((W10.setCell ⟨b29, 0, none⟩ (.string ⟨#[]⟩)).setCell ⟨b29, 1, none⟩ (.string ⟨#[]⟩)).setCell ⟨b29, 2, none⟩ (.string ⟨#[]⟩)).setCell ⟨b29, 3, none⟩ (.string ⟨#[]⟩)).setCell ⟨b29, 4, none⟩ (.int .i64 0)).setCell ⟨b29, 5, none⟩ (.int .i64 0)).setCell ⟨b29, 6, none⟩ (.string ⟨#[]⟩)).setCell ⟨b29, 7, none⟩ (.slice none 0 0)).setCell ⟨b29, 8, none⟩ (.string ⟨#[]⟩)) = W := ⟨_, rfl⟩; obtain ⟨bl11, r11, r10'⟩ := msg_made (v0 := .string ⟨#[]⟩) (v1 := .string ⟨#[]⟩) (v2 := .string ⟨#[]⟩) (v3 := .string ⟨#[]⟩) (v4 := .int .i64 0) (v5 := .int .i64 0) (v6 := .string ⟨#[]⟩) (v7 := .slice none 0 0) (v8 := .string ⟨#[]⟩) hW10' hb29 hW11; have i0 := r10'.fz 0; have j0 := r10'.cell 0; have i1 := r10'.fz 1; have j1 := r10'.cell 1; have i2 := r10'.fz 2; have j2 := r10'.cell 2; have i3 := r10'.fz 3; have j3 := r10'.cell 3; have i4 := r10'.fz 4; have j4 := r10'.cell 4; have i5 := r10'.fz 5; have j5 := r10'.cell 5; have i6 := r10'.fz 6; have j6 := r10'.cell 6; have i7 := r10'.fz 7; have j7 := r10'.cell 7; have i8 := r10'.fz 8; have j8 := r10'.cell 8; have S11 := Lib.hid ((S8.out.1.keep hb9).keep bl11); clear bl11 r11 r10' hb9 t0 t1 t2 t3 t4 t5 t6 t7 t8)
         go_roundw
         case rel => exact ⟨j + 1, hlt2, by go_num, ps, Am, na, ca, S11.out⟩
         case measure => simp [intOf]; omega
        | false =>
         have hnm : siteK q ∉ ps := of_decide_eq_false HBB.out
         by_cases h16 : k = 16
         ·have q0 := fun (u : World) (h : HpS u (.slice A5 n5 c5) ps) => pass12_limit A5 n5 c5 B ps (siteK q) u h S8.out.1.ok.ok HZB.out HSK.out.1 (show 2 ≤ 30 by decide) hnm (by rw [HNP.out.1]; exact h16)
          simp only [HX.out.1, HMg.out, vZM] at q0
          have h16i : (k : Int) = 16 := by omega
          have HNM := Lib.hid hnm
          have H16 := Lib.hid h16
          clear hnm h16
          go_wp2_with (go_at_call 12; refine (q0 _ S8.out.2.2.1).mono ?_; clear q0; rintro e w9 ⟨rfl, hb9⟩; obtain ⟨b29, hb29⟩ : ∃ b, w9.heap.size = b := ⟨_, rfl⟩; obtain ⟨W10, hW10'⟩ : ∃ W, w9.alloc (.cells #[.string ⟨#[]⟩, .string ⟨#[]⟩, .string ⟨#[]⟩, .string ⟨#[]⟩, .int .i64 0, .int .i64 0, .string ⟨#[]⟩, .slice none 0 0, .string ⟨#[]⟩] 47) = W := ⟨_, rfl⟩; obtain ⟨W11, hW11⟩ : ∃ W, (((((((((W10.setCell ⟨b29, 0, none⟩ (.string ⟨#[]⟩)).setCell ⟨b29, 1, none⟩ (.string ⟨#[]⟩)).setCell ⟨b29, 2, none⟩ (.string ⟨#[]⟩)).setCell ⟨b29, 3, none⟩ (.string ⟨#[]⟩)).setCell ⟨b29, 4, none⟩ (.int .i64 0)).setCell ⟨b29, 5, none⟩ (.int .i64 0)).setCell ⟨b29, 6, none⟩ (.string ⟨#[]⟩)).setCell ⟨b29, 7, none⟩ (.slice none 0 0)).setCell ⟨b29, 8, none⟩ (.string ⟨#[]⟩)) = W := ⟨_, rfl⟩; obtain ⟨bl11, r11, r10'⟩ := msg_made (v0 := .string ⟨#[]⟩) (v1 := .string ⟨#[]⟩) (v2 := .string ⟨#[]⟩) (v3 := .string ⟨#[]⟩) (v4 := .int .i64 0) (v5 := .int .i64 0) (v6 := .string ⟨#[]⟩) (v7 := .slice none 0 0) (v8 := .string ⟨#[]⟩) hW10' hb29 hW11; have i0 := r10'.fz 0; have j0 := r10'.cell 0; have i1 := r10'.fz 1; have j1 := r10'.cell 1; have i2 := r10'.fz 2; have j2 := r10'.cell 2; have i3 := r10'.fz 3; have j3 := r10'.cell 3; have i4 := r10'.fz 4; have j4 := r10'.cell 4; have i5 := r10'.fz 5; have j5 := r10'.cell 5; have i6 := r10'.fz 6; have j6 := r10'.cell 6; have i7 := r10'.fz 7; have j7 := r10'.cell 7; have i8 := r10'.fz 8; have j8 := r10'.cell 8; have S11 := Lib.hid ((S8.out.1.keep hb9).keep bl11); clear bl11 r11 r10' hb9 t0 t1 t2 t3 t4 t5 t6 t7 t8)
          go_roundw
          case rel => exact ⟨j + 1, hlt2, by go_num, ps, Am, na, ca, S11.out⟩
          case measure => simp [intOf]; omega
         ·have q0 := fun (u : World) (h : HpS u (.slice A5 n5 c5) ps) => pass12 A5 n5 c5 B ps (siteK q) u h S8.out.1.ok.ok HZB.out HSK.out.1 (show 2 ≤ 30 by decide) hnm (by rw [HNP.out.1]; omega)
          simp only [HX.out.1, HMg.out] at q0
          have h16i : ¬ (k : Int) = 16 := by omega
          have HK16 := Lib.hid (show k < 16 by omega)
          have HPA := Lib.hid (S8.out.1.ok.add (x := siteK q) ⟨rfl, HSK.out.2, HSK.out.1⟩ hnm (by rw [HNP.out.1]; omega))
          clear hnm h16
          go_wp2_with (go_at_call 12; refine (q0 _ S8.out.2.2.1).mono ?_; clear q0; rintro e w9 ⟨A6, n6, c6, rfl, ho6, hb9⟩; obtain ⟨b29, hb29⟩ : ∃ b, w9.heap.size = b := ⟨_, rfl⟩; obtain ⟨W10, hW10'⟩ : ∃ W, w9.alloc (.cells #[.string ⟨#[]⟩, .string ⟨#[]⟩, .string ⟨#[]⟩, .string ⟨#[]⟩, .int .i64 0, .int .i64 0, .string ⟨#[]⟩, .slice none 0 0, .string ⟨#[]⟩] 47) = W := ⟨_, rfl⟩; obtain ⟨W11, hW11⟩ : ∃ W, (((((((((W10.setCell ⟨b29, 0, none⟩ (.string u1)).setCell ⟨b29, 1, none⟩ (.string y1)).setCell ⟨b29, 2, none⟩ (.string u2)).setCell ⟨b29, 3, none⟩ (.string y2)).setCell ⟨b29, 4, none⟩ (.int .i64 0)).setCell ⟨b29, 5, none⟩ (.int .i64 100)).setCell ⟨b29, 6, none⟩ (.string sb)).setCell ⟨b29, 7, none⟩ (.slice A6 n6 c6)).setCell ⟨b29, 8, none⟩ (.string B)) = W := ⟨_, rfl⟩; obtain ⟨bl11, r11, r10'⟩ := msg_made (v0 := .string u1) (v1 := .string y1) (v2 := .string u2) (v3 := .string y2) (v4 := .int .i64 0) (v5 := .int .i64 100) (v6 := .string sb) (v7 := .slice A6 n6 c6) (v8 := .string B) hW10' hb29 hW11; have i0 := r10'.fz 0; have j0 := r10'.cell 0; have i1 := r10'.fz 1; have j1 := r10'.cell 1; have i2 := r10'.fz 2; have j2 := r10'.cell 2; have i3 := r10'.fz 3; have j3 := r10'.cell 3; have i4 := r10'.fz 4; have j4 := r10'.cell 4; have i5 := r10'.fz 5; have j5 := r10'.cell 5; have i6 := r10'.fz 6; have j6 := r10'.cell 6; have i7 := r10'.fz 7; have j7 := r10'.cell 7; have i8 := r10'.fz 8; have j8 := r10'.cell 8; have Q1 := Lib.hid (show QC w bm bs b29 (fun A n c => [.string u1, .string y1, .string u2, .string y2, .int .i64 0, .int .i64 100, .string sb, .slice A n c, .string B]) (.slice (some ⟨g8, 0, none⟩) ny c8) ys ps (siteK q) Am na ca (.slice A9 k c9) A6 n6 c6 W11 from ⟨(S8.out.1.keep hb9).keep bl11, (ho6.keep bl11).mono (Nat.succ_le_of_lt S8.out.1.msg.lt), fun m hm e2 => (by have h1 := (Own.lt S8.out.1.own m hm).2; have h2 := (Own.lt ho6 m e2).1; omega), r11, hb29 ▸ (S8.out.1.keep hb9).msg.lt, HPA.out⟩); clear bl11 r11 r10' hb9 ho6 t0 t1 t2 t3 t4 t5 t6 t7 t8)
          obtain ⟨bq, hbq⟩ : ∃ b, W11.heap.size = b := ⟨_, rfl⟩
          refine AnyO.wp_anyI (by kernel_rfl) (by kernel_rfl) (AnyO.InvG (σ := Value) (fun σ => AnyO.pvL [some (.agg #[.string u1, .string y1, .string u2, .string y2, .int .i64 0, .int .i64 100, .string sb, .slice A6 n6 c6, .string B]), some (.slice A9 k c9), some (.string X), some (.slice (some ⟨bq, 0, none⟩) 1 1), some (σ), none, some (σ)]) (fun σ D u => QW w bm bs b29 (fun A n c => [.string u1, .string y1, .string u2, .string y2, .int .i64 0, .int .i64 100, .string sb, .slice A n c, .string B]) (.slice (some ⟨g8, 0, none⟩) ny c8) ys ps (siteK q) Am na ca (.slice A9 k c9) A6 n6 c6 W11 σ u (D 3) (D 4) (D 5))) (AnyO.InvG.start (g := .slice none 0 0) (⟨below_drew _, rfl⟩)) ?_ ?_
          ·intro i hi
           have hi2 : i = 0 ∨ i = 3 ∨ i = 4 ∨ i = 5 ∨ i = 1 ∨ i = 2 ∨ i = 6 := by simp only [List.size_toArray, List.length_cons, List.length_nil] at hi; omega
           clear hi
           rcases hi2 with rfl | rfl | rfl | rfl | rfl | rfl | rfl
           ·refine AnyO.I rfl [] ?_; rintro D vs u σ Q h0 hC hp ac hb K hK
            have s29 := AnyO.sz (v := .pointer (some ⟨b29, 0, none⟩)) 29 hb
            have hf5 := AnyO.fls (hC.out 5) h0 (by kernel_rfl)
            have hst := Q.out.2
            rw [hf5] at hst
            have hrw := QW.r29 Q1.out hst
            have rr0 : u.cell? ⟨b29, 0, none⟩ = some (.string u1) := hrw.cell 0
            have rr1 : u.cell? ⟨b29, 1, none⟩ = some (.string y1) := hrw.cell 1
            have rr2 : u.cell? ⟨b29, 2, none⟩ = some (.string u2) := hrw.cell 2
            have rr3 : u.cell? ⟨b29, 3, none⟩ = some (.string y2) := hrw.cell 3
            have rr4 : u.cell? ⟨b29, 4, none⟩ = some (.int .i64 0) := hrw.cell 4
            have rr5 : u.cell? ⟨b29, 5, none⟩ = some (.int .i64 100) := hrw.cell 5
            have rr6 : u.cell? ⟨b29, 6, none⟩ = some (.string sb) := hrw.cell 6
            have rr7 : u.cell? ⟨b29, 7, none⟩ = some (.slice A6 n6 c6) := hrw.cell 7
            have rr8 : u.cell? ⟨b29, 8, none⟩ = some (.string B) := hrw.cell 8
            clear hst hrw hf5
            go_simp; exact hK _ _ (AnyO.InvG.step (g := σ) Q.out.1 rfl Q.out.2)
           ·refine AnyO.I rfl [2] ?_; rintro D vs u σ Q h0 hC hp ac hb K hK
            have s200 : _ = _ := AnyO.sv 200 2 hb hp Q
            have hf4 := AnyO.fls (hC.out 4) h0 (by kernel_rfl)
            have hst := Q.out.2
            rw [h0] at hst
            have HST := Lib.hid hst
            have hsz := hst.2
            have HF4 := Lib.hid hf4
            clear hst hf4
            go_simp
            refine hK _ _ (AnyO.InvG.step (g := σ) Q.out.1 rfl ?_)
            rw [show AnyO.addD D 3 3 = true from rfl, show AnyO.addD D 3 4 = D 4 from rfl, HF4.out, show AnyO.addD D 3 5 = D 5 from rfl]
            exact HX.out.1 ▸ HST.out.made
           ·refine AnyO.I rfl [1, 3] ?_; rintro D vs u σ Q h0 hC hp ac hb K hK
            have s199 : _ = _ := AnyO.sv 199 1 hb hp Q
            have s201 : _ = _ := AnyO.sv 201 3 hb hp Q
            have hp3 : D 3 = true := hp.out 3 (by decide)
            have hf5 := AnyO.fls (hC.out 5) h0 (by kernel_rfl)
            have hf6 := AnyO.fls (hC.out 6) h0 (by kernel_rfl)
            have hst := Q.out.2
            rw [hp3, h0] at hst
            refine wp_append_sl_at u (.tmp 199) (.tmp 201) 29 rfl (bm + 1) 9 1 16 cS underSs rowS (by decide) cS_length cS_one (.slice A9 k c9) (ps.map tx) (ev_tmp s199) (Q1.out.l.keep hst.1).own _ 1 1 [tx (siteK q)] rfl (by simp) (ev_tmp s201) (hbq ▸ hst.2) (by have := HNP.out.2; have := HK16.out; omega) (by have := HNP.out.2; have := HK16.out; omega) (by have := (Q1.out.l.keep hst.1).msg.lt; omega) ?_
            intro v9 w9 ho9 hg9 ha9
            refine hK _ _ (AnyO.InvG.ghost (g := σ) v9 Q.out.1 ?_ rfl ?_)
            ·intro j hj hq
             rcases j with _ | _ | _ | _ | _ | _ | _ | j
             all_goals first | exact hq | exact absurd (show D 4 = true from hj) (by rw [h0]; decide) | exact absurd (show D 5 = true from hj) (by rw [hf5]; decide) | exact absurd (show D 6 = true from hj) (by rw [hf6]; decide)
            rw [show AnyO.addD D 4 3 = D 3 from rfl, hp3, show AnyO.addD D 4 4 = true from rfl, show AnyO.addD D 4 5 = D 5 from rfl, hf5]
            exact QW.grew Q1.out hst ho9 hg9 ha9
           ·refine AnyO.I rfl [0, 4, 0] ?_; rintro D vs u σ Q h0 hC hp ac hb K hK
            have s18 := AnyO.sz (v := .pointer (some ⟨bm, 0, none⟩)) 18 hb
            have s198 : _ = _ := AnyO.sv 198 0 hb hp Q
            have hp4 : D 4 = true := hp.out 4 (by decide)
            have hp3 : D 3 = true := hC.out 4 hp4 3 (by rw [show AnyO.pre _ 4 = [1, 3] from by kernel_rfl]; decide)
            have hst := Q.out.2
            rw [hp3, hp4, h0] at hst
            have hrw := hst.1
            have rr0 : u.cell? ⟨bm, 0, none⟩ = some (.string u1) := hrw.cell 0; have rf0 := hrw.fz 0
            have rr1 : u.cell? ⟨bm, 1, none⟩ = some (.string y1) := hrw.cell 1; have rf1 := hrw.fz 1
            have rr2 : u.cell? ⟨bm, 2, none⟩ = some (.string u2) := hrw.cell 2; have rf2 := hrw.fz 2
            have rr3 : u.cell? ⟨bm, 3, none⟩ = some (.string y2) := hrw.cell 3; have rf3 := hrw.fz 3
            have rr4 : u.cell? ⟨bm, 4, none⟩ = some (.int .i64 0) := hrw.cell 4; have rf4 := hrw.fz 4
            have rr5 : u.cell? ⟨bm, 5, none⟩ = some (.int .i64 100) := hrw.cell 5; have rf5 := hrw.fz 5
            have rr6 : u.cell? ⟨bm, 6, none⟩ = some (.string sb) := hrw.cell 6; have rf6 := hrw.fz 6
            have rr7 : u.cell? ⟨bm, 7, none⟩ = some (.slice Am na ca) := hrw.cell 7; have rf7 := hrw.fz 7
            have rr8 : u.cell? ⟨bm, 8, none⟩ = some (.string B) := hrw.cell 8; have rf8 := hrw.fz 8
            have HST := Lib.hid hst
            clear hst hrw
            go_simp
            exact hK undef _ (AnyO.InvG.step (g := σ) Q.out.1 trivial (by rw [show AnyO.addD D 5 3 = D 3 from rfl, hp3, show AnyO.addD D 5 4 = D 4 from rfl, hp4, show AnyO.addD D 5 5 = true from rfl]; exact QW.stored Q1.out rfl rfl HST.out))
           all_goals
            refine AnyO.J rfl ?_; rintro D vs u σ Q h0 hC hp ac hb K hK
            try have s19 : ac.tmps[19]?.getD undef = .slice A9 k c9 := by rw [hb.out]; kernel_rfl
            try have s21 : ac.tmps[21]?.getD undef = .string X := by rw [hb.out]; kernel_rfl
            try have s202 : _ = _ := AnyO.sv 202 4 hb hp Q
            go_simp
            exact hK _ _ (AnyO.InvG.step (g := σ) Q.out.1 rfl Q.out.2)
          ·intro D vs u hI hD
           obtain ⟨σ, hP, hW⟩ := hI
           have e0 : _ = _ := hP 0 (hD 0 (by decide))
           have e1 : _ = _ := hP 1 (hD 1 (by decide))
           have e2 : _ = _ := hP 2 (hD 2 (by decide))
           have e3 : _ = _ := hP 3 (hD 3 (by decide))
           have e4 : _ = _ := hP 4 (hD 4 (by decide))
           have e6 : _ = _ := hP 6 (hD 6 (by decide))
           rw [show D 3 = true from hD 3 (by decide), show D 4 = true from hD 4 (by decide), show D 5 = true from hD 5 (by decide)] at hW
           have HW := Lib.hid hW
           clear hW hP hD
           rw [puts_range [some 198, some 199, some 200, some 201, some 202, none, some 19] (by kernel_rfl)]
           simp only [putL, Nat.reduceAdd, e0, e1, e2, e3, e4, e6]
           clear e0 e1 e2 e3 e4 e6
           go_simp
           go_wp2
           go_roundw
           case rel => exact ⟨j + 1, hlt2, by go_num, ps ++ [siteK q], A6, n6, c6, HW.out⟩
           case measure => simp [intOf]; omega
     ·obtain rfl : j = m := by omega
      obtain ⟨A9, c9, rfl, hc9, hsl9⟩ := HQ.out.own.sl
      obtain ⟨np, hnp⟩ : ∃ k, ps.length = k := ⟨_, rfl⟩
      have hnp2 : (ps.map tx).length = np := by rw [List.length_map, hnp]
      have hna : na = np := by
       obtain ⟨A2, c2, e2, -, -⟩ := HQ.out.hop.sl
       injection e2 with e3 e4 e5
       rw [e4, hnp2]
      rw [hnp2] at HQ ⊢
      subst hna
      clear hnp hnp2 hc9 hsl9
      have m0 : wr.cell? ⟨bm, 0, none⟩ = some (.string u1) := (HQ.out.msg).cell 0
      have m1 : wr.cell? ⟨bm, 1, none⟩ = some (.string y1) := (HQ.out.msg).cell 1
      have m2 : wr.cell? ⟨bm, 2, none⟩ = some (.string u2) := (HQ.out.msg).cell 2
      have m3 : wr.cell? ⟨bm, 3, none⟩ = some (.string y2) := (HQ.out.msg).cell 3
      have m4 : wr.cell? ⟨bm, 4, none⟩ = some (.int .i64 0) := (HQ.out.msg).cell 4
      have m5 : wr.cell? ⟨bm, 5, none⟩ = some (.int .i64 100) := (HQ.out.msg).cell 5
      have m6 : wr.cell? ⟨bm, 6, none⟩ = some (.string sb) := (HQ.out.msg).cell 6
      have m7 : wr.cell? ⟨bm, 7, none⟩ = some (.slice Am na ca) := (HQ.out.msg).cell 7
      have m8 : wr.cell? ⟨bm, 8, none⟩ = some (.string B) := (HQ.out.msg).cell 8
      have HBR := Lib.hid (fun (u : World) (hu : Ldz w u) => (by have := burst13 w u wBo 1 100 ys hu ⟨hdB, by decide, HW8.out.1, HW8.out.2.1, HW8.out.2.2.1, HW8.out.2.2.2.1⟩ (Nat.le_trans HW8.out.2.2.2.2 (by decide)); rw [HB.out] at this; exact this : Calls Tryz.prog 13 #[.string B] u fun e w' => ∃ v, e = .returned (.tuple #[.agg #[.string (tx wBo), .int .i64 1, .int .i64 1, .int .i64 100, v], .int .i64 0, .int .i64 0]) ∧ Own w' u.heap.size 36 36 cIt v ys ∧ Below u.heap.size u w'))
      clear h1 h2 h3 h4 h5
      go_wp2_with (go_at_call 13; refine (HBR.out _ (H0.out.2.2.keep HQ.out.bel)).mono ?_; rintro e w5 ⟨v5, rfl, ho5, hb5⟩; obtain ⟨g5, c5, rfl, hc5, hg5, hgl5, -⟩ := own_it ho5 HW8.out.1; rw [HNY.out] at ho5 ⊢; obtain ⟨b31, hb31⟩ : ∃ b, w5.heap.size = b := ⟨_, rfl⟩; obtain ⟨W6, hW6⟩ : ∃ W, w5.alloc (.cells #[.string ⟨#[]⟩, .int .i64 0, .int .i64 0, .int .i64 0, .slice none 0 0] 39) = W := ⟨_, rfl⟩; obtain ⟨W7, hW7⟩ : ∃ W, (((((W6.setCell ⟨b31, 0, none⟩ (.string (tx wBo))).setCell ⟨b31, 1, none⟩ (.int .i64 1)).setCell ⟨b31, 2, none⟩ (.int .i64 1)).setCell ⟨b31, 3, none⟩ (.int .i64 100)).setCell ⟨b31, 4, none⟩ (.slice (some ⟨g5, 0, none⟩) ny c5)) = W := ⟨_, rfl⟩; obtain ⟨bl7, r7, r6⟩ := dg_made hW6 hb31 hW7; have f0 := r6.fz 0; have o0 := r6.cell 0; have f1 := r6.fz 1; have o1 := r6.cell 1; have f2 := r6.fz 2; have o2 := r6.cell 2; have f3 := r6.fz 3; have o3 := r6.cell 3; have f4 := r6.fz 4; have o4 := r6.cell 4; have k2 : W7.cell? ⟨b31, 2, none⟩ = some (.int .i64 1) := r7.cell 2; have k4 : W7.cell? ⟨b31, 4, none⟩ = some (.slice (some ⟨g5, 0, none⟩) ny c5) := r7.cell 4; have S7 := Lib.hid (show Row W7 b31 _ 39 ∧ Own W7 w.heap.size 36 36 cIt (.slice (some ⟨g5, 0, none⟩) ny c5) ys ∧ Own W7 (bs + 1) 36 36 cIt (.slice (some ⟨g8, 0, none⟩) ny c8) ys ∧ Below w.heap.size w W7 from ⟨r7, (ho5.keep bl7).mono HQ.out.bel.size, (HQ.out.wnt.keep hb5).keep bl7, Below.step (Below.step HQ.out.bel hb5) bl7⟩); clear ho5 hb5 hc5 hg5 hgl5 bl7 r7 r6 m0 m1 m2 m3 m4 m5 m6 m7 m8)
      clear HBR HQ
      go_loopw [34] (fun iv wr5 => ∃ k : Nat, k ≤ ny ∧ iv = .int .i64 (k : Int) ∧ Below W7.heap.size W7 wr5) (fun iv _ => ny - (intOf iv).toNat)
      case atStart => exact ⟨0, Nat.zero_le _, rfl, Below.refl _ _⟩
      case round =>
       obtain ⟨k, hk, rfl, hbw⟩ := hrel
       have HBW := Lib.hid hbw
       by_cases hlk : k < ny
       ·have hki : (k : Int) < (ny : Int) := by omega
        have hk8 : (k : Int) ≤ 8 := by omega
        have hkh : k < ys.length := by rw [HNY.out]; exact hlk
        obtain ⟨X, hX⟩ : ∃ X, ys[k] = X := ⟨_, rfl⟩
        revert hbw
        clear HBW
        obtain ⟨wq, hwq⟩ : ∃ x, x = wr := ⟨_, rfl⟩
        rw [← hwq]
        clear hwq
        intro hbw
        have HBW := Lib.hid hbw
        have HU : ∀ m, Below W7.heap.size W7 (wq.drewN m) := fun m => Below.step hbw (below_drewN wq m)
        have l4 : ∀ m, (wq.drewN m).cell? ⟨b31, 4, none⟩ = some (.slice (some ⟨g5, 0, none⟩) ny c5) := fun m => (S7.out.1.keep (HU m)).cell 4
        have x1 := fun m => own_itk (S7.out.2.1.keep (HU m)) hkh
        have x2 := fun m => own_itk (S7.out.2.2.1.keep (HU m)) hkh
        rw [hX] at x1 x2
        have y1 := fun m => (x1 m).1
        have y2 := fun m => (x1 m).2
        have y3 := fun m => (x2 m).1
        have y4 := fun m => (x2 m).2
        have y5 := fun m => neqIt X (wq.drewN m)
        have y6 := fun (a b : Operand) m => eqGuardIt .neq a b X X (wq.drewN m)
        clear x1 x2 hX HU hbw
        go_wp2
        go_quiet (fail)
        go_wp2
        go_roundw
        case rel => exact ⟨k + 1, hlk, by go_num, Below.step HBW.out (below_drewN _ _)⟩
        case measure => simp [intOf]; omega
       ·obtain rfl : k = ny := by omega
        go_wp2
        go_ret
        exact ⟨rfl, Below.step S7.out.2.2.2 HBW.out⟩
end Go.Proofs.YtibelollgdnidaaGreatDoor
