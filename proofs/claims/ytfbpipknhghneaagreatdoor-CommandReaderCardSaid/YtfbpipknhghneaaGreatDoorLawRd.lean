/- bulletinlaw30.CommandReader: whatever the pieces, the law returns true. -/
import Derived.Test.YtfbpipknhghneaaGreatDoorSam
import Derived.Test.YtfbpipknhghneaaGreatDoorKnA
namespace Go.Proofs.YtfbpipknhghneaaGreatDoor
open Go.RowKit
theorem feed_len : ∀ (f : Nat) (l : List UInt8), l.length < f → (feedL l).1.length + (feedL l).2.1.length ≤ l.length := by
  intro f
  induction f with
  | zero => intro l h; omega
  | succ f ih =>
    intro l hf
    obtain ⟨⟨c, n, e⟩, hd⟩ : ∃ d, decL l = d := ⟨_, rfl⟩
    by_cases h0 : e = 0
    · subst h0
      have hl := dec_len l (by rw [hd])
      rw [hd] at hl
      dsimp only at hl
      rw [feedL_ok hd]
      have h1 := ih (l.drop n) (by rw [List.length_drop]; omega)
      rw [List.length_drop] at h1
      simp only [List.length_cons]
      omega
    · by_cases h4 : e = 4
      · subst h4
        rw [feedL_short hd]
        simp
      · rw [feedL_err hd h0 h4]
        simp
theorem feed_err : ∀ (f : Nat) (l : List UInt8), l.length < f → (feedL l).2.2 ≠ 0 → (feedL l).2.1 = [] := by
  intro f
  induction f with
  | zero => intro l h; omega
  | succ f ih =>
    intro l hf h
    obtain ⟨⟨c, n, e⟩, hd⟩ : ∃ d, decL l = d := ⟨_, rfl⟩
    by_cases h0 : e = 0
    · subst h0
      have hl := dec_len l (by rw [hd])
      rw [hd] at hl
      dsimp only at hl
      rw [feedL_ok hd] at h ⊢
      exact ih (l.drop n) (by rw [List.length_drop]; omega) h
    · by_cases h4 : e = 4
      · subst h4
        rw [feedL_short hd] at h
        exact absurd rfl h
      · rw [feedL_err hd h0 h4]
def quitB : List UInt8 := [113, 117, 105, 116, 13, 10]
theorem feed_quit : ∃ c, feedL quitB = ([c], [], 0) ∧ c.verb = 11 := by
  have h : (decL quitB).1.verb = 11 ∧ (decL quitB).2.1 = 6 ∧ (decL quitB).2.2 = 0 := by decide +kernel
  obtain ⟨⟨c, n, e⟩, hd⟩ : ∃ d, decL quitB = d := ⟨_, rfl⟩
  rw [hd] at h
  obtain ⟨h1, h2, h3⟩ := h
  dsimp only at h1 h2 h3
  subst h2 h3
  exact ⟨c, by rw [feedL_ok hd]; rfl, h1⟩
theorem str_all {w : World} {A : Option Addr} {xs : List ByteArray} (h : Sl w cS A xs) {k : Nat} (hk : k < xs.length) : ∃ ad, A = some ad ∧ ∀ u, Below w.heap.size w u → u.cell? (ad.add k) = some (.string xs[k]) := by
  obtain ⟨ad, rfl, hat⟩ := Sl.at_ cS_length h hk
  refine ⟨ad, rfl, fun u hu => ?_⟩
  have := (hat.keep hu).2 0 (.string xs[k]) rfl
  rw [Nat.mul_one, show ((ad.add k).add 0) = ad.add k from by unfold Addr.add; rfl] at this
  exact this
theorem verb_at {w : World} {A : Option Addr} {c : Cm} (h : Sl w cC A [c]) (hv : c.verb = 11) : ∃ ad, A = some ad ∧ ∀ u, Below w.heap.size w u → u.cell? ad = some (.int .i64 11) := by
  obtain ⟨ad, rfl, hat⟩ := h (by simp)
  refine ⟨ad, rfl, fun u hu => ?_⟩
  have := (hat.keep hu).2 0 (.int .i64 c.verb) rfl
  rw [hv] at this
  exact this
/-- Where the reader and the reference stand after some pieces. -/
structure RdI (u U : World) (r : Nat) (all : ByteArray) (G : List Cm) (v : Value) (wt : ByteArray) (fl : Int) (wr : World) : Prop where
  own : Own wr U.heap.size 39 39 cC v G
  row : RdAt r wt fl wr
  one : One r U wr
  good : fl = 0 → feedL (bl all) = (G, bl wt, 0)
  bad : fl ≠ 0 → wt = ⟨#[]⟩
set_option maxRecDepth 100000 in
set_option maxHeartbeats 3200000 in
theorem lawRd_no (A0 : Option Addr) (cap0 n : Nat) (w : World) (hL : Laid w) (hg : 20 < n) :
    Calls Tryz.prog 3 #[.slice A0 n cap0] w fun e w' => e = .returned (.bool true) ∧ Below w.heap.size w w' := by
  have HL := Lib.hid hL
  clear hL
  have T0 : True := trivial
  have hl1 : (20 : Int) < (n : Int) := by omega
  go_enter Tryz.func3, Tryz.ntmps3
  go_wp2_with (first
    | (have hh := T0; clear hh T0; go_at_call 4; refine (known11 _ HL.out).mono ?_; rintro e w1 ⟨rfl, hb1⟩; have H1 := Lib.hid hb1; clear hb1)
    | (go_at_call 4; refine (known11 _ (HL.out.keep H1.out)).mono ?_; rintro e w2 ⟨rfl, hb2⟩; have H2 := Lib.hid hb2; clear hb2))
  go_ret
  exact ⟨rfl, Below.step H1.out H2.out⟩
set_option maxRecDepth 100000 in
set_option maxHeartbeats 3200000 in
theorem lawRd (A0 : Option Addr) (cap0 : Nat) (ps : List ByteArray) (w : World) (hX : Sl w cS A0 ps) (_hc0 : ps.length ≤ cap0) (hL : Laid w) :
    Calls Tryz.prog 3 #[.slice A0 ps.length cap0] w fun e w' => e = .returned (.bool true) ∧ Below w.heap.size w w' := by
  by_cases hg : 20 < ps.length
  · exact lawRd_no A0 cap0 ps.length w hL hg
  have hl1 : ¬ (20 : Int) < (ps.length : Int) := by omega
  have HL := Lib.hid hL
  have HX := Lib.hid hX
  clear hL hX
  go_enter Tryz.func3, Tryz.ntmps3
  go_wp2_with (first
    | (go_at_call 4; refine (known11 _ HL.out).mono ?_; rintro e u ⟨rfl, hb1⟩; have H1 := Lib.hid hb1; clear hb1)
    | (go_at_call 5; obtain ⟨r, hr⟩ : ∃ r, u.heap.size = r := ⟨_, rfl⟩; have HN := newReader5 u; rw [hr] at HN; refine HN.mono ?_; rintro e U ⟨rfl, hrd, hb2⟩; have HU := Lib.hid (And.intro hrd (show Below u.heap.size u U from (by rw [hr]; exact hb2))); clear hb2 hrd HN))
  have hrU : r < U.heap.size := Row.lt HU.out.1
  go_loopw [4, 5, 6, 7] (fun av v fv iv wr => ∃ (j : Nat) (all : ByteArray) (G : List Cm) (wt : ByteArray) (fl : Int), iv = .int .i64 j ∧ av = .string all ∧ fv = .bool (fl != 0) ∧ j ≤ ps.length ∧ all.size ≤ j * 200 ∧ G.length + wt.size ≤ j * 200 ∧ RdI u U r all G v wt fl wr) (fun _ _ _ i _ => ps.length + 1 - (intOf i).toNat)
  case atStart => exact ⟨0, ⟨#[]⟩, [], ⟨#[]⟩, 0, rfl, rfl, rfl, Nat.zero_le _, Nat.le_refl _, Nat.le_refl _, ⟨Own.nil _ _ _ _ _, HU.out.1, One.refl, fun _ => rfl, fun h => absurd rfl h⟩⟩
  case round =>
    obtain ⟨j, all, G, wt, fl, rfl, rfl, rfl, hj, hal, hGl, hI⟩ := hrel
    obtain ⟨A5, c5, rfl, hc5, _⟩ := Own.sl hI.own
    have hub : Below u.heap.size u wr := HU.out.2.trans (hI.one.below (Nat.le_of_eq hr) HU.out.2.size)
    have hUw : Below w.heap.size w wr := Below.trans H1.out (hub.mono H1.out.size)
    by_cases hlt : j < ps.length
    · have hlt1 : (j : Int) < (ps.length : Int) := by omega
      obtain ⟨ad, rfl, hcell⟩ := str_all HX.out hlt
      obtain ⟨p, hp⟩ : ∃ p, ps[j] = p := ⟨_, rfl⟩
      rw [hp] at hcell
      clear hp
      have hc1 := hcell wr hUw
      have HC := Lib.hid hcell
      clear hcell
      have HI := Lib.hid (And.intro hI (And.intro hub hUw))
      clear hI hub hUw
      by_cases hq : 200 < p.size
      · have hq1 : (200 : Int) < (p.size : Int) := by omega
        go_wp2
        go_ret
        exact ⟨rfl, HI.out.2.2⟩
      · have hq1 : ¬ (200 : Int) < (p.size : Int) := by omega
        by_cases hfl : fl = 0
        · subst hfl
          have T0 : True := trivial
          go_wp2_with (first
            | (go_at_call 6; refine (feed25 p wr u r wt HI.out.2.1 HI.out.1.row (Nat.le_of_eq hr) (HL.out.keep H1.out) (by omega)).mono ?_; rintro e w2 ⟨vx, cs, wt', fl', rfl, hf, hOx, hRx, h1x⟩; obtain ⟨Ax, cx, rfl, hcx, hsx⟩ := Own.sl hOx; have hfl := feed_len _ (bl wt ++ bl p) (Nat.lt_succ_self _); rw [hf, List.length_append, bl_length, bl_length, bl_length] at hfl; dsimp only at hfl; have H2 := Lib.hid (And.intro hf (And.intro hsx (And.intro hRx h1x))); clear hf hOx hsx hRx h1x)
            | (at_builtin; refine wpList_append_sl _ rfl (.tmp 45) (.tmp 46) 26 rfl U.heap.size 39 39 104 cC underCs rowCm (by decide) cC_length cC_one (.slice A5 G.length c5) G rfl (Own.one HI.out.1.own H2.out.2.2.2 hrU) Ax cs.length cx cs rfl rfl H2.out.2.1 (by omega) (by omega) (Nat.le_trans HI.out.1.one.size H2.out.2.2.2.size) ?_))
          intro v' w' hO' hg'
          have h1' : One r U w' := One.grew (One.trans HI.out.1.one H2.out.2.2.2) (Own.one HI.out.1.own H2.out.2.2.2 hrU) hg'
          have hR' : RdAt r wt' fl' w' := Row.same H2.out.2.2.1 (hg'.block r (Row.lt H2.out.2.2.1) (fun e => by have := (Own.lt (Own.one HI.out.1.own H2.out.2.2.2 hrU) r e.symm).1; omega))
          have hln2 : (G ++ cs).length + wt'.size ≤ (j + 1) * 200 := by rw [List.length_append]; omega
          obtain ⟨GC, hGC⟩ : ∃ GC, G ++ cs = GC := ⟨_, rfl⟩
          have HGC := Lib.hid hGC
          rw [hGC] at hO' hln2
          clear hGC
          obtain ⟨A6, c6, rfl, hc6, hs6⟩ := Own.sl hO'
          have hbw : Below w.heap.size w w' := Below.trans H1.out ((HU.out.2.trans (h1'.below (Nat.le_of_eq hr) HU.out.2.size)).mono H1.out.size)
          have hc2 := HC.out w' hbw
          have hbl := bl_length wt'
          have HFM := Lib.hid (show feedL (bl (all ++ p)) = (GC, bl wt', fl') from by
            rw [show bl (all ++ p) = bl all ++ bl p by simp [bl], feed_more (bl p) _ (bl all) (Nat.lt_succ_self _) (by rw [HI.out.1.good rfl]), HI.out.1.good rfl, H2.out.1, HGC.out])
          have HX2 := Lib.hid (And.intro hO' (And.intro hs6 (And.intro hR' (And.intro h1' hbw))))
          clear hO' hs6 hR' h1' hbw hg' hc1
          go_wp2_with (first
            | (go_at_call 9; refine (refAll9 (all ++ p) w' (by rw [ByteArray.size_append]; omega)).mono ?_; rintro e w3 ⟨A2, c2, cs2, rest, fl2, rfl, hf2, hsl2, hb3⟩; rw [HFM.out] at hf2; obtain ⟨rfl, hf3⟩ := Prod.mk.inj hf2; obtain ⟨rfl, rfl⟩ := Prod.mk.inj hf3; have H3 := Lib.hid (And.intro hsl2 hb3); clear hf2 hf3 hsl2 hb3)
            | (go_at_call 10; refine (sameAll10 A6 A2 c6 c2 GC w3 (HX2.out.2.1.keep H3.out.2) H3.out.1 (by omega)).mono ?_; rintro e w4 ⟨rfl, hb4⟩; have H4 := Lib.hid (Below.step H3.out.2 hb4); clear hb4)
            | (go_at_call 7; refine (failed28 _ r wt' fl' (Row.keep HX2.out.2.2.1 H4.out)).mono ?_; rintro e w5 ⟨rfl, hb5⟩; have H5 := Lib.hid (Below.step H4.out hb5); clear hb5)
            | (go_at_call 8; refine (rest26 _ r wt' fl' (Row.keep HX2.out.2.2.1 H5.out)).mono ?_; rintro e w6 ⟨rfl, hb6⟩; have H6 := Lib.hid (Below.step H5.out hb6); clear hb6))
          go_roundw
          case rel =>
            refine ⟨j + 1, all ++ p, GC, wt', fl', by go_num, rfl, rfl, by omega, by rw [ByteArray.size_append]; omega, hln2, ⟨Own.keep HX2.out.1 H6.out, Row.keep HX2.out.2.2.1 H6.out, One.trans HX2.out.2.2.2.1 (One.of_below H6.out), fun h => by rw [HFM.out, h], fun h => ?_⟩⟩
            have h7 := feed_err _ (bl (all ++ p)) (Nat.lt_succ_self _) (by rw [HFM.out]; exact h)
            rw [HFM.out] at h7
            exact bl_inj h7
          case measure => simp [intOf] <;> omega
        · have hfb : (fl != 0) = true := by simpa using hfl
          have hfc : (fl == 0) = false := by simpa using hfl
          have hw0 := HI.out.1.bad hfl
          have HFL := Lib.hid hfl
          subst hw0
          clear hfl
          go_wp2_with (first
            | (go_at_call 6; refine (feed25_failed p wr r _ fl HFL.out HI.out.1.row).mono ?_; rintro e w2 ⟨rfl, hb2⟩; have H2 := Lib.hid hb2; clear hb2)
            | (at_builtin; refine wpList_append_sl _ rfl (.tmp 45) (.tmp 46) 26 rfl U.heap.size 39 39 104 cC underCs rowCm (by decide) cC_length cC_one (.slice A5 G.length c5) G rfl (Own.keep HI.out.1.own H2.out) none 0 0 [] rfl rfl (Sl.nil _ _ _) (by omega) (by omega) (Nat.le_trans HI.out.1.one.size H2.out.size) ?_))
          intro v' w' hO' hg'
          have h1' : One r U w' := One.grew (One.trans HI.out.1.one (One.of_below H2.out)) (Own.keep HI.out.1.own H2.out) hg'
          have hR' : RdAt r ⟨#[]⟩ fl w' := Row.same (Row.keep HI.out.1.row H2.out) (hg'.block r (Row.lt (Row.keep HI.out.1.row H2.out)) (fun e => by have := (Own.lt (Own.keep HI.out.1.own H2.out) r e.symm).1; omega))
          have HX2 := Lib.hid (And.intro hO' (And.intro hR' h1'))
          clear hO' hR' h1' hg'
          go_wp2_with (first
            | (go_at_call 7; refine (failed28 _ r _ fl HX2.out.2.1).mono ?_; rintro e w5 ⟨rfl, hb5⟩; have H5 := Lib.hid hb5; clear hb5)
            | (go_at_call 8; refine (rest26 _ r _ fl (Row.keep HX2.out.2.1 H5.out)).mono ?_; rintro e w6 ⟨rfl, hb6⟩; have H6 := Lib.hid (Below.step H5.out hb6); clear hb6))
          go_roundw
          case rel => exact ⟨j + 1, all, G, ⟨#[]⟩, fl, by go_num, rfl, by rw [hfb], by omega, by omega, by have : (⟨#[]⟩ : ByteArray).size = 0 := rfl; omega, ⟨Own.keep HX2.out.1 H6.out, Row.keep HX2.out.2.1 H6.out, One.trans HX2.out.2.2 (One.of_below H6.out), fun h => absurd h HFL.out, fun _ => rfl⟩⟩
          case measure => simp [intOf] <;> omega
    · have hlt1 : ¬ (j : Int) < (ps.length : Int) := by omega
      have HI := Lib.hid (And.intro hI (And.intro hub hUw))
      clear hI hub hUw
      obtain ⟨qc, hq1, hq2⟩ := feed_quit
      have HQ := Lib.hid hq1
      clear hq1
      go_wp2_with (first
        | (go_at_call 11; refine (reset27 wr r wt fl HI.out.1.row).mono ?_; rintro e w2 ⟨rfl, hr2, h12⟩; have H2 := Lib.hid (And.intro hr2 (And.intro h12 (HI.out.2.1.trans (h12.below (Nat.le_of_eq hr) HI.out.2.1.size)))); clear hr2 h12)
        | (go_at_call 6; refine (feed25 ⟨#[113, 117, 105, 116, 13, 10]⟩ w2 u r ⟨#[]⟩ H2.out.2.2 H2.out.1 (Nat.le_of_eq hr) (HL.out.keep H1.out) (by decide)).mono ?_; rintro e w3 ⟨vx, cs, wt', fl', rfl, hf, hOx, hRx, h1x⟩; rw [show bl ⟨#[]⟩ ++ bl ⟨#[113, 117, 105, 116, 13, 10]⟩ = quitB from rfl, HQ.out] at hf; obtain ⟨rfl, hf3⟩ := Prod.mk.inj hf; obtain ⟨hf4, rfl⟩ := Prod.mk.inj hf3; obtain rfl : wt' = ⟨#[]⟩ := bl_inj hf4.symm; obtain ⟨Ax, cx, rfl, hcx, hsx⟩ := Own.sl hOx; obtain ⟨adx, rfl, hvx⟩ := verb_at hsx hq2; have hcx1 : 1 ≤ cx := hcx; have H3 := Lib.hid (And.intro hvx (And.intro hRx (H2.out.2.2.trans (h1x.below (Nat.le_of_eq hr) H2.out.2.2.size)))); clear hf hf3 hf4 hOx hsx hRx h1x hvx hcx)
        | (go_at_call 7; refine (failed28 _ r _ 0 H3.out.2.1).mono ?_; rintro e w5 ⟨rfl, hb5⟩; have H5 := Lib.hid hb5; clear hb5)
        | (go_at_call 8; refine (rest26 _ r _ 0 (Row.keep H3.out.2.1 H5.out)).mono ?_; rintro e w6 ⟨rfl, hb6⟩; have H6 := Lib.hid (Below.step H5.out hb6); have k1 := H3.out.1 _ H6.out; clear hb6))
      go_ret
      exact ⟨rfl, Below.trans H1.out ((H3.out.2.2.trans (H6.out.mono H3.out.2.2.size)).mono H1.out.size)⟩
theorem lawRdc (A0 : Option Addr) (cap0 : Nat) (ps : List ByteArray) (w : World) (hX : Sl w cS A0 ps) (hc0 : ps.length ≤ cap0) (hL : Laid w) :
    Calls Tryz.prog 3 #[.slice A0 ps.length cap0] w fun e w' => e = .returned (.bool true) ∧ Below w.heap.size w w' := lawRd A0 cap0 ps w hX hc0 hL
end Go.Proofs.YtfbpipknhghneaaGreatDoor
