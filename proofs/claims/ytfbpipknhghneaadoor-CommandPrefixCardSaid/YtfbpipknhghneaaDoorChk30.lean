/- command: Check. -/
import Derived.Test.YtfbpipknhghneaaDoorPres30
import Derived.Test.YtfbpipknhghneaaDoorSite
namespace Go.Proofs.YtfbpipknhghneaaDoor
open Go.RowKit
/-- The forms of the verbs: words, fields, limits. -/
def formsL : List Fm := [(⟨#[]⟩, 0, 0), (⟨#[104, 101, 108, 108, 111]⟩, 17, 0), (⟨#[111, 102, 102, 101, 114]⟩, 6, 0), (⟨#[119, 97, 110, 116]⟩, 10, 0), (⟨#[104, 97, 118, 101]⟩, 2, 0), (⟨#[108, 97, 116, 101, 114]⟩, 2, 0), (⟨#[114, 101, 102, 117, 115, 101]⟩, 34, 0), (⟨#[100, 97, 116, 97]⟩, 74, 4096), (⟨#[100, 111, 110, 101]⟩, 2, 0), (⟨#[103, 111, 116]⟩, 2, 0), (⟨#[98, 97, 116, 99, 104]⟩, 64, 262144), (⟨#[113, 117, 105, 116]⟩, 0, 0)]
def FormsAt (w : World) : Prop := Sl w cF (some ⟨0, 0, none⟩) formsL
def crL (s : ByteArray) : Bool := decide (0 ≤ Lib.indexByte s.data.toList 13)
def psC (c : Cm) : List Pr := psL (!c.name.toList.isEmpty) (!decide (c.id = zI)) (c.size != 0) (c.from_ != 0) (c.count != 0) (c.code != 0) (!c.text.toList.isEmpty)
theorem psC_ok (c : Cm) : (c.name.toList.isEmpty = !(!c.name.toList.isEmpty)) ∧ (decide (c.id = zI) = !(!decide (c.id = zI))) ∧ ((c.size != 0) = (c.size != 0)) ∧ ((c.from_ != 0) = (c.from_ != 0)) ∧ ((c.count != 0) = (c.count != 0)) ∧ ((c.code != 0) = (c.code != 0)) ∧ (c.text.toList.isEmpty = !(!c.text.toList.isEmpty)) := by simp
def rgs (c : Cm) : List Rg := [(4, c.size, 1, 65536), (8, c.from_, 0, 65536), (16, c.count, 1, 1000), (32, c.code, 1, 99)]
def okR (fl : Int) (x : Rg) : Bool := bits BinOp.and .i64 fl x.1 == 0 || (decide (x.2.2.1 ≤ x.2.1) && decide (x.2.1 ≤ x.2.2.2))
/-- What Check says of a command with a form's fields and limit. -/
def chkF (c : Cm) (fl most : Int) : Int :=
  if bits BinOp.andNot .i64 (orL (psC c)) fl != 0 then 3
  else if bits BinOp.and .i64 fl 1 != 0 && !siteB (bl c.name) then 12
  else if bits BinOp.and .i64 fl 2 != 0 && decide (c.id = zI) then 1
  else if (rgs c).all (okR fl) = false then 2
  else if bits BinOp.and .i64 fl 64 == 0 then 0
  else if c.text.toList.isEmpty then 1
  else if most < c.text.size then 5
  else if crL c.text then 6 else 0
def chk (c : Cm) : Int :=
  if c.verb < 1 ∨ 11 < c.verb then 11
  else let f := formsL[c.verb.toNat]?.getD (⟨#[]⟩, 0, 0); chkF c f.2.1 f.2.2
theorem FormsAt.keep {w w' : World} (h : FormsAt w) (hb : Below w.heap.size w w') : FormsAt w' := Sl.keep h hb
theorem Sl.fm {w : World} {A : Option Addr} {xs : List Fm} (h : Sl w cF A xs) {k : Nat} (hk : k < xs.length) : ∃ ad, A = some ad ∧ okA w (ad.add (k * 3)) 3 = true ∧ rdA w (ad.add (k * 3)) 3 = vF xs[k] := by
  obtain ⟨ad, rfl, hat⟩ := Sl.at_ cF_length h hk
  have h1 := hat.ok
  have h2 := hat.rd
  rw [cF_length] at h1 h2
  exact ⟨ad, rfl, h1, h2⟩
theorem Sl.rg {w : World} {A : Option Addr} {xs : List Rg} (h : Sl w cG A xs) {k : Nat} (hk : k < xs.length) : ∃ ad, A = some ad ∧ okA w (ad.add (k * 4)) 4 = true ∧ rdA w (ad.add (k * 4)) 4 = vG xs[k] := by
  obtain ⟨ad, rfl, hat⟩ := Sl.at_ cG_length h hk
  have h1 := hat.ok
  have h2 := hat.rd
  rw [cG_length] at h1 h2
  exact ⟨ad, rfl, h1, h2⟩
set_option maxRecDepth 100000 in
set_option maxHeartbeats 12800000 in
theorem check16 (c : Cm) (w : World) (hL : FormsAt w) (hnb : c.name.size ≤ 1000000) : Calls Tryd.prog 16 #[vC c] w fun e w' => e = .returned (.int .i64 (chk c)) ∧ Below w.heap.size w w' := by
  by_cases hv : c.verb < 1 ∨ 11 < c.verb
  · go_enter Tryd.func16, Tryd.ntmps16
    go_wp2_with (go_at_call 35; refine (isVerb35_no _ _ hv).mono ?_; rintro e w1 ⟨rfl, rfl⟩)
    go_ret
    exact ⟨by unfold chk; rw [if_pos hv]; rfl, below_alloc _ _⟩
  have hv1 : 1 ≤ c.verb := by omega
  have hv2 : c.verb ≤ 11 := by omega
  obtain ⟨k, hk⟩ : ∃ k : Nat, c.verb = (k : Int) := ⟨c.verb.toNat, by omega⟩
  have hk12 : k < formsL.length := by show k < 12; omega
  have HC : Hid (chk c = chkF c (formsL[k].2.1) (formsL[k].2.2)) := Lib.hid (by unfold chk; rw [if_neg hv, hk, Int.toNat_natCast, List.getElem?_eq_getElem hk12]; rfl)
  have hR := Row.new w (cC c) 27
  have j0 : (w.alloc (.cells (aC c) 27)).cell? ⟨w.heap.size, 0, none⟩ = some (.int .i64 (k : Int)) := by rw [← hk]; exact hR.cell 0
  obtain ⟨ad, had, hok, hrd⟩ := Sl.fm (FormsAt.keep hL (below_alloc w (.cells (aC c) 27))) hk12
  obtain rfl := Option.some.inj had
  clear had
  have hao := add_off 0 0 (k * 3)
  rw [Nat.zero_add] at hao
  rw [hao] at hok hrd
  clear hao
  obtain ⟨⟨wd, fl, most⟩, hfm⟩ : ∃ fm, formsL[k] = fm := ⟨_, rfl⟩
  rw [hfm] at hrd HC
  clear hfm
  obtain ⟨bad, hbad⟩ : ∃ bad, (bits BinOp.andNot .i64 (orL (psC c)) fl != 0) = bad := ⟨_, rfl⟩
  have HB := Lib.hid hbad
  have hkk : (k : Int) < 12 := by omega
  have hk1 : 1 ≤ (k : Int) := by omega
  have hk2 : (k : Int) ≤ 11 := by omega
  clear hv hv1 hv2 hk hbad
  clear hL hR
  go_enter Tryd.func16, Tryd.ntmps16
  go_wp2_with (go_at_call 35; refine (isVerb35 (k : Int) _ hk1 hk2).mono ?_; rintro e w1 ⟨rfl, rfl⟩)
  have hb1 := below_alloc w (.cells (aC c) 27)
  have HW2 : Below w.heap.size w ((w.alloc (.cells (aC c) 27)).alloc (.cells (aF (wd, fl, most)) 68)) := Below.step hb1 (below_alloc _ _)
  have R1 : Row ((w.alloc (.cells (aC c) 27)).alloc (.cells (aF (wd, fl, most)) 68)) w.heap.size (cC c) 27 := (Row.new w (cC c) 27).keep (below_alloc _ _)
  have R2 : Row ((w.alloc (.cells (aC c) 27)).alloc (.cells (aF (wd, fl, most)) 68)) (w.heap.size + 1) (cF (wd, fl, most)) 68 := by
    have h := Row.new (w.alloc (.cells (aC c) 27)) (cF (wd, fl, most)) 68
    rwa [show (w.alloc (.cells (aC c) 27)).heap.size = w.heap.size + 1 by simp] at h
  clear hok hrd hb1 j0
  change Code.wp _ _ _ _ ((w.alloc (.cells (aC c) 27)).alloc (.cells (aF (wd, fl, most)) 68))
  generalize ((w.alloc (.cells (aC c) 27)).alloc (.cells (aF (wd, fl, most)) 68)) = W2 at HW2 R1 R2 ⊢
  obtain ⟨g3, hg3⟩ : ∃ g3, g3 = w.heap.size + 1 := ⟨_, rfl⟩
  rw [← hg3] at R2 ⊢
  clear hg3
  obtain ⟨b, hb0⟩ : ∃ b, b = w.heap.size := ⟨_, rfl⟩
  rw [← hb0] at R1 ⊢
  clear hb0
  have hsz := R1.lt
  have j1 := (R1.at_ (k := 0) (n := 39) (ds := cC c) (by rw [List.drop_zero, List.take_of_length_le (by rw [cC_length]; omega)])).ok
  have j1' := (R1.at_ (k := 0) (n := 39) (ds := cC c) (by rw [List.drop_zero, List.take_of_length_le (by rw [cC_length]; omega)])).rd
  rw [cC_length] at j1 j1'
  have k1 : W2.cell? ⟨g3, 1, none⟩ = some (.int .i64 fl) := R2.cell 1
  have HR := Lib.hid (And.intro R1 R2)
  clear R1 R2
  refine AnyO.wp_any (by kernel_rfl) (by kernel_rfl) (pstP [isV (vC c), isV (.int .i64 (orL (psC c))), isV (.pointer (some ⟨g3, 1, none⟩)), isV (.int .i64 fl), isV (.int .i64 (bits BinOp.andNot .i64 (orL (psC c)) fl)), isV (.bool bad)]) (MonoL.cons (Mono.v _) (MonoL.cons (Mono.v _) (MonoL.cons (Mono.v _) (MonoL.cons (Mono.v _) (MonoL.cons (Mono.v _) (MonoL.cons (Mono.v _) MonoL.nil)))))) ?_ ?_
  · intro i hi
    have hi2 : i = 0 ∨ i = 1 ∨ i = 2 ∨ i = 3 ∨ i = 4 ∨ i = 5 := by simp only [List.size_toArray, List.length_cons, List.length_nil] at hi; omega
    clear hi
    rcases hi2 with rfl | rfl | rfl | rfl | rfl | rfl
    · -- 0: Op.load 27 (Operand.tmp 1)
      refine AnyO.Step.mk rfl [] (by kernel_rfl) ?_
      intro vs u hE hp ac hb K hK
      have s1 : ac.tmps[1]?.getD undef = .pointer (some ⟨b, 0, none⟩) := by rw [hb]; kernel_rfl
      rw [if_pos (AnyO.wanted_none rfl)]
      clear hb hp
      have rr := okA_below j1 hsz (Below.step (below_drew _) hE)
      rw [j1'] at rr
      obtain ⟨rr1, rr2⟩ := rr
      go_simp
      exact hK _ _ (Below.refl _ _) rfl
    · -- 1: Op.call { callee := Callee.value (Operand.func 36), args := 
      refine AnyO.Step.mk rfl [0] (by kernel_rfl) ?_
      intro vs u hE hp ac hb K hK
      have s16 : ac.tmps[16]?.getD undef = vC c := by rw [hb]; exact (show _ = vs 0 by kernel_rfl).trans (hp 0 (by decide))
      rw [if_pos (AnyO.wanted_none rfl)]
      clear hb hp
      go_simp
      go_at_call 36
      refine (present36 c u _ _ _ _ _ _ _ (psC_ok c)).mono ?_
      rintro e w2 ⟨rfl, hb2⟩
      exact hK _ _ hb2 rfl
    · -- 2: Op.fieldAddr 68 (Operand.tmp 3) 1
      refine AnyO.Step.mk rfl [] (by kernel_rfl) ?_
      intro vs u hE hp ac hb K hK
      have s3 : ac.tmps[3]?.getD undef = .pointer (some ⟨g3, 0, none⟩) := by rw [hb]; kernel_rfl
      rw [if_pos (AnyO.wanted_none rfl)]
      clear hb hp
      go_simp
      exact hK _ _ (Below.refl _ _) rfl
    · -- 3: Op.load 3 (Operand.tmp 18)
      refine AnyO.Step.mk rfl [2] (by kernel_rfl) ?_
      intro vs u hE hp ac hb K hK
      have s18 : ac.tmps[18]?.getD undef = .pointer (some ⟨g3, 1, none⟩) := by rw [hb]; exact (show _ = vs 2 by kernel_rfl).trans (hp 2 (by decide))
      rw [if_pos (AnyO.wanted_none rfl)]
      clear hb hp
      have rr := cell_below k1 (Below.step (below_drew _) hE)
      go_simp
      exact hK _ _ (Below.refl _ _) rfl
    · -- 4: Op.binOp BinOp.andNot 3 (Operand.tmp 17) (Operand.tmp 19) 3
      refine AnyO.Step.mk rfl [1, 3] (by kernel_rfl) ?_
      intro vs u hE hp ac hb K hK
      have s17 : ac.tmps[17]?.getD undef = .int .i64 (orL (psC c)) := by rw [hb]; exact (show _ = vs 1 by kernel_rfl).trans (hp 1 (by decide))
      have s19 : ac.tmps[19]?.getD undef = .int .i64 fl := by rw [hb]; exact (show _ = vs 3 by kernel_rfl).trans (hp 3 (by decide))
      rw [if_pos (AnyO.wanted_none rfl)]
      clear hb hp
      go_simp
      exact hK _ _ (Below.refl _ _) rfl
    · -- 5: Op.binOp BinOp.neq 3 (Operand.tmp 20) (Operand.const (Value.
      refine AnyO.Step.mk rfl [4] (by kernel_rfl) ?_
      intro vs u hE hp ac hb K hK
      have s20 : ac.tmps[20]?.getD undef = .int .i64 (bits BinOp.andNot .i64 (orL (psC c)) fl) := by rw [hb]; exact (show _ = vs 4 by kernel_rfl).trans (hp 4 (by decide))
      rw [if_pos (AnyO.wanted_none rfl)]
      clear hb hp
      have rr := HB.out
      go_simp
      exact hK _ _ (Below.refl _ _) rfl
  · intro vs u hE hp
    have e0 : vs 0 = vC c := hp 0 (by decide)
    have e1 : vs 1 = .int .i64 (orL (psC c)) := hp 1 (by decide)
    have e2 : vs 2 = .pointer (some ⟨g3, 1, none⟩) := hp 2 (by decide)
    have e3 : vs 3 = .int .i64 fl := hp 3 (by decide)
    have e4 : vs 4 = .int .i64 (bits BinOp.andNot .i64 (orL (psC c)) fl) := hp 4 (by decide)
    have e5 : vs 5 = .bool bad := hp 5 (by decide)
    clear hp
    have HE := Lib.hid hE
    clear hE
    rw [puts_range [some 16, some 17, some 18, some 19, some 20, some 21] (by kernel_rfl)]
    simp only [putL, Nat.reduceAdd, e0, e1, e2, e3, e4, e5]
    clear e0 e1 e2 e3 e4 e5
    go_simp
    have hrow1 := HR.out.1.keep HE.out
    have hrow2 := HR.out.2.keep HE.out
    have l1 : u.cell? ⟨g3, 1, none⟩ = some (.int .i64 fl) := hrow2.cell 1
    have l5 : u.cell? ⟨b, 1, none⟩ = some (.string c.name) := hrow1.cell 1
    obtain ⟨l6, l6'⟩ := hrow1.idC
    clear k1 j1 j1'
    cases bad with
    | true =>
      go_wp2
      go_ret
      exact ⟨by rw [HC.out]; unfold chkF; rw [if_pos HB.out]; rfl, Below.step HW2 HE.out⟩
    | false =>
      obtain ⟨sb, hsb⟩ : ∃ sb, siteB (bl c.name) = sb := ⟨_, rfl⟩
      obtain ⟨nm, hnm⟩ : ∃ nm, (bits BinOp.and .i64 fl 1 != 0) = nm := ⟨_, rfl⟩
      have HN0 := Lib.hid (And.intro hnm hsb)
      have HSI := Lib.hid (show ∀ w1, Calls Tryd.prog 37 #[.string c.name] w1 fun e w' => ∃ a n : Int, e = .returned (.tuple #[.int .i64 a, .int .i64 n]) ∧ decide (n = 0) = siteB (bl c.name) ∧ w' = w1 from fun w1 => site37 c.name w1 hnb)
      rw [hsb] at HSI
      clear hsb
      cases nm with
      | true =>
        cases sb with
        | false =>
          go_wp2_with (go_at_call 37; refine (HSI.out _).mono ?_; rintro e w1 ⟨a, n, rfl, hn, rfl⟩; have hnn : (n != 0) = true := by (simp at hn; simpa using hn))
          go_ret
          exact ⟨by rw [HC.out]; unfold chkF; rw [if_neg (by rw [HB.out]; decide), if_pos (by rw [HN0.out.1, HN0.out.2]; rfl)]; rfl, Below.step HW2 HE.out⟩
        | true =>
          have HN : Hid ((bits BinOp.and .i64 fl 1 != 0 && !siteB (bl c.name)) = false) := Lib.hid (by rw [HN0.out.1, HN0.out.2]; rfl)
          obtain ⟨ib, hib⟩ : ∃ ib, (bits BinOp.and .i64 fl 2 != 0) = ib := ⟨_, rfl⟩
          obtain ⟨z, hz⟩ : ∃ z, decide (c.id = zI) = z := ⟨_, rfl⟩
          have HI := Lib.hid (And.intro hib hz)
          have l2 : ∀ wx, Below u.heap.size u wx → wx.cell? ⟨b, 34, none⟩ = some (.int .i64 c.size) ∧ wx.cell? ⟨b, 35, none⟩ = some (.int .i64 c.from_) ∧ wx.cell? ⟨b, 36, none⟩ = some (.int .i64 c.count) ∧ wx.cell? ⟨b, 37, none⟩ = some (.int .i64 c.code) := fun wx hb => ⟨((hrow1.keep hb).cell 34).trans (cC_at (aC_34 c)), ((hrow1.keep hb).cell 35).trans (cC_at (aC_35 c)), ((hrow1.keep hb).cell 36).trans (cC_at (aC_36 c)), ((hrow1.keep hb).cell 37).trans (cC_at (aC_37 c))⟩
          have HL2 := Lib.hid l2
          have HRS := Lib.hid (And.intro hrow1 hrow2)
          clear hrow1 hrow2 l2
          cases ib with
          | true =>
            cases z with
            | true =>
              go_wp2_with (first | (go_at_call 37; refine (HSI.out _).mono ?_; rintro e wS ⟨a, n, rfl, hn, hwS⟩; rw [hwS]; clear hwS; obtain rfl : n = 0 := by simpa using hn) | (go_at_call 38; refine (isZero38 c.id u).mono ?_; rintro e w1 ⟨rfl, hb⟩; rw [hz]; have HZ := Lib.hid hb; clear hb))
              go_ret
              exact ⟨by rw [HC.out]; unfold chkF; rw [if_neg (by rw [HB.out]; decide), if_neg (by rw [HN.out]; decide), if_pos (by rw [HI.out.1, HI.out.2]; rfl)]; rfl, Below.step HW2 (Below.step HE.out HZ.out)⟩
            | false =>
              go_wp2_with (first | (go_at_call 37; refine (HSI.out _).mono ?_; rintro e wS ⟨a, n, rfl, hn, hwS⟩; rw [hwS]; clear hwS; obtain rfl : n = 0 := by simpa using hn) | (go_at_call 38; refine (isZero38 c.id u).mono ?_; rintro e w1 ⟨rfl, hb⟩; rw [hz]; have l1 := cell_below l1 hb; obtain ⟨n1, n2, n3, n4⟩ := HL2.out _ hb; have HZ := Lib.hid hb; clear hb))
              have HJ : Hid ((bits BinOp.and .i64 fl 2 != 0 && decide (c.id = zI)) = false) := Lib.hid (by rw [HI.out.1, HI.out.2]; rfl)
              change Code.wp _ _ _ _ (w1.alloc (.cells (aGs (rgs c)) 81))
              have S4 : Sl (w1.alloc (.cells (aGs (rgs c)) 81)) cG (some ⟨w1.heap.size, 0, none⟩) (rgs c) := fun _ => ⟨_, rfl, at_new w1 _ 81 _ rfl⟩
              have HB4 := Lib.hid (Below.step HW2 (Below.step HE.out (Below.step HZ.out (below_alloc w1 (.cells (aGs (rgs c)) 81)))))
              have l1 := cell_below l1 (below_alloc w1 (.cells (aGs (rgs c)) 81))
              have hg4 : g3 < (w1.alloc (.cells (aGs (rgs c)) 81)).heap.size := by have := HRS.out.2.lt; have := HZ.out.size; simp; omega
              have j38 : ∀ wx, Below (w1.alloc (.cells (aGs (rgs c)) 81)).heap.size (w1.alloc (.cells (aGs (rgs c)) 81)) wx → wx.cell? ⟨b, 38, none⟩ = some (.string c.text) ∧ wx.cell? ⟨g3, 2, none⟩ = some (.int .i64 most) := fun wx hb => ⟨((HRS.out.1.keep (Below.step HZ.out (Below.step (below_alloc w1 (.cells (aGs (rgs c)) 81)) hb))).cell 38).trans (cC_at (aC_38 c)), (HRS.out.2.keep (Below.step HZ.out (Below.step (below_alloc w1 (.cells (aGs (rgs c)) 81)) hb))).cell 2⟩
              have HT := Lib.hid j38
              clear j38 n1 n2 n3 n4
              generalize w1.alloc (.cells (aGs (rgs c)) 81) = W4 at S4 HB4 l1 hg4 HT ⊢
              have HS := Lib.hid (And.intro S4 (And.intro l1 hg4))
              clear S4 l1 hg4
              go_loopw [57] (fun i wr => ∃ j : Nat, j ≤ 4 ∧ i = .int .i64 j ∧ ((rgs c).take j).all (okR fl) = true ∧ Below W4.heap.size W4 wr) (fun i _ => 4 - (intOf i).toNat)
              case atStart => exact ⟨0, by omega, rfl, rfl, Below.refl _ _⟩
              case round =>
                obtain ⟨j, hj, rfl, hall, hb⟩ := hrel
                have l1 := cell_below HS.out.2.1 hb
                have hg4 : g3 < wr.heap.size := Nat.lt_of_lt_of_le HS.out.2.2 hb.size
                have HB2 := Lib.hid (And.intro hb hall)
                by_cases hlt : j < 4
                · obtain ⟨ad, had, hok, hrd⟩ := Sl.rg (HS.out.1.keep hb) (show j < (rgs c).length from hlt)
                  obtain rfl := Option.some.inj had
                  have hao := add_off w1.heap.size 0 (j * 4)
                  rw [Nat.zero_add] at hao
                  rw [hao] at hok hrd
                  clear had hao
                  have HA := Lib.hid (show ((rgs c).take (j + 1)).all (okR fl) = _ by rw [List.take_succ_eq_append_getElem (show j < (rgs c).length from hlt), List.all_append, List.all_cons, List.all_nil, Bool.and_true, hall, Bool.true_and])
                  have HF := Lib.hid (show okR fl ((rgs c)[j]'(show j < (rgs c).length from hlt)) = false → (rgs c).all (okR fl) = false from fun e => by rw [List.all_eq_false]; exact ⟨_, List.getElem_mem _, by rw [e]; decide⟩)
                  have hlk : (j : Int) < 4 := by omega
                  generalize (rgs c)[j]'(show j < (rgs c).length from hlt) = x at hok hrd HA HF
                  obtain ⟨a, n, lo, hi⟩ := x
                  clear hb hall
                  by_cases hm : (bits BinOp.and .i64 fl a != 0) = true
                  · have hz0 : (bits BinOp.and .i64 fl a == 0) = false := by simpa [bne] using hm
                    by_cases hn1 : n < lo
                    · go_wp2
                      go_ret
                      exact ⟨by rw [HC.out]; unfold chkF; rw [if_neg (by rw [HB.out]; decide), if_neg (by rw [HN.out]; decide), if_neg (by rw [HJ.out]; decide), if_pos (HF.out (by unfold okR; rw [hz0, decide_eq_false (show ¬ lo ≤ n by omega)]; rfl))]; rfl, Below.step HB4.out (Below.step HB2.out.1 (below_alloc _ _))⟩
                    · by_cases hn2 : hi < n
                      · go_wp2
                        go_ret
                        exact ⟨by rw [HC.out]; unfold chkF; rw [if_neg (by rw [HB.out]; decide), if_neg (by rw [HN.out]; decide), if_neg (by rw [HJ.out]; decide), if_pos (HF.out (by unfold okR; rw [hz0, decide_eq_false (show ¬ n ≤ hi by omega), Bool.and_false]; rfl))]; rfl, Below.step HB4.out (Below.step HB2.out.1 (below_alloc _ _))⟩
                      · go_wp2
                        go_roundw
                        case rel => exact ⟨j + 1, hlt, by go_num, by rw [HA.out]; unfold okR; rw [decide_eq_true (show lo ≤ n by omega), decide_eq_true (show n ≤ hi by omega)]; simp, Below.step HB2.out.1 (below_alloc _ _)⟩
                        case measure => simp [intOf] <;> omega
                  · have hm' : (bits BinOp.and .i64 fl a != 0) = false := by simpa using hm
                    have hz0 : (bits BinOp.and .i64 fl a == 0) = true := by simpa [bne] using hm'
                    clear hm
                    go_wp2
                    go_roundw
                    case rel => exact ⟨j + 1, hlt, by go_num, by rw [HA.out]; unfold okR; rw [hz0]; rfl, Below.step HB2.out.1 (below_alloc _ _)⟩
                    case measure => simp [intOf] <;> omega
                · have hj4 : j = 4 := by omega
                  subst hj4
                  obtain ⟨m1, m2⟩ := HT.out _ hb
                  have HQ := Lib.hid (And.intro (show (rgs c).all (okR fl) = true from hall) (Below.step HB4.out hb))
                  clear hall hb
                  obtain ⟨tb, htb⟩ : ∃ tb, (bits BinOp.and .i64 fl 64 == 0) = tb := ⟨_, rfl⟩
                  obtain ⟨te, hte⟩ : ∃ te, c.text.toList.isEmpty = te := ⟨_, rfl⟩
                  have HY := Lib.hid (And.intro htb hte)
                  have hch : chkF c fl most = if tb = true then 0 else if te = true then 1 else if most < c.text.size then 5 else if crL c.text then 6 else 0 := by
                    unfold chkF
                    rw [if_neg (by rw [HB.out]; decide), if_neg (by rw [HN.out]; decide), if_neg (by rw [HJ.out]; decide), if_neg (by rw [HQ.out.1]; decide), htb, hte]
                  have HCH := Lib.hid hch
                  clear hch
                  cases tb with
                  | true =>
                    go_wp2
                    go_ret
                    exact ⟨by rw [HC.out, HCH.out]; rfl, HQ.out.2⟩
                  | false =>
                    cases te with
                    | true =>
                      go_wp2
                      go_ret
                      exact ⟨by rw [HC.out, HCH.out]; rfl, HQ.out.2⟩
                    | false =>
                      by_cases hl : most < c.text.size
                      · go_wp2
                        go_ret
                        exact ⟨by rw [HC.out, HCH.out, if_neg (by decide), if_neg (by decide), if_pos hl]; rfl, HQ.out.2⟩
                      · obtain ⟨cr, hcr⟩ : ∃ cr, decide (0 ≤ Lib.indexByte c.text.data.toList 13) = cr := ⟨_, rfl⟩
                        cases cr with
                        | true =>
                          go_wp2_with (go_at_call 39; refine (Tryd.strings_Contains_one c.text 13 _).mono ?_; rintro e w1 ⟨rfl, rfl⟩; rw [hcr])
                          go_ret
                          exact ⟨by rw [HC.out, HCH.out, if_neg (by decide), if_neg (by decide), if_neg (by omega), if_pos (show crL c.text = true from hcr)]; rfl, HQ.out.2⟩
                        | false =>
                          go_wp2_with (go_at_call 39; refine (Tryd.strings_Contains_one c.text 13 _).mono ?_; rintro e w1 ⟨rfl, rfl⟩; rw [hcr])
                          go_ret
                          exact ⟨by rw [HC.out, HCH.out, if_neg (by decide), if_neg (by decide), if_neg (by omega), if_neg (by unfold crL; rw [hcr]; decide)]; rfl, HQ.out.2⟩
          | false =>
            obtain ⟨n1, n2, n3, n4⟩ := HL2.out _ (Below.refl _ u)
            have HZ := Lib.hid (Below.refl u.heap.size u)
            have HJ : Hid ((bits BinOp.and .i64 fl 2 != 0 && decide (c.id = zI)) = false) := Lib.hid (by rw [HI.out.1]; rfl)
            go_wp2_with (go_at_call 37; refine (HSI.out _).mono ?_; rintro e wS ⟨a, n, rfl, hn, hwS⟩; rw [hwS]; clear hwS; obtain rfl : n = 0 := by simpa using hn)
            change Code.wp _ _ _ _ (u.alloc (.cells (aGs (rgs c)) 81))
            have S4 : Sl (u.alloc (.cells (aGs (rgs c)) 81)) cG (some ⟨u.heap.size, 0, none⟩) (rgs c) := fun _ => ⟨_, rfl, at_new u _ 81 _ rfl⟩
            have HB4 := Lib.hid (Below.step HW2 (Below.step HE.out (Below.step HZ.out (below_alloc u (.cells (aGs (rgs c)) 81)))))
            have l1 := cell_below l1 (below_alloc u (.cells (aGs (rgs c)) 81))
            have hg4 : g3 < (u.alloc (.cells (aGs (rgs c)) 81)).heap.size := by have := HRS.out.2.lt; have := HZ.out.size; simp; omega
            have j38 : ∀ wx, Below (u.alloc (.cells (aGs (rgs c)) 81)).heap.size (u.alloc (.cells (aGs (rgs c)) 81)) wx → wx.cell? ⟨b, 38, none⟩ = some (.string c.text) ∧ wx.cell? ⟨g3, 2, none⟩ = some (.int .i64 most) := fun wx hb => ⟨((HRS.out.1.keep (Below.step HZ.out (Below.step (below_alloc u (.cells (aGs (rgs c)) 81)) hb))).cell 38).trans (cC_at (aC_38 c)), (HRS.out.2.keep (Below.step HZ.out (Below.step (below_alloc u (.cells (aGs (rgs c)) 81)) hb))).cell 2⟩
            have HT := Lib.hid j38
            clear j38 n1 n2 n3 n4
            generalize u.alloc (.cells (aGs (rgs c)) 81) = W4 at S4 HB4 l1 hg4 HT ⊢
            have HS := Lib.hid (And.intro S4 (And.intro l1 hg4))
            clear S4 l1 hg4
            go_loopw [57] (fun i wr => ∃ j : Nat, j ≤ 4 ∧ i = .int .i64 j ∧ ((rgs c).take j).all (okR fl) = true ∧ Below W4.heap.size W4 wr) (fun i _ => 4 - (intOf i).toNat)
            case atStart => exact ⟨0, by omega, rfl, rfl, Below.refl _ _⟩
            case round =>
              obtain ⟨j, hj, rfl, hall, hb⟩ := hrel
              have l1 := cell_below HS.out.2.1 hb
              have hg4 : g3 < wr.heap.size := Nat.lt_of_lt_of_le HS.out.2.2 hb.size
              have HB2 := Lib.hid (And.intro hb hall)
              by_cases hlt : j < 4
              · obtain ⟨ad, had, hok, hrd⟩ := Sl.rg (HS.out.1.keep hb) (show j < (rgs c).length from hlt)
                obtain rfl := Option.some.inj had
                have hao := add_off u.heap.size 0 (j * 4)
                rw [Nat.zero_add] at hao
                rw [hao] at hok hrd
                clear had hao
                have HA := Lib.hid (show ((rgs c).take (j + 1)).all (okR fl) = _ by rw [List.take_succ_eq_append_getElem (show j < (rgs c).length from hlt), List.all_append, List.all_cons, List.all_nil, Bool.and_true, hall, Bool.true_and])
                have HF := Lib.hid (show okR fl ((rgs c)[j]'(show j < (rgs c).length from hlt)) = false → (rgs c).all (okR fl) = false from fun e => by rw [List.all_eq_false]; exact ⟨_, List.getElem_mem _, by rw [e]; decide⟩)
                have hlk : (j : Int) < 4 := by omega
                generalize (rgs c)[j]'(show j < (rgs c).length from hlt) = x at hok hrd HA HF
                obtain ⟨a, n, lo, hi⟩ := x
                clear hb hall
                by_cases hm : (bits BinOp.and .i64 fl a != 0) = true
                · have hz0 : (bits BinOp.and .i64 fl a == 0) = false := by simpa [bne] using hm
                  by_cases hn1 : n < lo
                  · go_wp2
                    go_ret
                    exact ⟨by rw [HC.out]; unfold chkF; rw [if_neg (by rw [HB.out]; decide), if_neg (by rw [HN.out]; decide), if_neg (by rw [HJ.out]; decide), if_pos (HF.out (by unfold okR; rw [hz0, decide_eq_false (show ¬ lo ≤ n by omega)]; rfl))]; rfl, Below.step HB4.out (Below.step HB2.out.1 (below_alloc _ _))⟩
                  · by_cases hn2 : hi < n
                    · go_wp2
                      go_ret
                      exact ⟨by rw [HC.out]; unfold chkF; rw [if_neg (by rw [HB.out]; decide), if_neg (by rw [HN.out]; decide), if_neg (by rw [HJ.out]; decide), if_pos (HF.out (by unfold okR; rw [hz0, decide_eq_false (show ¬ n ≤ hi by omega), Bool.and_false]; rfl))]; rfl, Below.step HB4.out (Below.step HB2.out.1 (below_alloc _ _))⟩
                    · go_wp2
                      go_roundw
                      case rel => exact ⟨j + 1, hlt, by go_num, by rw [HA.out]; unfold okR; rw [decide_eq_true (show lo ≤ n by omega), decide_eq_true (show n ≤ hi by omega)]; simp, Below.step HB2.out.1 (below_alloc _ _)⟩
                      case measure => simp [intOf] <;> omega
                · have hm' : (bits BinOp.and .i64 fl a != 0) = false := by simpa using hm
                  have hz0 : (bits BinOp.and .i64 fl a == 0) = true := by simpa [bne] using hm'
                  clear hm
                  go_wp2
                  go_roundw
                  case rel => exact ⟨j + 1, hlt, by go_num, by rw [HA.out]; unfold okR; rw [hz0]; rfl, Below.step HB2.out.1 (below_alloc _ _)⟩
                  case measure => simp [intOf] <;> omega
              · have hj4 : j = 4 := by omega
                subst hj4
                obtain ⟨m1, m2⟩ := HT.out _ hb
                have HQ := Lib.hid (And.intro (show (rgs c).all (okR fl) = true from hall) (Below.step HB4.out hb))
                clear hall hb
                obtain ⟨tb, htb⟩ : ∃ tb, (bits BinOp.and .i64 fl 64 == 0) = tb := ⟨_, rfl⟩
                obtain ⟨te, hte⟩ : ∃ te, c.text.toList.isEmpty = te := ⟨_, rfl⟩
                have HY := Lib.hid (And.intro htb hte)
                have hch : chkF c fl most = if tb = true then 0 else if te = true then 1 else if most < c.text.size then 5 else if crL c.text then 6 else 0 := by
                  unfold chkF
                  rw [if_neg (by rw [HB.out]; decide), if_neg (by rw [HN.out]; decide), if_neg (by rw [HJ.out]; decide), if_neg (by rw [HQ.out.1]; decide), htb, hte]
                have HCH := Lib.hid hch
                clear hch
                cases tb with
                | true =>
                  go_wp2
                  go_ret
                  exact ⟨by rw [HC.out, HCH.out]; rfl, HQ.out.2⟩
                | false =>
                  cases te with
                  | true =>
                    go_wp2
                    go_ret
                    exact ⟨by rw [HC.out, HCH.out]; rfl, HQ.out.2⟩
                  | false =>
                    by_cases hl : most < c.text.size
                    · go_wp2
                      go_ret
                      exact ⟨by rw [HC.out, HCH.out, if_neg (by decide), if_neg (by decide), if_pos hl]; rfl, HQ.out.2⟩
                    · obtain ⟨cr, hcr⟩ : ∃ cr, decide (0 ≤ Lib.indexByte c.text.data.toList 13) = cr := ⟨_, rfl⟩
                      cases cr with
                      | true =>
                        go_wp2_with (go_at_call 39; refine (Tryd.strings_Contains_one c.text 13 _).mono ?_; rintro e w1 ⟨rfl, rfl⟩; rw [hcr])
                        go_ret
                        exact ⟨by rw [HC.out, HCH.out, if_neg (by decide), if_neg (by decide), if_neg (by omega), if_pos (show crL c.text = true from hcr)]; rfl, HQ.out.2⟩
                      | false =>
                        go_wp2_with (go_at_call 39; refine (Tryd.strings_Contains_one c.text 13 _).mono ?_; rintro e w1 ⟨rfl, rfl⟩; rw [hcr])
                        go_ret
                        exact ⟨by rw [HC.out, HCH.out, if_neg (by decide), if_neg (by decide), if_neg (by omega), if_neg (by unfold crL; rw [hcr]; decide)]; rfl, HQ.out.2⟩
      | false =>
        have HN : Hid ((bits BinOp.and .i64 fl 1 != 0 && !siteB (bl c.name)) = false) := Lib.hid (by rw [HN0.out.1]; rfl)
        obtain ⟨ib, hib⟩ : ∃ ib, (bits BinOp.and .i64 fl 2 != 0) = ib := ⟨_, rfl⟩
        obtain ⟨z, hz⟩ : ∃ z, decide (c.id = zI) = z := ⟨_, rfl⟩
        have HI := Lib.hid (And.intro hib hz)
        have l2 : ∀ wx, Below u.heap.size u wx → wx.cell? ⟨b, 34, none⟩ = some (.int .i64 c.size) ∧ wx.cell? ⟨b, 35, none⟩ = some (.int .i64 c.from_) ∧ wx.cell? ⟨b, 36, none⟩ = some (.int .i64 c.count) ∧ wx.cell? ⟨b, 37, none⟩ = some (.int .i64 c.code) := fun wx hb => ⟨((hrow1.keep hb).cell 34).trans (cC_at (aC_34 c)), ((hrow1.keep hb).cell 35).trans (cC_at (aC_35 c)), ((hrow1.keep hb).cell 36).trans (cC_at (aC_36 c)), ((hrow1.keep hb).cell 37).trans (cC_at (aC_37 c))⟩
        have HL2 := Lib.hid l2
        have HRS := Lib.hid (And.intro hrow1 hrow2)
        clear hrow1 hrow2 l2
        cases ib with
        | true =>
          cases z with
          | true =>
            go_wp2_with (go_at_call 38; refine (isZero38 c.id u).mono ?_; rintro e w1 ⟨rfl, hb⟩; rw [hz]; have HZ := Lib.hid hb; clear hb)
            go_ret
            exact ⟨by rw [HC.out]; unfold chkF; rw [if_neg (by rw [HB.out]; decide), if_neg (by rw [HN.out]; decide), if_pos (by rw [HI.out.1, HI.out.2]; rfl)]; rfl, Below.step HW2 (Below.step HE.out HZ.out)⟩
          | false =>
            go_wp2_with (go_at_call 38; refine (isZero38 c.id u).mono ?_; rintro e w1 ⟨rfl, hb⟩; rw [hz]; have l1 := cell_below l1 hb; obtain ⟨n1, n2, n3, n4⟩ := HL2.out _ hb; have HZ := Lib.hid hb; clear hb)
            have HJ : Hid ((bits BinOp.and .i64 fl 2 != 0 && decide (c.id = zI)) = false) := Lib.hid (by rw [HI.out.1, HI.out.2]; rfl)
            change Code.wp _ _ _ _ (w1.alloc (.cells (aGs (rgs c)) 81))
            have S4 : Sl (w1.alloc (.cells (aGs (rgs c)) 81)) cG (some ⟨w1.heap.size, 0, none⟩) (rgs c) := fun _ => ⟨_, rfl, at_new w1 _ 81 _ rfl⟩
            have HB4 := Lib.hid (Below.step HW2 (Below.step HE.out (Below.step HZ.out (below_alloc w1 (.cells (aGs (rgs c)) 81)))))
            have l1 := cell_below l1 (below_alloc w1 (.cells (aGs (rgs c)) 81))
            have hg4 : g3 < (w1.alloc (.cells (aGs (rgs c)) 81)).heap.size := by have := HRS.out.2.lt; have := HZ.out.size; simp; omega
            have j38 : ∀ wx, Below (w1.alloc (.cells (aGs (rgs c)) 81)).heap.size (w1.alloc (.cells (aGs (rgs c)) 81)) wx → wx.cell? ⟨b, 38, none⟩ = some (.string c.text) ∧ wx.cell? ⟨g3, 2, none⟩ = some (.int .i64 most) := fun wx hb => ⟨((HRS.out.1.keep (Below.step HZ.out (Below.step (below_alloc w1 (.cells (aGs (rgs c)) 81)) hb))).cell 38).trans (cC_at (aC_38 c)), (HRS.out.2.keep (Below.step HZ.out (Below.step (below_alloc w1 (.cells (aGs (rgs c)) 81)) hb))).cell 2⟩
            have HT := Lib.hid j38
            clear j38 n1 n2 n3 n4
            generalize w1.alloc (.cells (aGs (rgs c)) 81) = W4 at S4 HB4 l1 hg4 HT ⊢
            have HS := Lib.hid (And.intro S4 (And.intro l1 hg4))
            clear S4 l1 hg4
            go_loopw [57] (fun i wr => ∃ j : Nat, j ≤ 4 ∧ i = .int .i64 j ∧ ((rgs c).take j).all (okR fl) = true ∧ Below W4.heap.size W4 wr) (fun i _ => 4 - (intOf i).toNat)
            case atStart => exact ⟨0, by omega, rfl, rfl, Below.refl _ _⟩
            case round =>
              obtain ⟨j, hj, rfl, hall, hb⟩ := hrel
              have l1 := cell_below HS.out.2.1 hb
              have hg4 : g3 < wr.heap.size := Nat.lt_of_lt_of_le HS.out.2.2 hb.size
              have HB2 := Lib.hid (And.intro hb hall)
              by_cases hlt : j < 4
              · obtain ⟨ad, had, hok, hrd⟩ := Sl.rg (HS.out.1.keep hb) (show j < (rgs c).length from hlt)
                obtain rfl := Option.some.inj had
                have hao := add_off w1.heap.size 0 (j * 4)
                rw [Nat.zero_add] at hao
                rw [hao] at hok hrd
                clear had hao
                have HA := Lib.hid (show ((rgs c).take (j + 1)).all (okR fl) = _ by rw [List.take_succ_eq_append_getElem (show j < (rgs c).length from hlt), List.all_append, List.all_cons, List.all_nil, Bool.and_true, hall, Bool.true_and])
                have HF := Lib.hid (show okR fl ((rgs c)[j]'(show j < (rgs c).length from hlt)) = false → (rgs c).all (okR fl) = false from fun e => by rw [List.all_eq_false]; exact ⟨_, List.getElem_mem _, by rw [e]; decide⟩)
                have hlk : (j : Int) < 4 := by omega
                generalize (rgs c)[j]'(show j < (rgs c).length from hlt) = x at hok hrd HA HF
                obtain ⟨a, n, lo, hi⟩ := x
                clear hb hall
                by_cases hm : (bits BinOp.and .i64 fl a != 0) = true
                · have hz0 : (bits BinOp.and .i64 fl a == 0) = false := by simpa [bne] using hm
                  by_cases hn1 : n < lo
                  · go_wp2
                    go_ret
                    exact ⟨by rw [HC.out]; unfold chkF; rw [if_neg (by rw [HB.out]; decide), if_neg (by rw [HN.out]; decide), if_neg (by rw [HJ.out]; decide), if_pos (HF.out (by unfold okR; rw [hz0, decide_eq_false (show ¬ lo ≤ n by omega)]; rfl))]; rfl, Below.step HB4.out (Below.step HB2.out.1 (below_alloc _ _))⟩
                  · by_cases hn2 : hi < n
                    · go_wp2
                      go_ret
                      exact ⟨by rw [HC.out]; unfold chkF; rw [if_neg (by rw [HB.out]; decide), if_neg (by rw [HN.out]; decide), if_neg (by rw [HJ.out]; decide), if_pos (HF.out (by unfold okR; rw [hz0, decide_eq_false (show ¬ n ≤ hi by omega), Bool.and_false]; rfl))]; rfl, Below.step HB4.out (Below.step HB2.out.1 (below_alloc _ _))⟩
                    · go_wp2
                      go_roundw
                      case rel => exact ⟨j + 1, hlt, by go_num, by rw [HA.out]; unfold okR; rw [decide_eq_true (show lo ≤ n by omega), decide_eq_true (show n ≤ hi by omega)]; simp, Below.step HB2.out.1 (below_alloc _ _)⟩
                      case measure => simp [intOf] <;> omega
                · have hm' : (bits BinOp.and .i64 fl a != 0) = false := by simpa using hm
                  have hz0 : (bits BinOp.and .i64 fl a == 0) = true := by simpa [bne] using hm'
                  clear hm
                  go_wp2
                  go_roundw
                  case rel => exact ⟨j + 1, hlt, by go_num, by rw [HA.out]; unfold okR; rw [hz0]; rfl, Below.step HB2.out.1 (below_alloc _ _)⟩
                  case measure => simp [intOf] <;> omega
              · have hj4 : j = 4 := by omega
                subst hj4
                obtain ⟨m1, m2⟩ := HT.out _ hb
                have HQ := Lib.hid (And.intro (show (rgs c).all (okR fl) = true from hall) (Below.step HB4.out hb))
                clear hall hb
                obtain ⟨tb, htb⟩ : ∃ tb, (bits BinOp.and .i64 fl 64 == 0) = tb := ⟨_, rfl⟩
                obtain ⟨te, hte⟩ : ∃ te, c.text.toList.isEmpty = te := ⟨_, rfl⟩
                have HY := Lib.hid (And.intro htb hte)
                have hch : chkF c fl most = if tb = true then 0 else if te = true then 1 else if most < c.text.size then 5 else if crL c.text then 6 else 0 := by
                  unfold chkF
                  rw [if_neg (by rw [HB.out]; decide), if_neg (by rw [HN.out]; decide), if_neg (by rw [HJ.out]; decide), if_neg (by rw [HQ.out.1]; decide), htb, hte]
                have HCH := Lib.hid hch
                clear hch
                cases tb with
                | true =>
                  go_wp2
                  go_ret
                  exact ⟨by rw [HC.out, HCH.out]; rfl, HQ.out.2⟩
                | false =>
                  cases te with
                  | true =>
                    go_wp2
                    go_ret
                    exact ⟨by rw [HC.out, HCH.out]; rfl, HQ.out.2⟩
                  | false =>
                    by_cases hl : most < c.text.size
                    · go_wp2
                      go_ret
                      exact ⟨by rw [HC.out, HCH.out, if_neg (by decide), if_neg (by decide), if_pos hl]; rfl, HQ.out.2⟩
                    · obtain ⟨cr, hcr⟩ : ∃ cr, decide (0 ≤ Lib.indexByte c.text.data.toList 13) = cr := ⟨_, rfl⟩
                      cases cr with
                      | true =>
                        go_wp2_with (go_at_call 39; refine (Tryd.strings_Contains_one c.text 13 _).mono ?_; rintro e w1 ⟨rfl, rfl⟩; rw [hcr])
                        go_ret
                        exact ⟨by rw [HC.out, HCH.out, if_neg (by decide), if_neg (by decide), if_neg (by omega), if_pos (show crL c.text = true from hcr)]; rfl, HQ.out.2⟩
                      | false =>
                        go_wp2_with (go_at_call 39; refine (Tryd.strings_Contains_one c.text 13 _).mono ?_; rintro e w1 ⟨rfl, rfl⟩; rw [hcr])
                        go_ret
                        exact ⟨by rw [HC.out, HCH.out, if_neg (by decide), if_neg (by decide), if_neg (by omega), if_neg (by unfold crL; rw [hcr]; decide)]; rfl, HQ.out.2⟩
        | false =>
          obtain ⟨n1, n2, n3, n4⟩ := HL2.out _ (Below.refl _ u)
          have HZ := Lib.hid (Below.refl u.heap.size u)
          have HJ : Hid ((bits BinOp.and .i64 fl 2 != 0 && decide (c.id = zI)) = false) := Lib.hid (by rw [HI.out.1]; rfl)
          go_wp2
          change Code.wp _ _ _ _ (u.alloc (.cells (aGs (rgs c)) 81))
          have S4 : Sl (u.alloc (.cells (aGs (rgs c)) 81)) cG (some ⟨u.heap.size, 0, none⟩) (rgs c) := fun _ => ⟨_, rfl, at_new u _ 81 _ rfl⟩
          have HB4 := Lib.hid (Below.step HW2 (Below.step HE.out (Below.step HZ.out (below_alloc u (.cells (aGs (rgs c)) 81)))))
          have l1 := cell_below l1 (below_alloc u (.cells (aGs (rgs c)) 81))
          have hg4 : g3 < (u.alloc (.cells (aGs (rgs c)) 81)).heap.size := by have := HRS.out.2.lt; have := HZ.out.size; simp; omega
          have j38 : ∀ wx, Below (u.alloc (.cells (aGs (rgs c)) 81)).heap.size (u.alloc (.cells (aGs (rgs c)) 81)) wx → wx.cell? ⟨b, 38, none⟩ = some (.string c.text) ∧ wx.cell? ⟨g3, 2, none⟩ = some (.int .i64 most) := fun wx hb => ⟨((HRS.out.1.keep (Below.step HZ.out (Below.step (below_alloc u (.cells (aGs (rgs c)) 81)) hb))).cell 38).trans (cC_at (aC_38 c)), (HRS.out.2.keep (Below.step HZ.out (Below.step (below_alloc u (.cells (aGs (rgs c)) 81)) hb))).cell 2⟩
          have HT := Lib.hid j38
          clear j38 n1 n2 n3 n4
          generalize u.alloc (.cells (aGs (rgs c)) 81) = W4 at S4 HB4 l1 hg4 HT ⊢
          have HS := Lib.hid (And.intro S4 (And.intro l1 hg4))
          clear S4 l1 hg4
          go_loopw [57] (fun i wr => ∃ j : Nat, j ≤ 4 ∧ i = .int .i64 j ∧ ((rgs c).take j).all (okR fl) = true ∧ Below W4.heap.size W4 wr) (fun i _ => 4 - (intOf i).toNat)
          case atStart => exact ⟨0, by omega, rfl, rfl, Below.refl _ _⟩
          case round =>
            obtain ⟨j, hj, rfl, hall, hb⟩ := hrel
            have l1 := cell_below HS.out.2.1 hb
            have hg4 : g3 < wr.heap.size := Nat.lt_of_lt_of_le HS.out.2.2 hb.size
            have HB2 := Lib.hid (And.intro hb hall)
            by_cases hlt : j < 4
            · obtain ⟨ad, had, hok, hrd⟩ := Sl.rg (HS.out.1.keep hb) (show j < (rgs c).length from hlt)
              obtain rfl := Option.some.inj had
              have hao := add_off u.heap.size 0 (j * 4)
              rw [Nat.zero_add] at hao
              rw [hao] at hok hrd
              clear had hao
              have HA := Lib.hid (show ((rgs c).take (j + 1)).all (okR fl) = _ by rw [List.take_succ_eq_append_getElem (show j < (rgs c).length from hlt), List.all_append, List.all_cons, List.all_nil, Bool.and_true, hall, Bool.true_and])
              have HF := Lib.hid (show okR fl ((rgs c)[j]'(show j < (rgs c).length from hlt)) = false → (rgs c).all (okR fl) = false from fun e => by rw [List.all_eq_false]; exact ⟨_, List.getElem_mem _, by rw [e]; decide⟩)
              have hlk : (j : Int) < 4 := by omega
              generalize (rgs c)[j]'(show j < (rgs c).length from hlt) = x at hok hrd HA HF
              obtain ⟨a, n, lo, hi⟩ := x
              clear hb hall
              by_cases hm : (bits BinOp.and .i64 fl a != 0) = true
              · have hz0 : (bits BinOp.and .i64 fl a == 0) = false := by simpa [bne] using hm
                by_cases hn1 : n < lo
                · go_wp2
                  go_ret
                  exact ⟨by rw [HC.out]; unfold chkF; rw [if_neg (by rw [HB.out]; decide), if_neg (by rw [HN.out]; decide), if_neg (by rw [HJ.out]; decide), if_pos (HF.out (by unfold okR; rw [hz0, decide_eq_false (show ¬ lo ≤ n by omega)]; rfl))]; rfl, Below.step HB4.out (Below.step HB2.out.1 (below_alloc _ _))⟩
                · by_cases hn2 : hi < n
                  · go_wp2
                    go_ret
                    exact ⟨by rw [HC.out]; unfold chkF; rw [if_neg (by rw [HB.out]; decide), if_neg (by rw [HN.out]; decide), if_neg (by rw [HJ.out]; decide), if_pos (HF.out (by unfold okR; rw [hz0, decide_eq_false (show ¬ n ≤ hi by omega), Bool.and_false]; rfl))]; rfl, Below.step HB4.out (Below.step HB2.out.1 (below_alloc _ _))⟩
                  · go_wp2
                    go_roundw
                    case rel => exact ⟨j + 1, hlt, by go_num, by rw [HA.out]; unfold okR; rw [decide_eq_true (show lo ≤ n by omega), decide_eq_true (show n ≤ hi by omega)]; simp, Below.step HB2.out.1 (below_alloc _ _)⟩
                    case measure => simp [intOf] <;> omega
              · have hm' : (bits BinOp.and .i64 fl a != 0) = false := by simpa using hm
                have hz0 : (bits BinOp.and .i64 fl a == 0) = true := by simpa [bne] using hm'
                clear hm
                go_wp2
                go_roundw
                case rel => exact ⟨j + 1, hlt, by go_num, by rw [HA.out]; unfold okR; rw [hz0]; rfl, Below.step HB2.out.1 (below_alloc _ _)⟩
                case measure => simp [intOf] <;> omega
            · have hj4 : j = 4 := by omega
              subst hj4
              obtain ⟨m1, m2⟩ := HT.out _ hb
              have HQ := Lib.hid (And.intro (show (rgs c).all (okR fl) = true from hall) (Below.step HB4.out hb))
              clear hall hb
              obtain ⟨tb, htb⟩ : ∃ tb, (bits BinOp.and .i64 fl 64 == 0) = tb := ⟨_, rfl⟩
              obtain ⟨te, hte⟩ : ∃ te, c.text.toList.isEmpty = te := ⟨_, rfl⟩
              have HY := Lib.hid (And.intro htb hte)
              have hch : chkF c fl most = if tb = true then 0 else if te = true then 1 else if most < c.text.size then 5 else if crL c.text then 6 else 0 := by
                unfold chkF
                rw [if_neg (by rw [HB.out]; decide), if_neg (by rw [HN.out]; decide), if_neg (by rw [HJ.out]; decide), if_neg (by rw [HQ.out.1]; decide), htb, hte]
              have HCH := Lib.hid hch
              clear hch
              cases tb with
              | true =>
                go_wp2
                go_ret
                exact ⟨by rw [HC.out, HCH.out]; rfl, HQ.out.2⟩
              | false =>
                cases te with
                | true =>
                  go_wp2
                  go_ret
                  exact ⟨by rw [HC.out, HCH.out]; rfl, HQ.out.2⟩
                | false =>
                  by_cases hl : most < c.text.size
                  · go_wp2
                    go_ret
                    exact ⟨by rw [HC.out, HCH.out, if_neg (by decide), if_neg (by decide), if_pos hl]; rfl, HQ.out.2⟩
                  · obtain ⟨cr, hcr⟩ : ∃ cr, decide (0 ≤ Lib.indexByte c.text.data.toList 13) = cr := ⟨_, rfl⟩
                    cases cr with
                    | true =>
                      go_wp2_with (go_at_call 39; refine (Tryd.strings_Contains_one c.text 13 _).mono ?_; rintro e w1 ⟨rfl, rfl⟩; rw [hcr])
                      go_ret
                      exact ⟨by rw [HC.out, HCH.out, if_neg (by decide), if_neg (by decide), if_neg (by omega), if_pos (show crL c.text = true from hcr)]; rfl, HQ.out.2⟩
                    | false =>
                      go_wp2_with (go_at_call 39; refine (Tryd.strings_Contains_one c.text 13 _).mono ?_; rintro e w1 ⟨rfl, rfl⟩; rw [hcr])
                      go_ret
                      exact ⟨by rw [HC.out, HCH.out, if_neg (by decide), if_neg (by decide), if_neg (by omega), if_neg (by unfold crL; rw [hcr]; decide)]; rfl, HQ.out.2⟩
end Go.Proofs.YtfbpipknhghneaaDoor
