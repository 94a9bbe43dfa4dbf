/- bulletinlaw34.TakeResume: whatever the text, the parts and the drops, the law returns true. -/
import Derived.Test.YtgojaelkdpabkaaGreatDoorRsm
import Derived.Test.YtgojaelkdpabkaaGreatDoorTkC
import Derived.Deep.CutRange
import Derived.Deep.CutBlock
namespace Go.Proofs.YtgojaelkdpabkaaGreatDoor
open Go.RowKit
set_option maxRecDepth 100000 in
set_option maxHeartbeats 3200000 in
theorem law5_out (t : ByteArray) (A : Option Addr) (cap : Nat) (ps : List UInt8) (d : Int) (w : World) (hL : Laid w) (h : t.size = 0 ∨ 200 < t.size ∨ 60 < ps.length) :
    Calls Tryz.prog 5 #[.string t, .slice A ps.length cap, .int .u64 d] w fun e w' => e = .returned (.bool true) ∧ Below w.heap.size w w' := by
  have HL := Lib.hid hL
  clear hL
  by_cases h0 : t.size = 0
  · have ht : t = ⟨#[]⟩ := ByteArray.ext (Array.eq_empty_of_size_eq_zero h0)
    subst ht
    clear h h0
    go_enter Tryz.func5, Tryz.ntmps5
    go_wp2_with (first
      | (go_at_call 11; refine (known34 w1 (HL.out.keep H1.out)).mono ?_; rintro e w2 ⟨rfl, hb2⟩; have H2 := Lib.hid (Below.step H1.out hb2); clear hb2)
      | (go_at_call 11; refine (known34 w HL.out).mono ?_; rintro e w1 ⟨rfl, hb1⟩; have H1 := Lib.hid hb1; clear hb1))
    go_ret
    exact ⟨rfl, H2.out⟩
  · have he : t.toList.isEmpty = false := by rw [isE, decide_eq_false_iff_not]; exact h0
    by_cases h2 : 200 < t.size
    · have h21 : (200 : Int) < (t.size : Int) := by omega
      clear h h0
      go_enter Tryz.func5, Tryz.ntmps5
      go_wp2_with (first
        | (go_at_call 11; refine (known34 w1 (HL.out.keep H1.out)).mono ?_; rintro e w2 ⟨rfl, hb2⟩; have H2 := Lib.hid (Below.step H1.out hb2); clear hb2)
        | (go_at_call 11; refine (known34 w HL.out).mono ?_; rintro e w1 ⟨rfl, hb1⟩; have H1 := Lib.hid hb1; clear hb1))
      go_ret
      exact ⟨rfl, H2.out⟩
    · have h21 : ¬ (200 : Int) < (t.size : Int) := by omega
      have h31 : (60 : Int) < (ps.length : Int) := by omega
      clear h h0
      go_enter Tryz.func5, Tryz.ntmps5
      go_wp2_with (first
        | (go_at_call 11; refine (known34 w1 (HL.out.keep H1.out)).mono ?_; rintro e w2 ⟨rfl, hb2⟩; have H2 := Lib.hid (Below.step H1.out hb2); clear hb2)
        | (go_at_call 11; refine (known34 w HL.out).mono ?_; rintro e w1 ⟨rfl, hb1⟩; have H1 := Lib.hid hb1; clear hb1))
      go_ret
      exact ⟨rfl, H2.out⟩
theorem At.txi {w : World} {ad : Addr} {x : Id} {t : ByteArray} (h : At w ad (cTx (x, t))) : okA w ad 32 = true ∧ rdA w ad 32 = vI x := by
  have h0 : At w ad (cI x) := ⟨h.1, fun j u hj => h.2 j u (by
    have hl := (List.getElem?_eq_some_iff.1 hj).1
    unfold cTx
    rw [List.getElem?_append_left hl]
    exact hj)⟩
  exact h0.idv
theorem qn_at {F : List Nat} {w : World} {q : SlV} {x : Qn} (h : SlF F w cQn q [x]) : ∃ ad c, q = (some ad, 1, c) ∧ At w ad (cQn x) := by
  obtain ⟨A, n, c⟩ := q
  obtain ⟨h1, h2, h3, -⟩ := h
  obtain ⟨ad, e, hat⟩ := h3 (by simp)
  cases e
  have hn : n = 1 := h1.symm
  subst hn
  exact ⟨ad, c, rfl, by simpa using hat⟩
theorem wrap_nm (n : Nat) (h : (n : Int) ≤ 200) : IntKind.i64.wrap (n : Int) = (n : Int) := by
  exact IntWalk.i64_in _ (by omega)
/-- The taker behind a part of the text. -/
def DWd (w0 : World) (b g0 : Nat) (s1 : Tk) (W0 u : World) : Bool → Prop
  | false => Below W0.heap.size W0 u
  | true => ∃ F', TkB w0 b s1 F' u ∧ Row u g0 (cI i7) 30 ∧ g0 ∉ F'
set_option maxRecDepth 100000 in
set_option maxHeartbeats 3200000 in
theorem law5_in (t : ByteArray) (A : Option Addr) (cap : Nat) (ps : List UInt8) (d : Int) (w : World) (hL : Laid w) (hs : Sl w (fun b => [cB b]) A ps) (h0 : t.size ≠ 0) (h2 : t.size ≤ 200) (h3 : ps.length ≤ 60) :
    Calls Tryz.prog 5 #[.string t, .slice A ps.length cap, .int .u64 d] w fun e w' => e = .returned (.bool true) ∧ Below w.heap.size w w' := by
  have HL := Lib.hid (And.intro hL hs)
  clear hL hs
  have he : t.toList.isEmpty = false := by rw [isE, decide_eq_false_iff_not]; exact h0
  have h21 : ¬ (200 : Int) < (t.size : Int) := by omega
  have h31 : ¬ (60 : Int) < (ps.length : Int) := by omega
  have HH := Lib.hid (And.intro h0 (And.intro h2 h3))
  go_enter Tryz.func5, Tryz.ntmps5
  go_wp2_with (go_at_call 11; refine (known34 w HL.out.1).mono ?_; rintro e w1 ⟨rfl, hb1⟩; have H1 := Lib.hid hb1; clear hb1)
  clear h31 h21
  go_loopw [7] (fun i wr => ∃ (k : Nat), i = .int .i64 k ∧ k ≤ t.size ∧ (∀ (j : Nat) (hj : j < t.size), j < k → ((t[j].toNat : Int) == 13) = false) ∧ wr = w1) (fun i _ => t.size + 1 - (intOf i).toNat)
  case atStart => exact ⟨0, rfl, Nat.zero_le _, fun j _ hj => absurd hj (Nat.not_lt_zero _), rfl⟩
  case round =>
    obtain ⟨k, rfl, hk, hcr, hw⟩ := hrel
    have HC := Lib.hid hcr
    clear hcr
    by_cases hlt : k < t.size
    · have hlt1 : (k : Int) < (t.size : Int) := by omega
      cases hb : ((t[k].toNat : Int) == 13) with
      | true =>
        go_wp2
        go_ret
        exact ⟨rfl, H1.out⟩
      | false =>
        have HB := Lib.hid hb
        go_wp2
        go_roundw
        case rel =>
          refine ⟨k + 1, by go_num, hlt, fun j hj hjk => ?_, trivial⟩
          rcases Nat.lt_succ_iff_lt_or_eq.1 hjk with h | h
          · exact HC.out j hj h
          · subst h
            exact HB.out
        case measure => simp [intOf] <;> omega
    · have hlt1 : ¬ (k : Int) < (t.size : Int) := by omega
      have HCR := Lib.hid (show ∀ (j : Nat) (hj : j < t.size), ((t[j].toNat : Int) == 13) = false from fun j hj => HC.out j hj (by omega))
      subst hw
      go_upto_region 8 with (fail)
      clear hlt hlt1 hk
      go_wp2_with (go_at_call 13; refine (new13_ok 3 (by decide) (by decide) wr).mono ?_; rintro e w3 ⟨rfl, hT3, hb3⟩; obtain ⟨b, hb⟩ : ∃ b, wr.heap.size = b := ⟨_, rfl⟩; have h3' := TkB.new H1.out (by decide) (by decide) hT3 hb3; rw [hb] at h3'; rw [hb]; have rb : (blA 30 #[(0, .int .u8 7)]).run Tryz.prog w3 = .ok (vI i7) w3 := bl_idB w3 7 7 (by decide); obtain ⟨g0, hg0⟩ : ∃ g0, w3.heap.size = g0 := ⟨_, rfl⟩; obtain ⟨W4, hW4⟩ : ∃ W4, w3.alloc (.cells (aI i7) 30) = W4 := ⟨_, rfl⟩; have H4 := Lib.hid (show TkB w b (rsS t false 0) [b] W4 ∧ Row W4 g0 (cI i7) 30 ∧ g0 ∉ [b] from ⟨h3'.keep (by rw [← hW4]; exact below_alloc _ _), by rw [← hW4, ← hg0]; exact Row.new w3 (cI i7) _, fun hm => by have := h3'.lt g0 hm; omega⟩); clear hb hT3 hb3 h3')
      clear rb hW4 hg0
      go_loopw [11, 12] (fun a i wx => ∃ (k n : Nat) (o : Bool) (F : List Nat), i = .int .i64 k ∧ a = .int .i64 n ∧ k ≤ ps.length + 1 ∧ n ≤ t.size ∧ (k = ps.length + 1 → n = t.size ∧ o = true) ∧ TkB w b (rsS t o n) F wx ∧ Row wx g0 (cI i7) 30 ∧ g0 ∉ F) (fun _ i _ => ps.length + 2 - (intOf i).toNat)
      case atStart => exact ⟨0, 0, false, [b], rfl, rfl, Nat.zero_le _, Nat.zero_le _, fun h => by omega, H4.out⟩
      case round =>
        rename World => wx
        obtain ⟨k, n, o, F, rfl, rfl, hk, hn, hend, hT⟩ := hrel
        have HT := Lib.hid hT
        have hm60 : ps.length ≤ 60 := HH.out.2.2
        have hm200 : t.size ≤ 200 := HH.out.2.1
        clear hT
        by_cases hlt : k ≤ ps.length
        · have hlt1 : (k : Int) ≤ (ps.length : Int) := by omega
          clear hend
          go_upto_if 69 with (go_at_call 21; refine (HT.out.1.isOpen).mono ?_; rw [show (rsS t o n).opn = o by cases o <;> rfl]; rintro e w5 ⟨rfl, hb5⟩; have H5 := Lib.hid (And.intro (HT.out.1.keep hb5) (And.intro (HT.out.2.1.keep hb5) HT.out.2.2)); clear hb5)
          go_cut [13, 14, 15, 16, 17] from 61 to 171 (fun _ _ _ _ _ w' => ∃ F', TkB w b (rsP t n) F' w' ∧ Row w' g0 (cI i7) 30 ∧ g0 ∉ F')
          case first =>
            cases o with
            | true =>
              go_wp2
              go_meet
              case rel => exact ⟨F, H5.out⟩
            | false =>
              have HO := Lib.hid (rs_off (t := t) hn (by have := HH.out.1; omega) hm200)
              have HWT := Lib.hid (rs_want (t := t) hn hm200)
              go_wp2_with (first
                | (go_at_call 16; refine (H7.out.1.answer HL.out.1 (wantC i7 n) (show (0 : Nat) ≤ 1000000 by decide)).mono ?_; rw [HWT.out]; rintro e w8 ⟨rfl, F8, h8, k8⟩; obtain ⟨r9, W9, hr9, ro9, hW9, hrow9, hb9⟩ := hold1 w8 (wantC i7 n); have H9 := Lib.hid (And.intro (h8.keep hb9) (And.intro ((H7.out.2.1.kp k8 H7.out.2.2).keep hb9) (k8.out g0 H7.out.2.1.lt H7.out.2.2).1)); clear h8 k8 hrow9 hb9)
                | (go_at_call 15; refine (H6.out.1.hear HL.out.1 (offC i7 t.size) (show (0 : Nat) ≤ 1000000 by decide) (show (0 : Nat) ≤ 1000000 by decide)).mono ?_; rw [HO.out]; rintro e w7 ⟨q7, l7, rfl, F7, h7, k7, hq7, -⟩; obtain ⟨ad7, c7, rfl, hat7⟩ := qn_at hq7; have r73 : w7.cell? ⟨ad7.block, ad7.off + 33, none⟩ = some (.int .i64 n) := hat7.2 33 _ rfl; have hr7 := H6.out.2.1.kp k7 H6.out.2.2; have qq := Row.okw hr7 (cI_length i7); have q71 := qq.1; have q72 : rdA w7 ⟨g0, 0, none⟩ 32 = vI i7 := qq.2; have H7 := Lib.hid (And.intro h7 (And.intro hr7 (k7.out g0 H6.out.2.1.lt H6.out.2.2).1)); clear h7 k7 hq7 hat7 hr7 qq)
                | (go_at_call 17; refine (H5.out.1.open_).mono ?_; rw [show openT (rsS t false n) = (⟨3, true, [], rsK t n⟩, 0) from rs_open]; rintro e w6 ⟨rfl, F6, h6, k6⟩; have hr6 := H5.out.2.1.kp k6 H5.out.2.2; have qq := Row.okw hr6 (cI_length i7); have q61 := qq.1; have q62 : rdA w6 ⟨g0, 0, none⟩ 32 = vI i7 := qq.2; have H6 := Lib.hid (And.intro h6 (And.intro hr6 (k6.out g0 H5.out.2.1.lt H5.out.2.2).1)); clear h6 k6 hr6 qq))
              go_meet
              case rel => exact ⟨F8, H9.out⟩
          case rest =>
            obtain ⟨F1, h1⟩ := hcut
            have HR := Lib.hid h1
            clear h1
            go_upto_if 115 with (fail)
            go_cut [18] from 61 to 171 (fun v w' => w' = wc ∧ ∃ m : Nat, v = .int .i64 m ∧ n + m ≤ t.size ∧ (k = ps.length → n + m = t.size))
            case first =>
              by_cases hkl : k < ps.length
              · have hkl1 : (k : Int) < (ps.length : Int) := by omega
                obtain ⟨ad, rfl, hat⟩ := Sl.at_ (fun _ => rfl) (HL.out.2.keep HR.out.1.bel) hkl (s := 1)
                have rp : wc.cell? (ad.add (k * 1)) = some (.int .u8 (ps[k].toNat : Int)) := hat.2 0 _ rfl
                rw [Nat.mul_one] at rp
                obtain ⟨p, hp⟩ : ∃ p : Nat, ps[k].toNat = p := ⟨_, rfl⟩
                rw [hp] at rp
                have hp256 : p < 256 := by rw [← hp]; exact UInt8.toNat_lt _
                clear hat hp
                go_wp2
                go_meet
                case rel => exact ⟨rfl, min (t.size - n) p, congrArg (Value.int .i64) (by omega), by omega, fun h => by omega⟩
              · have hkl1 : ¬ (k : Int) < (ps.length : Int) := by omega
                go_wp2
                go_meet
                case rel => exact ⟨rfl, t.size - n, congrArg (Value.int .i64) (by omega), by omega, fun _ => by omega⟩
            case rest =>
              obtain ⟨rfl, m, rfl, hnm, hme⟩ := hcut
              have HME := Lib.hid hme
              clear hme
              go_upto_if 124 with (fail)
              go_cut [19, 20, 21, 125] from 61 to 171 (fun _ _ _ _ w' => ∃ F', TkB w b (rsP t (n + m)) F' w' ∧ Row w' g0 (cI i7) 30 ∧ g0 ∉ F')
              case first =>
                by_cases hm0 : m = 0
                · subst hm0
                  go_wp2
                  go_meet
                  case rel => exact ⟨F1, HR.out⟩
                · have hmp : (0 : Int) < (m : Int) := by omega
                  have HDT := Lib.hid (rs_data (t := t) hm0 hnm hm200 HCR.out)
                  obtain ⟨nm, hnm0⟩ : ∃ nm, n + m = nm := ⟨_, rfl⟩
                  rw [hnm0] at HDT hnm
                  obtain ⟨tx, htx⟩ : ∃ tx, t.extract n nm = tx := ⟨_, rfl⟩
                  have htz : tx.size ≤ 200 := by rw [← htx, ByteArray.size_extract]; omega
                  rw [htx] at HDT
                  have HTX := Lib.hid (And.intro htx htz)
                  have HNM := Lib.hid (And.intro hnm0 (And.intro (show (n : Int) ≤ (nm : Int) by omega) (show (nm : Int) ≤ (t.size : Int) by omega)))
                  clear htx htz hm0 hnm0
                  go_upto_region 29 with (fail)
                  refine AnyO.wp_anyI (by kernel_rfl) (by kernel_rfl) (AnyO.InvG (σ := SlV × SlV) (fun σ => AnyO.pvL [some (.pointer (some ⟨b, 0, none⟩)), some (vI i7), some (.int .i64 n), some (.string t), some (.int .i64 n), some (.int .i64 n), some (.int .i64 m), some (.int .i64 nm), some (.string tx), some (vC (dataC i7 n tx)), some (.tuple #[.slice σ.1.1 σ.1.2.1 σ.1.2.2, .slice σ.2.1 σ.2.2.1 σ.2.2.2, .int .i64 0]), some (.tuple #[.slice σ.1.1 σ.1.2.1 σ.1.2.2, .slice σ.2.1 σ.2.2.1 σ.2.2.2, .int .i64 0]), some (.slice σ.1.1 σ.1.2.1 σ.1.2.2), some (.slice σ.2.1 σ.2.2.1 σ.2.2.2), some (.int .i64 0), some (.slice σ.1.1 σ.1.2.1 σ.1.2.2), some (.slice σ.2.1 σ.2.2.1 σ.2.2.2), some (.int .i64 0)]) (fun σ D u => DWd w b g0 (rsP t nm) wc u (D 10))) (AnyO.InvG.start (g := ((none, 0, 0), (none, 0, 0))) (below_drew _)) ?_ ?_
                  · intro i hi
                    have hi2 : i = 1 ∨ i = 10 ∨ i = 0 ∨ i = 2 ∨ i = 3 ∨ i = 4 ∨ i = 5 ∨ i = 6 ∨ i = 7 ∨ i = 8 ∨ i = 9 ∨ i = 11 ∨ i = 12 ∨ i = 13 ∨ i = 14 ∨ i = 15 ∨ i = 16 ∨ i = 17 := by simp only [List.size_toArray, List.length_cons, List.length_nil] at hi; omega
                    clear hi
                    rcases hi2 with rfl | rfl | rfl | rfl | rfl | rfl | rfl | rfl | rfl | rfl | rfl | rfl | rfl | rfl | rfl | rfl | rfl | rfl
                    · refine AnyO.StepI.mk rfl [] (by kernel_rfl) ?_; rintro D vs u ⟨σ, hP, hW⟩ h0 hC hp ac hb K hK
                      have s10 : ac.tmps[10]?.getD undef = .pointer (some ⟨g0, 0, none⟩) := by rw [hb]; kernel_rfl
                      rw [if_pos (AnyO.wanted_none rfl)]; clear hb hp
                      have hf9 : D 9 = false := by
                        rcases hd : D 9 with _ | _
                        · rfl
                        · have hz := hC 9 hd 1 (by rw [show AnyO.pre _ 9 = [1, 2, 8] from by kernel_rfl]; decide)
                          rw [h0] at hz
                          cases hz
                      have hf10 : D 10 = false := by
                        rcases hd : D 10 with _ | _
                        · rfl
                        · have hz := hC 10 hd 9 (by rw [show AnyO.pre _ 10 = [0, 9] from by kernel_rfl]; decide)
                          rw [hf9] at hz
                          cases hz
                      have hst := hW
                      rw [show D 10 = false from hf10] at hst
                      have q := Row.okw (HR.out.2.1.keep hst) (cI_length i7)
                      have rr1 := q.1
                      have rr2 : rdA u ⟨g0, 0, none⟩ 32 = vI i7 := q.2
                      clear hst q hf9 hf10
                      clear hC h0; have HPW := Lib.hid (And.intro hP hW); clear hP hW; go_simp; exact hK _ _ (AnyO.InvG.step (g := σ) HPW.out.1 rfl HPW.out.2)
                    · refine AnyO.StepI.mk rfl [0, 9] (by kernel_rfl) ?_; rintro D vs u ⟨σ, hP, hW⟩ h0 hC hp ac hb K hK
                      have s126 := AnyO.slot 126 hb (by kernel_rfl) (hP 0 (hp 0 (by decide)))
                      have s135 := AnyO.slot 135 hb (by kernel_rfl) (hP 9 (hp 9 (by decide)))
                      rw [if_pos (AnyO.wanted_none rfl)]; clear hb hp
                      have hf11 : D 11 = false := by
                        rcases hd : D 11 with _ | _
                        · rfl
                        · have hz := hC 11 hd 10 (by rw [show AnyO.pre _ 11 = [10] from by kernel_rfl]; decide)
                          rw [h0] at hz
                          cases hz
                      have hf12 : D 12 = false := by
                        rcases hd : D 12 with _ | _
                        · rfl
                        · have hz := hC 12 hd 11 (by rw [show AnyO.pre _ 12 = [11] from by kernel_rfl]; decide)
                          rw [hf11] at hz
                          cases hz
                      have hf13 : D 13 = false := by
                        rcases hd : D 13 with _ | _
                        · rfl
                        · have hz := hC 13 hd 11 (by rw [show AnyO.pre _ 13 = [11] from by kernel_rfl]; decide)
                          rw [hf11] at hz
                          cases hz
                      have hf14 : D 14 = false := by
                        rcases hd : D 14 with _ | _
                        · rfl
                        · have hz := hC 14 hd 11 (by rw [show AnyO.pre _ 14 = [11] from by kernel_rfl]; decide)
                          rw [hf11] at hz
                          cases hz
                      have hf15 : D 15 = false := by
                        rcases hd : D 15 with _ | _
                        · rfl
                        · have hz := hC 15 hd 12 (by rw [show AnyO.pre _ 15 = [12, 10, 0, 1, 2, 3, 4, 5, 6, 7, 8, 9, 10, 11, 12] from by kernel_rfl]; decide)
                          rw [hf12] at hz
                          cases hz
                      have hf16 : D 16 = false := by
                        rcases hd : D 16 with _ | _
                        · rfl
                        · have hz := hC 16 hd 13 (by rw [show AnyO.pre _ 16 = [13, 15, 0, 1, 2, 3, 4, 5, 6, 7, 8, 9, 10, 11, 12, 13, 15] from by kernel_rfl]; decide)
                          rw [hf13] at hz
                          cases hz
                      have hf17 : D 17 = false := by
                        rcases hd : D 17 with _ | _
                        · rfl
                        · have hz := hC 17 hd 14 (by rw [show AnyO.pre _ 17 = [14, 16, 0, 1, 2, 3, 4, 5, 6, 7, 8, 9, 10, 11, 12, 13, 14, 15, 16] from by kernel_rfl]; decide)
                          rw [hf14] at hz
                          cases hz
                      clear hC
                      have HPW := Lib.hid (And.intro hP hW); clear hP hW; go_simp; obtain ⟨hP, hW⟩ := HPW.out
                      have hst := hW
                      rw [show D 10 = false from h0] at hst
                      go_at_call 15
                      refine ((HR.out.1.keep hst).hear HL.out.1 (dataC i7 n tx) (show (0 : Nat) ≤ 1000000 by decide) (show tx.size ≤ 1000000 by have := HTX.out.2; omega)).mono ?_
                      rw [HDT.out]
                      rintro e w2 ⟨q7, l7, rfl, F7, h7, k7, -, -⟩
                      refine hK _ _ (AnyO.InvG.ghost (g := σ) (q7, l7) hP ?_ rfl ?_)
                      · intro j hj hq
                        rcases j with _ | _ | _ | _ | _ | _ | _ | _ | _ | _ | _ | _ | _ | _ | _ | _ | _ | _ | j
                        all_goals first | exact hq | exact absurd (show D 10 = true from hj) (by rw [h0]; decide) | exact absurd (show D 11 = true from hj) (by rw [hf11]; decide) | exact absurd (show D 12 = true from hj) (by rw [hf12]; decide) | exact absurd (show D 13 = true from hj) (by rw [hf13]; decide) | exact absurd (show D 14 = true from hj) (by rw [hf14]; decide) | exact absurd (show D 15 = true from hj) (by rw [hf15]; decide) | exact absurd (show D 16 = true from hj) (by rw [hf16]; decide) | exact absurd (show D 17 = true from hj) (by rw [hf17]; decide)
                      exact ⟨F7, h7, (HR.out.2.1.keep hst).kp k7 HR.out.2.2, (k7.out g0 (HR.out.2.1.keep hst).lt HR.out.2.2).1⟩
                    all_goals
                      refine AnyO.StepI.mk rfl _ rfl ?_; rintro D vs u ⟨σ, hP, hW⟩ h0 hC hp ac hb K hK
                      try have s8 : ac.tmps[8]?.getD undef = .pointer (some ⟨b, 0, none⟩) := by rw [hb]; kernel_rfl
                      try have s11 : ac.tmps[11]?.getD undef = .int .i64 n := by rw [hb]; kernel_rfl
                      try have s0 : ac.tmps[0]?.getD undef = .string t := by rw [hb]; kernel_rfl
                      try have s18 : ac.tmps[18]?.getD undef = .int .i64 m := by rw [hb]; kernel_rfl
                      try have s131 := AnyO.slot 131 hb (by kernel_rfl) (hP 5 (hp 5 (by decide +kernel)))
                      try have s132 := AnyO.slot 132 hb (by kernel_rfl) (hP 6 (hp 6 (by decide +kernel)))
                      try have s129 := AnyO.slot 129 hb (by kernel_rfl) (hP 3 (hp 3 (by decide +kernel)))
                      try have s130 := AnyO.slot 130 hb (by kernel_rfl) (hP 4 (hp 4 (by decide +kernel)))
                      try have s133 := AnyO.slot 133 hb (by kernel_rfl) (hP 7 (hp 7 (by decide +kernel)))
                      try have s127 := AnyO.slot 127 hb (by kernel_rfl) (hP 1 (hp 1 (by decide +kernel)))
                      try have s128 := AnyO.slot 128 hb (by kernel_rfl) (hP 2 (hp 2 (by decide +kernel)))
                      try have s134 := AnyO.slot 134 hb (by kernel_rfl) (hP 8 (hp 8 (by decide +kernel)))
                      try have s136 := AnyO.slot 136 hb (by kernel_rfl) (hP 10 (hp 10 (by decide +kernel)))
                      try have s125 := AnyO.slot 125 hb (by kernel_rfl) (hP 11 (hp 11 (by decide +kernel)))
                      try have s137 := AnyO.slot 137 hb (by kernel_rfl) (hP 12 (hp 12 (by decide +kernel)))
                      try have s138 := AnyO.slot 138 hb (by kernel_rfl) (hP 13 (hp 13 (by decide +kernel)))
                      try have s139 := AnyO.slot 139 hb (by kernel_rfl) (hP 14 (hp 14 (by decide +kernel)))
                      rw [if_pos (AnyO.wanted_none rfl)]; clear hb hp
                      have hwr_0 : IntKind.i64.wrap ((n : Int) + (m : Int)) = (nm : Int) := by rw [show (n : Int) + (m : Int) = (nm : Int) by have := HNM.out.1; omega]; exact wrap_nm nm (by have := HNM.out.2.2; omega)
                      have hle_1 := HNM.out.2.1
                      have hle2_1 := HNM.out.2.2
                      have htx_1 := HTX.out.1
                      clear hC h0; have HPW := Lib.hid (And.intro hP hW); clear hP hW; go_simp; obtain ⟨hP, hW⟩ := HPW.out
                      exact hK _ _ (AnyO.InvG.step (g := σ) hP rfl hW)
                  · intro D vs u hI hD
                    obtain ⟨σ, hP, hW⟩ := hI
                    have e0 : _ = _ := hP 0 (hD 0 (by decide))
                    have e1 : _ = _ := hP 1 (hD 1 (by decide))
                    have e2 : _ = _ := hP 2 (hD 2 (by decide))
                    have e3 : _ = _ := hP 3 (hD 3 (by decide))
                    have e4 : _ = _ := hP 4 (hD 4 (by decide))
                    have e5 : _ = _ := hP 5 (hD 5 (by decide))
                    have e6 : _ = _ := hP 6 (hD 6 (by decide))
                    have e7 : _ = _ := hP 7 (hD 7 (by decide))
                    have e8 : _ = _ := hP 8 (hD 8 (by decide))
                    have e9 : _ = _ := hP 9 (hD 9 (by decide))
                    have e10 : _ = _ := hP 10 (hD 10 (by decide))
                    have e11 : _ = _ := hP 11 (hD 11 (by decide))
                    have e12 : _ = _ := hP 12 (hD 12 (by decide))
                    have e13 : _ = _ := hP 13 (hD 13 (by decide))
                    have e14 : _ = _ := hP 14 (hD 14 (by decide))
                    have e15 : _ = _ := hP 15 (hD 15 (by decide))
                    have e16 : _ = _ := hP 16 (hD 16 (by decide))
                    have e17 : _ = _ := hP 17 (hD 17 (by decide))
                    have hst := hW
                    rw [show D 10 = true from hD 10 (by decide)] at hst
                    have HST := Lib.hid hst
                    clear hst
                    have HW := Lib.hid hW
                    clear hW hP hD
                    rw [puts_range [some 126, some 127, some 128, some 129, some 130, some 131, some 132, some 133, some 134, some 135, some 136, some 125, some 137, some 138, some 139, some 19, some 20, some 21] (by kernel_rfl)]
                    simp only [putL, Nat.reduceAdd, e0, e1, e2, e3, e4, e5, e6, e7, e8, e9, e10, e11, e12, e13, e14, e15, e16, e17]
                    clear e0 e1 e2 e3 e4 e5 e6 e7 e8 e9 e10 e11 e12 e13 e14 e15 e16 e17
                    go_simp
                    go_wp2
                    go_meet
                    case rel => rw [HNM.out.1]; exact HST.out
              case rest =>
                obtain ⟨F2, h2'⟩ := hcut
                obtain ⟨nm, hnm0⟩ : ∃ nm, n + m = nm := ⟨_, rfl⟩
                rw [hnm0] at h2' hnm
                have hme := HME.out
                rw [hnm0] at hme
                have HR2 := Lib.hid (And.intro h2' hme)
                have hsum : (n : Int) + (m : Int) = (nm : Int) := by omega
                have HRS := Lib.hid (rs_rcvd (t := t) hnm)
                have HDR := Lib.hid (rs_drop (t := t) hnm)
                have qq := Row.okw h2'.2.1 (cI_length i7)
                have q51 := qq.1
                have q52 : rdA wc ⟨g0, 0, none⟩ 32 = vI i7 := qq.2
                clear h2' hnm0 qq hme
                go_upto_region 35 with (first
                  | (go_at_call 22; refine ((HR2.out.1.1.keep H6.out).state i7).mono ?_; rw [HRS.out.1]; rintro e w7 ⟨rfl, hb7⟩; have H7 := Lib.hid (Below.step H6.out hb7); clear hb7)
                  | (go_at_call 23; refine (HR2.out.1.1.received i7).mono ?_; rw [HRS.out.2]; rintro e w6 ⟨rfl, hb6⟩; have q6 := Row.okw (HR2.out.1.2.1.keep hb6) (cI_length i7); have q61 := q6.1; have q62 : rdA w6 ⟨g0, 0, none⟩ 32 = vI i7 := q6.2; have H6 := Lib.hid hb6; clear hb6 q6))
                clear q51 q52 q61 q62
                have H8 := Lib.hid (And.intro (HR2.out.1.1.keep H7.out) (And.intro (HR2.out.1.2.1.keep H7.out) HR2.out.1.2.2))
                go_cut [171] from 61 to 171 (fun v w' => v = .bool false ∧ ∃ (o' : Bool) (F' : List Nat), (k = ps.length → o' = true) ∧ TkB w b (rsS t o' nm) F' w' ∧ Row w' g0 (cI i7) 30 ∧ g0 ∉ F')
                case first =>
                  by_cases hkl : k < ps.length
                  · have hkl1 : (k : Int) < (ps.length : Int) := by omega
                    by_cases hv : bits BinOp.and IntKind.u64 (d / 2 ^ k) 1 = 1
                    · go_wp2_with (go_at_call 18; refine (H8.out.1.drop).mono ?_; rw [HDR.out]; rintro e wb ⟨rfl, Fb, hb', kb⟩; have H10 := Lib.hid (And.intro hb' (And.intro (H8.out.2.1.kp kb H8.out.2.2) (kb.out g0 H8.out.2.1.lt H8.out.2.2).1)); clear hb' kb)
                      go_meet
                      case rel => exact ⟨rfl, false, Fb, fun h => absurd h (by omega), H10.out⟩
                    · have hv1 : (bits BinOp.and IntKind.u64 (d / 2 ^ k) 1 == 1) = false := by simpa using hv
                      go_wp2
                      go_meet
                      case rel => exact ⟨by simp, true, F2, fun _ => rfl, H8.out⟩
                  · have hkl1 : ¬ (k : Int) < (ps.length : Int) := by omega
                    go_wp2
                    go_meet
                    case rel => exact ⟨rfl, true, F2, fun _ => rfl, H8.out⟩
                case rest =>
                  obtain ⟨rfl, o', F', ho', h9⟩ := hcut
                  have H9 := Lib.hid (And.intro ho' h9)
                  clear ho' h9
                  go_wp2
                  go_roundw
                  case rel => exact ⟨k + 1, nm, o', F', by go_num, rfl, by omega, hnm, fun h => ⟨HR2.out.2 (by omega), H9.out.1 (by omega)⟩, H9.out.2⟩
                  case measure => simp [intOf] <;> omega
        · have hlt1 : ¬ (k : Int) ≤ (ps.length : Int) := by omega
          obtain ⟨rfl, rfl⟩ := hend (by omega)
          have hdn := rs_done (t := t)
          have hac := rs_acc (t := t)
          rw [pre_all] at hdn hac
          have HDN := Lib.hid hdn
          have HAC := Lib.hid hac
          clear hdn hac hk hend hlt
          have qq := Row.okw HT.out.2.1 (cI_length i7)
          have q51 := qq.1
          have q52 : rdA wx ⟨g0, 0, none⟩ 32 = vI i7 := qq.2
          clear qq
          go_upto_region 38 with (go_at_call 15; refine (HT.out.1.hear HL.out.1 (doneC i7) (show (0 : Nat) ≤ 1000000 by decide) (show (0 : Nat) ≤ 1000000 by decide)).mono ?_; rw [show hearT (rsS t true t.size) (doneC i7) = _ from HDN.out]; rintro e w7 ⟨q7, l7, rfl, F7, h7, k7, -, hl7⟩; obtain ⟨ad7, c7, rfl, hat7⟩ := tx_one hl7; have qi := hat7.txi; have qi1 := qi.1; have qi2 := qi.2; have qs : w7.cell? ⟨ad7.block, ad7.off + 32, none⟩ = some (.string t) := hat7.2 32 _ rfl; have qr := Row.okw (HT.out.2.1.kp k7 HT.out.2.2) (cI_length i7); have qr1 := qr.1; have qr2 : rdA w7 ⟨g0, 0, none⟩ 32 = vI i7 := qr.2; have H7 := Lib.hid (And.intro h7 (And.intro (HT.out.2.1.kp k7 HT.out.2.2) (And.intro (k7.out g0 HT.out.2.1.lt HT.out.2.2).1 hat7))); clear h7 k7 hl7 hat7 qi qr)
          clear q51 q52
          go_quiet (fail)
          have HQ := Lib.hid (below_drewN w7 nq)
          go_wp2_with (first
            | (go_at_call 22; refine (H9.out.1.state i7).mono ?_; rw [show (lookL (⟨3, true, [], []⟩ : Tk) i7).state = 0 from rfl]; rintro e wa ⟨rfl, hba⟩; have H10 := Lib.hid (H9.out.1.keep hba).bel; clear hba)
            | (go_at_call 25; refine ((H7.out.1.keep HQ.out).accepted i7 0).mono ?_; rw [HAC.out]; rintro e w8 ⟨rfl, F8, h8, k8⟩; obtain ⟨r9, W9, hr9, ro9, hW9, hrow9, hb9⟩ := hold1 w8 ⟨9, ⟨#[]⟩, i7, 0, 0, 0, 0, ⟨#[]⟩⟩; have hr9' := ((H7.out.2.1.keep HQ.out).kp k8 H7.out.2.2.1).keep hb9; have qr := Row.okw hr9' (cI_length i7); have q91 := qr.1; have q92 : rdA W9 ⟨g0, 0, none⟩ 32 = vI i7 := qr.2; have qc := Row.okw hrow9 (cC_length _); have q93 := qc.1; have q94 : rdA W9 ⟨r9, 0, none⟩ 39 = vC ⟨9, ⟨#[]⟩, i7, 0, 0, 0, 0, ⟨#[]⟩⟩ := qc.2; have H9 := Lib.hid (And.intro (h8.keep hb9) hr9'); clear h8 k8 hrow9 hb9 hr9' qr qc))
          go_ret
          exact ⟨rfl, H10.out⟩
theorem law5 (t : ByteArray) (A : Option Addr) (cap : Nat) (ps : List UInt8) (d : Int) (w : World) (hs : Sl w c1 A ps) (_ : ps.length ≤ cap) (hL : Laid w) :
    Calls Tryz.prog 5 #[.string t, .slice A ps.length cap, .int .u64 d] w fun e w' => e = .returned (.bool true) ∧ Below w.heap.size w w' := by
  by_cases h : t.size = 0 ∨ 200 < t.size ∨ 60 < ps.length
  · exact law5_out t A cap ps d w hL h
  · exact law5_in t A cap ps d w hL hs (by omega) (by omega) (by omega)
end Go.Proofs.YtgojaelkdpabkaaGreatDoor
