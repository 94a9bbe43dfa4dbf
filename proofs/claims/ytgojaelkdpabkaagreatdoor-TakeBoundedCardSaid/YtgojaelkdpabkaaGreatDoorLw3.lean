/- bulletinlaw34.TakeBounded: whatever the window and the operations, the law returns true. -/
import Derived.Test.YtgojaelkdpabkaaGreatDoorTkB
import Derived.Deep.CutRange
import Derived.Deep.CutBlock
namespace Go.Proofs.YtgojaelkdpabkaaGreatDoor
open Go.RowKit
theorem win_open (s : Tk) : (openT s).1.win = s.win := by unfold openT; split <;> rfl
theorem win_drop (s : Tk) : (dropT s).1.win = s.win := by unfold dropT; split <;> rfl
theorem win_offer (s : Tk) (c : Cm) : (offerT s c).1.win = s.win := by unfold offerT; split <;> (try split) <;> rfl
theorem win_data (s : Tk) (c : Cm) : (dataT s c).1.win = s.win := by unfold dataT; split <;> (try split) <;> (try split) <;> rfl
theorem win_done (s : Tk) (c : Cm) : (doneT s c).1.win = s.win := by unfold doneT; split <;> (try split) <;> rfl
theorem win_hear (s : Tk) (c : Cm) : (hearT s c).1.win = s.win := by
  unfold hearT
  split
  · rfl
  split
  · rfl
  split
  · exact win_offer s c
  split
  · exact win_data s c
  split
  · exact win_done s c
  · rfl
theorem win_answer (s : Tk) (c : Cm) : (answerT s c).1.win = s.win := by
  unfold answerT
  split
  · rfl
  split
  · rfl
  split
  · rfl
  split
  · rfl
  split
  · rfl
  split
  · rfl
  split <;> rfl
set_option maxRecDepth 100000 in
set_option maxHeartbeats 3200000 in
theorem law3 (n : UInt8) (A : Option Addr) (cap : Nat) (l : List Opn) (w : World) (hs : Sl w cO A l) (hi : ∀ x ∈ l, x.ints) (hc : l.length ≤ cap) (hm : cap ≤ 9223372036854775807) (hL : Laid w) :
    Calls Tryz.prog 3 #[.int .u8 n.toNat, .slice A l.length cap] w fun e w' => e = .returned (.bool true) ∧ Below w.heap.size w w' := by
  obtain ⟨bs, hbs⟩ : ∃ bs, smallL l = bs := ⟨_, rfl⟩
  have HS := Lib.hid hbs
  have HL := Lib.hid (And.intro hL (And.intro hs (And.intro hi (show l.length ≤ 9223372036854775807 by omega))))
  clear hbs hL hs hi hc hm
  cases bs
  · go_enter Tryz.func3, Tryz.ntmps3
    go_wp2_with (first
      | (go_at_call 11; refine (known34 w2 (HL.out.1.keep H2.out)).mono ?_; rintro e w3 ⟨rfl, hb3⟩; have H3 := Lib.hid (Below.step H2.out hb3); clear hb3)
      | (go_at_call 12; refine (small12 A cap l w1 (HL.out.2.1.keep H1.out) HL.out.2.2.2).mono ?_; rw [HS.out]; rintro e w2 ⟨rfl, hb2⟩; have H2 := Lib.hid (Below.step H1.out hb2); clear hb2)
      | (go_at_call 11; refine (known34 w HL.out.1).mono ?_; rintro e w1 ⟨rfl, hb1⟩; have H1 := Lib.hid hb1; clear hb1))
    go_ret
    exact ⟨rfl, H3.out⟩
  · have HM := Lib.hid (small_mem HS.out)
    obtain ⟨m, hm4, hm⟩ := mod4 n
    go_enter Tryz.func3, Tryz.ntmps3
    obtain ⟨N, hN⟩ : ∃ N : Int, 1 + (n.toNat : Int) % 4 = N := ⟨_, rfl⟩
    have hN1 : 1 ≤ N := by omega
    have hN2 : N ≤ 4 := by omega
    clear hm hm4 m
    have HN := Lib.hid (And.intro hN1 (show N ≤ 64 by omega))
    go_wp2_with (first
      | (go_at_call 13; refine (new13_ok N HN.out.1 HN.out.2 w2).mono ?_; rintro e w3 ⟨rfl, hT3, hb3⟩; obtain ⟨b, hb⟩ : ∃ b, w2.heap.size = b := ⟨_, rfl⟩; have H3 := Lib.hid (TkB.new H2.out HN.out.1 HN.out.2 hT3 hb3); rw [hb] at H3; rw [hb]; clear hb hT3 hb3)
      | (go_at_call 12; refine (small12 A cap l w1 (HL.out.2.1.keep H1.out) HL.out.2.2.2).mono ?_; rw [HS.out]; rintro e w2 ⟨rfl, hb2⟩; have H2 := Lib.hid (Below.step H1.out hb2); clear hb2)
      | (go_at_call 11; refine (known34 w HL.out.1).mono ?_; rintro e w1 ⟨rfl, hb1⟩; have H1 := Lib.hid hb1; clear hb1))
    go_loopw [8] (fun i wr => ∃ (k : Nat) (s : Tk) (F : List Nat), i = .int .i64 k ∧ k ≤ l.length ∧ s.win = N ∧ TkB w b s F wr) (fun i _ => l.length + 1 - (intOf i).toNat)
    case atStart => exact ⟨0, _, _, rfl, Nat.zero_le _, rfl, H3.out⟩
    case round =>
      obtain ⟨k, s, F, rfl, hk, hw, hT⟩ := hrel
      have HT := Lib.hid (And.intro hw hT)
      have HH := Lib.hid HM.out.1
      by_cases hlt : k < l.length
      · have hlt1 : (k : Int) < (l.length : Int) := by omega
        obtain ⟨ad, hae, hat⟩ := Sl.op (HL.out.2.1.keep hT.bel) hlt
        have HZ := Lib.hid (HM.out.2 _ (List.getElem_mem hlt))
        obtain ⟨o, ho⟩ : ∃ o, l[k] = o := ⟨_, rfl⟩
        rw [ho] at hat HZ
        obtain ⟨j1, j2, j3⟩ := hat.opc
        obtain ⟨kd0, hkd⟩ : ∃ kd0, o.kind = kd0 := ⟨_, rfl⟩
        rw [hkd] at j3
        clear hat ho hw hT hkd
        go_upto_block 2 with (go_at_call 14; refine (own14 o.cmd wr).mono ?_; rintro e w3 ⟨rfl, hb⟩; obtain ⟨r4, W3, hr4, ror4, hWr4, hrow, hbh⟩ := hold1 w3 o.cmd; have HW3 := Lib.hid (And.intro (Below.step hb hbh) hrow); have kk := cell_below j3 HW3.out.1; clear hrow hbh hb)
        have kc := (Row.okw HW3.out.2 (cC_length o.cmd)).1
        have kd : rdA W3 ⟨r4, 0, none⟩ 39 = vC o.cmd := (Row.okw HW3.out.2 (cC_length o.cmd)).2
        have HB := Lib.hid (HT.out.2.keep HW3.out.1)
        go_cut [] from 33 to 117 (fun w' => ∃ s' F', s'.win = N ∧ TkB w b s' F' w')
        case first =>
          by_cases h0 : kd0 = 0
          · subst h0
            go_wp2_with (go_at_call 15; refine (HB.out.hear HL.out.1 o.cmd (by have := HZ.out; omega) (by have := HZ.out; omega)).mono ?_; rintro e w5 ⟨q, l', rfl, F5, h5, -, -⟩; have H5 := Lib.hid h5; clear h5)
            go_meet
            case rel => exact ⟨_, _, (win_hear _ _).trans HT.out.1, H5.out⟩
          by_cases h1 : kd0 = 1
          · subst h1
            go_wp2_with (go_at_call 16; refine (HB.out.answer HL.out.1 o.cmd (by have := HZ.out; omega)).mono ?_; rintro e w5 ⟨rfl, F5, h5⟩; have H5 := Lib.hid h5; clear h5)
            go_meet
            case rel => exact ⟨_, _, (win_answer _ _).trans HT.out.1, H5.out⟩
          by_cases h5 : kd0 = 5
          · subst h5
            go_wp2_with (go_at_call 17; refine (HB.out.open_).mono ?_; rintro e w5 ⟨rfl, F5, h5⟩; have H5 := Lib.hid h5; clear h5)
            go_meet
            case rel => exact ⟨_, _, (win_open _).trans HT.out.1, H5.out⟩
          by_cases h6 : kd0 = 6
          · subst h6
            go_wp2_with (go_at_call 18; refine (HB.out.drop).mono ?_; rintro e w5 ⟨rfl, F5, h5⟩; have H5 := Lib.hid h5; clear h5)
            go_meet
            case rel => exact ⟨_, _, (win_drop _).trans HT.out.1, H5.out⟩
          have q0 : (kd0 == 0) = false := by simpa using h0
          have q1 : (kd0 == 1) = false := by simpa using h1
          have q5 : (kd0 == 5) = false := by simpa using h5
          have q6 : (kd0 == 6) = false := by simpa using h6
          clear h0 h1 h5 h6
          go_wp2
          go_meet
          case rel => exact ⟨_, _, HT.out.1, HB.out⟩
        case rest =>
          obtain ⟨s1, F1, hw1, hT1⟩ := hcut
          have HC := Lib.hid (And.intro hT1 (And.intro (show (s1.act.length : Int) ≤ N by rw [← hw1]; exact hT1.inv.act) (And.intro hT1.inv.kept hw1)))
          obtain ⟨op, hop⟩ : ∃ op, s1.opn = op := ⟨_, rfl⟩
          have hsh : op = false → s1.act.length = 0 := fun e => by rw [hT1.inv.shut (hop.trans e)]; rfl
          have HOP := Lib.hid hop
          clear hw1 hT1 hop
          go_upto_region 21 with (first
            | (go_at_call 20; refine (H5.out.2.2.partial_).mono ?_; rintro e w6 ⟨B6, m6, d6, rfl, hm6, ho6, h6, hb6⟩; have hm6' : m6 ≤ 8 := (by rw [← hm6, List.length_map]; exact HC.out.2.2.1); have n2 : ¬ (8 : Int) < (m6 : Int) := (by omega); have H6 := Lib.hid (And.intro hm6 (And.intro ho6 (And.intro h6 hm6'))); clear hm6 hm6' ho6 h6 hb6)
            | (go_at_call 19; refine (HC.out.1.active).mono ?_; rintro e w5 ⟨B5, m5, d5, rfl, hm5, ho5, h5, hb5⟩; have hm5' : s1.act.length = m5 := (by rw [← hm5, List.length_map]); have n1 : ¬ N < (m5 : Int) := (by have := HC.out.2.1; rw [hm5'] at this; omega); have n0 : op = false → ¬ (0 : Int) < (m5 : Int) := (fun e => by have := hsh e; rw [hm5'] at this; omega); have H5 := Lib.hid (And.intro hm5' (And.intro n0 h5)); clear hm5 hm5' ho5 h5 hb5 n0))
          clear hsh
          go_cut [90] from 33 to 117 (fun v w' => v = .bool false ∧ Below w6.heap.size w6 w')
          case first =>
            cases op with
            | true =>
              go_wp2_with (go_at_call 21; refine (H6.out.2.2.1.isOpen).mono ?_; rw [HOP.out]; rintro e w7 ⟨rfl, hb7⟩; have H7 := Lib.hid hb7; clear hb7)
              go_meet
              case rel => exact ⟨congrArg Value.bool (by simp only [Bool.or_eq_false_iff, decide_eq_false_iff_not]; omega), H7.out⟩
            | false =>
              have q0 : ¬ (0 : Int) < (m5 : Int) := by have := H5.out.2.1 rfl; omega
              go_wp2_with (go_at_call 21; refine (H6.out.2.2.1.isOpen).mono ?_; rw [HOP.out]; rintro e w7 ⟨rfl, hb7⟩; have H7 := Lib.hid hb7; clear hb7)
              go_meet
              case rel => exact ⟨congrArg Value.bool (by simp only [Bool.or_eq_false_iff, decide_eq_false_iff_not]; omega), H7.out⟩
          case rest =>
            rename World => w7
            obtain ⟨rfl, hb7⟩ := hcut
            have H7 := Lib.hid (And.intro (H6.out.2.2.1.keep hb7) (And.intro (H6.out.2.1.keep hb7) (And.intro H6.out.1 H6.out.2.2.2)))
            clear hb7 n1 n2
            go_wp2
            go_loopw [12] (fun i wr2 => ∃ (j : Nat), i = .int .i64 j ∧ j ≤ m6 ∧ Below w7.heap.size w7 wr2) (fun i _ => m6 + 1 - (intOf i).toNat)
            case atStart => exact ⟨0, rfl, Nat.zero_le _, Below.refl _ _⟩
            case round =>
              obtain ⟨j, rfl, hj, hb8⟩ := hrel
              by_cases hjl : j < m6
              · have hjl1 : (j : Int) < (m6 : Int) := by omega
                have hjm : j < (s1.kept.map Pt.id).length := by have := H7.out.2.2.1; omega
                obtain ⟨ak, hak, hat⟩ := Sl.at_ cI_length (Own.slOf (H7.out.2.1.keep hb8)) hjm
                have hmem := List.getElem_mem hjm
                obtain ⟨y, hy⟩ : ∃ y, (s1.kept.map Pt.id)[j] = y := ⟨_, rfl⟩
                rw [hy] at hat hmem
                have q := hat.idv
                have q1 := q.1
                have q2 := q.2
                have hks := H7.out.1.inv.kept_ok hmem
                obtain ⟨st, hst⟩ : ∃ st, (lookL s1 y).state = st := ⟨_, rfl⟩
                obtain ⟨rv, hrv⟩ : ∃ rv, rcvdL s1 y = rv := ⟨_, rfl⟩
                rw [hst, hrv] at hks
                have hr1 : ¬ rv < 1 := by omega
                have HKS := Lib.hid (And.intro hst hrv)
                have HB8 := Lib.hid (And.intro hb8 hat)
                have hm68 : m6 ≤ 8 := H7.out.2.2.2
                have hks1 := hks.1
                clear hat hmem hy hst hrv hks hb8 q
                rcases hks1 with rfl | rfl
                · go_wp2_with (first
                    | (go_at_call 23; refine ((H7.out.1.keep H9.out.1).received y).mono ?_; rw [HKS.out.2]; rintro e w10 ⟨rfl, hb10⟩; have H10 := Lib.hid (Below.step H9.out.1 hb10); clear hb10)
                    | (go_at_call 22; refine ((H7.out.1.keep HB8.out.1).state y).mono ?_; rw [HKS.out.1]; rintro e w9 ⟨rfl, hb9⟩; have q9 := (HB8.out.2.keep hb9).idv; have q91 := q9.1; have q92 := q9.2; have H9 := Lib.hid (And.intro (Below.step HB8.out.1 hb9) hb9); clear hb9 q9))
                  go_roundw
                  case rel => (repeat apply Exists.intro); refine ⟨?_, (by first | rfl | rw [hak])⟩; exact ⟨j + 1, by go_num, by omega, H10.out⟩
                  case measure => simp [intOf] <;> omega
                · go_wp2_with (first
                    | (go_at_call 23; refine ((H7.out.1.keep H9.out.1).received y).mono ?_; rw [HKS.out.2]; rintro e w10 ⟨rfl, hb10⟩; have H10 := Lib.hid (Below.step H9.out.1 hb10); clear hb10)
                    | (go_at_call 22; refine ((H7.out.1.keep HB8.out.1).state y).mono ?_; rw [HKS.out.1]; rintro e w9 ⟨rfl, hb9⟩; have q9 := (HB8.out.2.keep hb9).idv; have q91 := q9.1; have q92 := q9.2; have H9 := Lib.hid (And.intro (Below.step HB8.out.1 hb9) hb9); clear hb9 q9))
                  go_roundw
                  case rel => (repeat apply Exists.intro); refine ⟨?_, (by first | rfl | rw [hak])⟩; exact ⟨j + 1, by go_num, by omega, H10.out⟩
                  case measure => simp [intOf] <;> omega
              · have hjl1 : ¬ (j : Int) < (m6 : Int) := by omega
                have HB8 := Lib.hid hb8
                have h60 := HH.out
                clear hb8
                go_wp2
                go_roundw
                case rel => (repeat apply Exists.intro); refine ⟨?_, (by first | rfl | rw [hae])⟩; exact ⟨k + 1, s1, F1, by go_num, by omega, HC.out.2.2.2, H7.out.1.keep HB8.out⟩
                case measure => simp [intOf] <;> omega
      · have hlt1 : ¬ (k : Int) < (l.length : Int) := by omega
        clear hw hT
        go_wp2
        go_ret
        exact ⟨rfl, HT.out.2.bel⟩
end Go.Proofs.YtgojaelkdpabkaaGreatDoor
