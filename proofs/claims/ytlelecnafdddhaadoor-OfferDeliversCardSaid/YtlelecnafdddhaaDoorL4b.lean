/- bulletinlaw33.OfferResumes: the walk. -/
import Derived.Test.YtlelecnafdddhaaDoorL4a
namespace Go.Proofs.YtlelecnafdddhaaDoor
open Go.RowKit
section
variable (w : World)
@[go_sem] theorem bl40_7 : (blA 40 #[(0, .int .u8 7)]).run Tryd.prog w = .ok (vI i7) w := by kernel_rfl
end
theorem k_st {w0 w : World} {b : Nat} {ch : Int} {s : St} {L : List (Nat × List Value × TypeId)} (n : Int) (hn : s.state = n) (h : Inv w0 b ch s L w) : Calls Tryd.prog 20 #[.pointer (some ⟨b, 0, none⟩)] w fun e w' => e = .returned (.int .i64 n) ∧ w' = w := by
  subst hn
  obtain ⟨F, h1, _⟩ := h.rep
  exact state20 b ch s F w h1
@[go_sem] theorem cC_verb (c : Cm) : (aC c)[0]? = some (.int .i64 c.verb) := rfl

set_option maxRecDepth 100000 in
set_option maxHeartbeats 1000000 in
theorem law4_no (c : UInt8) (t : ByteArray) (f : UInt16) (w : World) (hL : Laid w) (hno : ¬ okArt (i7, cutS t)) : Calls Tryd.prog 4 #[.int .u8 (c.toNat : Int), .string t, .int .u16 (f.toNat : Int)] w fun e w' => e = .returned (.bool true) ∧ Below w.heap.size w w' := by
  have HX := Lib.hid hL
  have l1 := chunkN_lo c
  have l2 := chunkN_hi c
  obtain ⟨ch, hch⟩ : ∃ ch, chunkN c = ch := ⟨_, rfl⟩
  rw [hch] at l1 l2
  have HCH := Lib.hid hch
  have H64 := Lib.hid (And.intro l1 l2)
  obtain ⟨tt, htt⟩ : ∃ tt, cutS t = tt := ⟨_, rfl⟩
  have hsz := cutS_size t
  have HT := Lib.hid htt
  rw [htt] at hno hsz
  obtain ⟨z, hz⟩ : ∃ z, addS St.zero i7 tt = z := ⟨_, rfl⟩
  obtain ⟨zs, zc⟩ := z
  have hzz := add_zero7_no tt (by omega) hno
  rw [hz] at hzz
  have hz2 : (zc != 0) = true := by simpa using hzz.2
  have HZ := Lib.hid hz
  clear hno hL l1 l2 hch htt hsz hz hzz
  have T0 : True := trivial
  go_enter Tryd.func4, Tryd.ntmps4
  go_wp2_with (first
    | (have hh := T0; clear hh T0; go_at_call 13; refine (known13 w HX.out.1 HX.out.2).mono ?_; rintro e w1 ⟨rfl, hb⟩; have H1 := Lib.hid hb; clear hb; have T1 : True := trivial)
    | (have hh := T1; clear hh T1; go_at_call 16; refine (cut16 t _).mono ?_; rintro e w2 ⟨rfl, rfl⟩; rw [HT.out]; have T2 : True := trivial)
    | (have hh := T2; clear hh T2; go_at_call 17; refine (begin17 c _).mono ?_; rintro e w2 ⟨b, r, rfl, hlb, hr, hra, hbl⟩; rw [HCH.out] at hr hra; have hI := Inv.start (L := [(w1.heap.size, cI i7, 40)]) (Below.step H1.out (below_alloc w1 (.cells (aI i7) 40))) (fun x hx => by rw [List.mem_singleton.1 hx]; exact Row.new w1 (cI i7) 40) hlb hr hbl; have hI2 := hI.alloc (cR r) 32; obtain ⟨x1, x2⟩ := (hI.row (g := w1.heap.size) (cs := cI i7) (ty := 40) List.mem_cons_self).idI; have x3 := (hI.row (g := w1.heap.size) (cs := cI i7) (ty := 40) List.mem_cons_self).lt; have hrc := hra.ch; have H2 := Lib.hid (And.intro hI2 hrc); clear hI hI2 hr hra hrc hbl hlb; have T3 : True := trivial)
    | (have hh := T3; clear hh T3; go_at_call 15; refine (H2.out.1.add i7 tt (by decide)).mono ?_; rintro e w3 ⟨rfl, hI⟩; rw [HZ.out]; have H3 := Lib.hid hI.bel; clear hI))
  go_ret
  exact ⟨rfl, H3.out⟩
theorem l4_nums {a q n nx l m : Nat} {ch : Int} (h1 : 1 ≤ ch) (h2 : ch ≤ 64) (hn : n ≤ 300) (ha : a ≤ q) (hq : q < n) (hnx : min ((q : Int) + ch) (n : Int) = (nx : Int)) (hl : q - a = l) (hm : nx - q = m) :
    (a : Int) + (l : Int) = (q : Int) ∧ (q : Int) + (m : Int) = (nx : Int) ∧ ¬ ch < (m : Int) ∧ ((m : Int) < ch → (nx : Int) = (n : Int)) ∧ ¬ 9223372036854775807 < l + m ∧ nx ≤ 300 ∧ q < nx ∧ nx ≤ n := by
  have h3 : (q : Int) < (nx : Int) ∧ (nx : Int) ≤ (n : Int) ∧ (nx : Int) - (q : Int) ≤ ch ∧ ((nx : Int) - (q : Int) < ch → (nx : Int) = (n : Int)) := by omega
  clear hnx
  refine ⟨?_, ?_, by omega, fun h => h3.2.2.2 (by omega), by omega, by omega, by omega, by omega⟩
  · omega
  · omega
theorem u16_tmod (f : UInt16) (n : Nat) : (f.toNat : Int).tmod ((n : Int) + 2) = ((f.toNat % (n + 2) : Nat) : Int) := by
  rw [Int.tmod_eq_emod_of_nonneg (by omega)]
  norm_cast
set_option maxRecDepth 100000 in
set_option maxHeartbeats 1000000 in
theorem law4_range (c : UInt8) (t : ByteArray) (f : UInt16) (w : World) (hL : Laid w) (hok : okArt (i7, cutS t)) (ha : (cutS t).size < f.toNat % ((cutS t).size + 2)) : Calls Tryd.prog 4 #[.int .u8 (c.toNat : Int), .string t, .int .u16 (f.toNat : Int)] w fun e w' => e = .returned (.bool true) ∧ Below w.heap.size w w' := by
  have HX := Lib.hid hL
  have l1 := chunkN_lo c
  have l2 := chunkN_hi c
  obtain ⟨ch, hch⟩ : ∃ ch, chunkN c = ch := ⟨_, rfl⟩
  rw [hch] at l1 l2
  have HCH := Lib.hid hch
  have H64 := Lib.hid (And.intro l1 l2)
  obtain ⟨tt, htt⟩ : ∃ tt, cutS t = tt := ⟨_, rfl⟩
  have hsz := cutS_size t
  have HT := Lib.hid htt
  rw [htt] at hok hsz ha
  obtain ⟨n, hn⟩ : ∃ n, tt.size = n := ⟨_, rfl⟩
  have e1 := u16_tmod f n
  obtain ⟨a, hfa⟩ : ∃ a, f.toNat % (n + 2) = a := ⟨_, rfl⟩
  have han : a < n + 2 := by rw [← hfa]; exact Nat.mod_lt _ (by omega)
  rw [hn] at hsz ha
  rw [hfa] at e1 ha
  have e2 : IntKind.i64.wrap (f.toNat : Int) = (f.toNat : Int) := IntWalk.i64_in _ (by have := UInt16.toNat_lt f; omega)
  have e3 : IntKind.i64.wrap ((n : Int) + 2) = (n : Int) + 2 := IntWalk.i64_in _ (by omega)
  have e4 : IntKind.i64.wrap (a : Int) = (a : Int) := IntWalk.i64_in _ (by omega)
  have e5 : ¬ ((n : Int) + 2 = 0) := by omega
  have HOK := Lib.hid hok
  clear hok hL l1 l2 hch htt
  have e6 : (n : Int) < (a : Int) := by omega
  have HA := Lib.hid (And.intro hsz (And.intro ha han))
  clear hsz ha han hfa
  have T0 : True := trivial
  go_enter Tryd.func4, Tryd.ntmps4
  go_wp2_with (first
    | (have hh := T0; clear hh T0; go_at_call 13; refine (known13 w HX.out.1 HX.out.2).mono ?_; rintro e w1 ⟨rfl, hb⟩; have H1 := Lib.hid hb; clear hb; have T1 : True := trivial)
    | (have hh := T1; clear hh T1; go_at_call 16; refine (cut16 t _).mono ?_; rintro e w2 ⟨rfl, rfl⟩; rw [HT.out]; have T2 : True := trivial)
    | (have hh := T2; clear hh T2; go_at_call 17; refine (begin17 c _).mono ?_; rintro e w2 ⟨b, r, rfl, hlb, hr, hra, hbl⟩; rw [HCH.out] at hr hra; have hI := Inv.start (L := [(w1.heap.size, cI i7, 40)]) (Below.step H1.out (below_alloc w1 (.cells (aI i7) 40))) (fun x hx => by rw [List.mem_singleton.1 hx]; exact Row.new w1 (cI i7) 40) hlb hr hbl; have hI2 := hI.alloc (cR r) 32; obtain ⟨x1, x2⟩ := (hI.row (g := w1.heap.size) (cs := cI i7) (ty := 40) List.mem_cons_self).idI; have x3 := (hI.row (g := w1.heap.size) (cs := cI i7) (ty := 40) List.mem_cons_self).lt; have hrc := hra.ch; have H2 := Lib.hid (And.intro hI2 hrc); clear hI hI2 hr hra hrc hbl hlb; have T3 : True := trivial)
    | (have hh := T3; clear hh T3; go_at_call 15; refine (H2.out.1.add i7 tt (by decide)).mono ?_; rintro e w3 ⟨rfl, hI⟩; rw [add_zero7 tt HOK.out] at hI ⊢; obtain ⟨x1, x2⟩ := (hI.row (g := w1.heap.size) (cs := cI i7) (ty := 40) (by with_reducible repeat (first | exact List.mem_cons_self | apply List.mem_cons_of_mem))).idI; have x3 := (hI.row (g := w1.heap.size) (cs := cI i7) (ty := 40) (by with_reducible repeat (first | exact List.mem_cons_self | apply List.mem_cons_of_mem))).lt; have H3 := Lib.hid hI; clear hI; have T4 : True := trivial)
    | (have hh := T4; clear hh T4; go_at_call 18; refine (H3.out.say (good_add H64.out.1 (by have := H64.out.2; omega) HOK.out)).mono ?_; rintro e w4 ⟨rfl, hI⟩; rw [say_add] at hI ⊢; obtain ⟨x1, x2⟩ := (hI.row (g := w1.heap.size) (cs := cI i7) (ty := 40) (by with_reducible repeat (first | exact List.mem_cons_self | apply List.mem_cons_of_mem))).idI; have x3 := (hI.row (g := w1.heap.size) (cs := cI i7) (ty := 40) (by with_reducible repeat (first | exact List.mem_cons_self | apply List.mem_cons_of_mem))).lt; have H4 := Lib.hid hI; clear hI; have T5 : True := trivial)
    | (have hh := T5; clear hh T5; go_at_call 19; refine (H4.out.hear (good_off H64.out.1 (by have := H64.out.2; omega) HOK.out) HX.out (wantC a) rfl (by simp [tOff])).mono ?_; rintro e w5 ⟨rfl, hI⟩; rw [hear_range tt a (by have := HA.out; omega) (by have := HA.out; omega)] at hI ⊢; obtain ⟨x1, x2⟩ := (hI.row (g := w1.heap.size) (cs := cI i7) (ty := 40) (by with_reducible repeat (first | exact List.mem_cons_self | apply List.mem_cons_of_mem))).idI; have x3 := (hI.row (g := w1.heap.size) (cs := cI i7) (ty := 40) (by with_reducible repeat (first | exact List.mem_cons_self | apply List.mem_cons_of_mem))).lt; have H5 := Lib.hid hI; clear hI; have T6 : True := trivial)
    | (have hh := T6; clear hh T6; go_at_call 20; refine (k_st (s := tOff tt) 1 rfl H5.out).mono ?_; rintro e w6 ⟨rfl, rfl⟩))
  go_ret
  exact ⟨rfl, H5.out.bel⟩
set_option maxRecDepth 100000 in
set_option maxHeartbeats 1000000 in
theorem law4_ok (c : UInt8) (t : ByteArray) (f : UInt16) (w : World) (hL : Laid w) (hok : okArt (i7, cutS t)) (ha : f.toNat % ((cutS t).size + 2) ≤ (cutS t).size) : Calls Tryd.prog 4 #[.int .u8 (c.toNat : Int), .string t, .int .u16 (f.toNat : Int)] w fun e w' => e = .returned (.bool true) ∧ Below w.heap.size w w' := by
  have HX := Lib.hid hL
  have l1 := chunkN_lo c
  have l2 := chunkN_hi c
  obtain ⟨ch, hch⟩ : ∃ ch, chunkN c = ch := ⟨_, rfl⟩
  rw [hch] at l1 l2
  have HCH := Lib.hid hch
  have H64 := Lib.hid (And.intro l1 l2)
  obtain ⟨tt, htt⟩ : ∃ tt, cutS t = tt := ⟨_, rfl⟩
  have hsz := cutS_size t
  have HT := Lib.hid htt
  rw [htt] at hok hsz ha
  obtain ⟨n, hn⟩ : ∃ n, tt.size = n := ⟨_, rfl⟩
  have e1 := u16_tmod f n
  obtain ⟨a, hfa⟩ : ∃ a, f.toNat % (n + 2) = a := ⟨_, rfl⟩
  have han : a < n + 2 := by rw [← hfa]; exact Nat.mod_lt _ (by omega)
  rw [hn] at hsz ha
  rw [hfa] at e1 ha
  have e2 : IntKind.i64.wrap (f.toNat : Int) = (f.toNat : Int) := IntWalk.i64_in _ (by have := UInt16.toNat_lt f; omega)
  have e3 : IntKind.i64.wrap ((n : Int) + 2) = (n : Int) + 2 := IntWalk.i64_in _ (by omega)
  have e4 : IntKind.i64.wrap (a : Int) = (a : Int) := IntWalk.i64_in _ (by omega)
  have e5 : ¬ ((n : Int) + 2 = 0) := by omega
  have HOK := Lib.hid hok
  clear hok hL l1 l2 hch htt
  have e6 : (n < a) = False := eq_false (by omega)
  have HA := Lib.hid (And.intro hsz (And.intro ha hn))
  clear hsz han hfa
  have T0 : True := trivial
  go_enter Tryd.func4, Tryd.ntmps4
  go_wp2_with (first
    | (have hh := T0; clear hh T0; go_at_call 13; refine (known13 w HX.out.1 HX.out.2).mono ?_; rintro e w1 ⟨rfl, hb⟩; have H1 := Lib.hid hb; clear hb; have T1 : True := trivial)
    | (have hh := T1; clear hh T1; go_at_call 16; refine (cut16 t _).mono ?_; rintro e w2 ⟨rfl, rfl⟩; rw [HT.out]; have T2 : True := trivial)
    | (have hh := T2; clear hh T2; go_at_call 17; refine (begin17 c _).mono ?_; rintro e w2 ⟨b, r, rfl, hlb, hr, hra, hbl⟩; rw [HCH.out] at hr hra; have hI := Inv.start (L := [(w1.heap.size, cI i7, 40)]) (Below.step H1.out (below_alloc w1 (.cells (aI i7) 40))) (fun x hx => by rw [List.mem_singleton.1 hx]; exact Row.new w1 (cI i7) 40) hlb hr hbl; have hI2 := hI.alloc (cR r) 32; obtain ⟨x1, x2⟩ := (hI.row (g := w1.heap.size) (cs := cI i7) (ty := 40) List.mem_cons_self).idI; have x3 := (hI.row (g := w1.heap.size) (cs := cI i7) (ty := 40) List.mem_cons_self).lt; have hrc := hra.ch; have H2 := Lib.hid (And.intro hI2 hrc); clear hI hI2 hr hra hrc hbl hlb; have T3 : True := trivial)
    | (have hh := T3; clear hh T3; go_at_call 15; refine (H2.out.1.add i7 tt (by decide)).mono ?_; rintro e w3 ⟨rfl, hI⟩; rw [add_zero7 tt HOK.out] at hI ⊢; obtain ⟨x1, x2⟩ := (hI.row (g := w1.heap.size) (cs := cI i7) (ty := 40) (by with_reducible repeat (first | exact List.mem_cons_self | apply List.mem_cons_of_mem))).idI; have x3 := (hI.row (g := w1.heap.size) (cs := cI i7) (ty := 40) (by with_reducible repeat (first | exact List.mem_cons_self | apply List.mem_cons_of_mem))).lt; have H3 := Lib.hid hI; clear hI; have T4 : True := trivial)
    | (have hh := T4; clear hh T4; go_at_call 18; refine (H3.out.say (good_add H64.out.1 (by have := H64.out.2; omega) HOK.out)).mono ?_; rintro e w4 ⟨rfl, hI⟩; rw [say_add] at hI ⊢; obtain ⟨x1, x2⟩ := (hI.row (g := w1.heap.size) (cs := cI i7) (ty := 40) (by with_reducible repeat (first | exact List.mem_cons_self | apply List.mem_cons_of_mem))).idI; have x3 := (hI.row (g := w1.heap.size) (cs := cI i7) (ty := 40) (by with_reducible repeat (first | exact List.mem_cons_self | apply List.mem_cons_of_mem))).lt; have H4 := Lib.hid hI; clear hI; have T5 : True := trivial)
    | (have hh := T5; clear hh T5; go_at_call 19; refine (H4.out.hear (good_off H64.out.1 (by have := H64.out.2; omega) HOK.out) HX.out (wantC a) rfl (by simp [tOff])).mono ?_; rintro e w5 ⟨rfl, hI⟩; rw [hear_want tt a (by have := HA.out; omega) (by have := HA.out; omega)] at hI ⊢; obtain ⟨x1, x2⟩ := (hI.row (g := w1.heap.size) (cs := cI i7) (ty := 40) (by with_reducible repeat (first | exact List.mem_cons_self | apply List.mem_cons_of_mem))).idI; have x3 := (hI.row (g := w1.heap.size) (cs := cI i7) (ty := 40) (by with_reducible repeat (first | exact List.mem_cons_self | apply List.mem_cons_of_mem))).lt; have H5 := Lib.hid hI; clear hI; have T6 : True := trivial))
  go_loopw [12, 13] (fun g i wr => ∃ q k : Nat, k + a ≤ q ∧ q ≤ n ∧ g = .string (tt.extract a q) ∧ i = .int .i64 k ∧ Inv w b ch (tSend tt q) [(w2.heap.size, cR r, 32), (w1.heap.size, cI i7, 40)] wr) (fun _ i _ => 400 - (intOf i).toNat)
  case atStart => exact ⟨a, 0, by omega, by omega, by rw [show tt.extract a a = ⟨#[]⟩ from by simp [ByteArray.ext_iff]], rfl, H5.out⟩
  case round =>
    obtain ⟨q, k, hk, hq, rfl, rfl, hI⟩ := hrel
    clear e1 e2 e3 e4 e5 e6
    have hlk : (k : Int) < 400 := by have := HA.out; omega
    have HI := Lib.hid hI
    clear hI
    have T6 : True := trivial
    have HG := Lib.hid (good_send (ch := ch) (t := tt) H64.out.1 (by have := H64.out.2; omega) HOK.out q (by have := HA.out; omega))
    have HG2 := Lib.hid (good_sent (ch := ch) (t := tt) H64.out.1 (by have := H64.out.2; omega) HOK.out)
    by_cases hqn : q = n
    · obtain rfl : q = tt.size := by rw [hqn, hn]
      go_wp2_with (first
        | (have hh := T6; clear hh T6; go_at_call 18; refine (Inv.say HI.out HG.out).mono ?_; rintro e w6 ⟨rfl, hI⟩; rw [say_done] at hI ⊢; obtain ⟨x1, x2⟩ := (hI.row (g := w1.heap.size) (cs := cI i7) (ty := 40) (by with_reducible repeat (first | exact List.mem_cons_self | apply List.mem_cons_of_mem))).idI; have x3 := (hI.row (g := w1.heap.size) (cs := cI i7) (ty := 40) (by with_reducible repeat (first | exact List.mem_cons_self | apply List.mem_cons_of_mem))).lt; have H6 := Lib.hid (hI.alloc (cC (doneC i7)) 45); clear hI; have T7 : True := trivial)
        | (have hh := T7; clear hh T7; go_at_call 18; refine (Inv.say H6.out HG2.out).mono ?_; rintro e w7 ⟨rfl, hI⟩; rw [say_sent] at hI ⊢; have H7 := Lib.hid (hI.alloc (cC zC) 45); clear hI; have T8 : True := trivial)
        | (have hh := T8; clear hh T8; go_at_call 20; refine (k_st (s := tSent tt) 3 rfl H7.out).mono ?_; rintro e w8 ⟨rfl, rfl⟩))
      go_ret
      exact ⟨rfl, H7.out.bel⟩
    · obtain ⟨nx, hnx⟩ : ∃ nx : Nat, min ((q : Int) + ch) (tt.size : Int) = (nx : Int) := ⟨(min ((q : Int) + ch) (tt.size : Int)).toNat, by have := H64.out; omega⟩
      have hq2 : q < tt.size := by omega
      have hmn := H64.out
      obtain ⟨g, hg⟩ : ∃ g, tt.extract a q = g := ⟨_, rfl⟩
      obtain ⟨d, hd⟩ : ∃ d, tt.extract q nx = d := ⟨_, rfl⟩
      have hgs : g.size = q - a := by rw [← hg, ByteArray.size_extract]; omega
      have hds : d.size = nx - q := by rw [← hd, ByteArray.size_extract]; omega
      obtain ⟨l, hl⟩ : ∃ l, q - a = l := ⟨_, rfl⟩
      obtain ⟨m, hm⟩ : ∃ m, nx - q = m := ⟨_, rfl⟩
      rw [hl] at hgs
      rw [hm] at hds
      obtain ⟨e7, e8, e9, e10, e11, e12, hnq⟩ := l4_nums hmn.1 hmn.2 HA.out.1 (show a ≤ q by omega) (show q < n by omega) (by rw [← hn]; exact hnx) hl hm
      have HN := Lib.hid (And.intro hnx (And.intro hg (And.intro hd hnq)))
      rw [hg]
      clear hnx hg hd hl hm hnq hmn
      by_cases hlast : (m : Int) < ch
      case' pos => have e13 := e10 hlast; clear e10
      case' neg => clear e10
      all_goals
       (go_wp2_with (first
        | (have hh := T6; clear hh T6; go_at_call 18; refine (Inv.say HI.out HG.out).mono ?_; rintro e w6 ⟨rfl, hI⟩; rw [say_data ch tt q nx hq2 HN.out.1] at hI ⊢; rw [HN.out.2.2.1]; obtain ⟨x1, x2⟩ := (hI.row (g := w1.heap.size) (cs := cI i7) (ty := 40) (by with_reducible repeat (first | exact List.mem_cons_self | apply List.mem_cons_of_mem))).idI; have x3 := (hI.row (g := w1.heap.size) (cs := cI i7) (ty := 40) (by with_reducible repeat (first | exact List.mem_cons_self | apply List.mem_cons_of_mem))).lt; have y1 := (row_R (hI.row (g := w2.heap.size) (cs := cR r) (ty := 32) (by with_reducible repeat (first | exact List.mem_cons_self | apply List.mem_cons_of_mem)))).1; rw [H2.out.2] at y1; have y3 := (hI.row (g := w2.heap.size) (cs := cR r) (ty := 32) (by with_reducible repeat (first | exact List.mem_cons_self | apply List.mem_cons_of_mem))).lt; have H6 := Lib.hid (hI.alloc (cC ⟨7, ⟨#[]⟩, i7, 0, (q : Int), 0, 0, d⟩) 45); clear hI; have T7 : True := trivial)))
      all_goals
        have es : g ++ d = tt.extract a nx := by rw [← HN.out.2.1, ← HN.out.2.2.1]; exact extract_join tt a q nx (by omega) (by have := HN.out.2.2.2; omega)
        have H6' := H6.out.sub (L' := [(w2.heap.size, cR r, 32), (w1.heap.size, cI i7, 40)]) (fun x hx => List.mem_cons_of_mem _ hx)
        go_roundw
        case rel => exact ⟨nx, k + 1, by have := HN.out.2.2.2; omega, by have := HN.out.2.2.2; omega, by rw [es], by go_num, H6'⟩
        case measure => simp [intOf] <;> omega
theorem law4 (c : UInt8) (t : ByteArray) (f : UInt16) (w : World) (hL : Laid w) : Calls Tryd.prog 4 #[.int .u8 (c.toNat : Int), .string t, .int .u16 (f.toNat : Int)] w fun e w' => e = .returned (.bool true) ∧ Below w.heap.size w w' := by
  by_cases hok : okArt (i7, cutS t)
  · by_cases ha : f.toNat % ((cutS t).size + 2) ≤ (cutS t).size
    · exact law4_ok c t f w hL hok ha
    · exact law4_range c t f w hL hok (by omega)
  · exact law4_no c t f w hL hok
end Go.Proofs.YtlelecnafdddhaaDoor
