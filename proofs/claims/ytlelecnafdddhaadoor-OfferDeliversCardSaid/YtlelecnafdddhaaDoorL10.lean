/- bulletinlaw33.OfferDelivers. -/
import Derived.Test.YtlelecnafdddhaaDoorRecM
namespace Go.Proofs.YtlelecnafdddhaaDoor
open Go.RowKit
def cB1 (c : UInt8) : List Value := [cB c]
theorem cB1_length (c : UInt8) : (cB1 c).length = 1 := rfl
def gotC : Cm := ⟨9, ⟨#[]⟩, i7, 0, 0, 0, 0, ⟨#[]⟩⟩
def tEnd : St := ⟨[], 0, zA, [(i7, 0, 0)], none⟩
theorem hear_got (t : ByteArray) : hearS (tSent t) gotC = (tEnd, 0) := by
  unfold hearS
  rw [if_neg (by decide +kernel), if_neg (by simp [isAns, gotC]), if_neg (by simp [tSent, gotC]), if_neg (by show ¬ effS (tSent t) 9 = 1; exact (by decide : ¬ (2 : Int) = 1)), if_pos (show effS (tSent t) gotC.verb = 2 from rfl)]
  rfl
theorem drop_send (t : ByteArray) (q : Nat) : dropS (tSend t q) = tAdd t := by
  unfold dropS
  rw [if_neg (show ¬ (tSend t q).state = 0 from (by decide : ¬ (2 : Int) = 0))]
  rfl
def tk (t : ByteArray) (p : Nat) : List UInt8 := t.data.toList.take p
theorem tk_length (t : ByteArray) (p : Nat) (h : p ≤ t.size) : (tk t p).length = p := by
  unfold tk
  rw [List.length_take]
  exact Nat.min_eq_left h
theorem tk_join (t : ByteArray) (p q : Nat) (h : p ≤ q) : tk t p ++ (t.extract p q).data.toList = tk t q := by
  unfold tk
  rw [ByteArray.data_extract, Array.toList_extract]
  have e : q = p + (q - p) := by omega
  rw [List.extract_eq_take_drop]
  conv => rhs; rw [e]
  rw [List.take_add]
theorem tk_all (t : ByteArray) : (⟨(tk t t.size).toArray⟩ : ByteArray) = t := by
  unfold tk
  rw [List.take_of_length_le (show t.data.toList.length ≤ t.size from Nat.le_refl _)]
theorem u8_tmod8 (c : UInt8) : (c.toNat : Int).tmod 8 = ((c.toNat % 8 : Nat) : Int) := by
  rw [Int.tmod_eq_emod_of_nonneg (by omega)]
  omega
theorem cB1_at {w : World} {A : Option Addr} {xs : List UInt8} (h : Sl w cB1 A xs) {k : Nat} (hk : k < xs.length) : ∃ ad, A = some ad ∧ w.cell? (ad.add k) = some (.int .u8 (xs[k].toNat : Int)) := by
  obtain ⟨ad, rfl, hat⟩ := Sl.at_ cB1_length h hk
  have h1 := hat.2 0 _ (show (cB1 xs[k])[0]? = some (.int .u8 (xs[k].toNat : Int)) from rfl)
  rw [Addr.add_zero', Nat.mul_one] at h1
  exact ⟨ad, rfl, h1⟩
section
variable (w : World)
@[go_sem] theorem bl68_2 (n : Int) (x : Id) : (blA 68 #[(0, vI x), (1, .int .i64 n)]).run Tryd.prog w = .ok (vO (x, n, 0)) w := by
  revert x
  refine Id.cases fun a0 a1 a2 a3 a4 a5 a6 a7 a8 a9 a10 a11 a12 a13 a14 a15 a16 a17 a18 a19 a20 a21 a22 a23 a24 a25 a26 a27 a28 a29 a30 a31 => ?_
  kernel_rfl
@[go_sem] theorem eql68_7 : (binOp .eql 68 (vO (i7, 0, 0)) (vO (i7, 0, 0))).run Tryd.prog w = .ok (.bool true) w := by kernel_rfl
end
section
variable {w0 w : World} {b : Nat} {ch : Int} {s : St} {L : List (Nat × List Value × TypeId)} {g : Nat} {x : Id} {sz : Int} {l : List UInt8} {cp : Bool} {q : Option Addr} {v : Value}
theorem InvV.say {s1 : St} {c1 : Cm} {b1 : Bool} (h : InvV w0 b ch s L g x sz l cp q v w) (gd : Good ch s) (hs : sayS ch s = (s1, c1, b1)) : Calls Tryd.prog 18 #[.pointer (some ⟨b, 0, none⟩)] w fun e w' => e = .returned (.tuple #[vC c1, .bool b1]) ∧ InvV w0 b ch s1 L g x sz l cp q v w' := by
  have h1 := h.calls (u := .tuple #[vC (sayS ch s).2.1, .bool (sayS ch s).2.2]) (s' := (sayS ch s).1) (fun _ hM => hM.say gd)
  rw [hs] at h1
  exact h1
theorem InvV.hear {s1 : St} {c : Cm} {n : Int} (h : InvV w0 b ch s L g x sz l cp q v w) (gd : Good ch s) (hL : Laid w0) (hn : c.name = ⟨#[]⟩) (hm : s.outs.length ≤ 100000) (hs : hearS s c = (s1, n)) : Calls Tryd.prog 19 #[.pointer (some ⟨b, 0, none⟩), vC c] w fun e w' => e = .returned (.int .i64 n) ∧ InvV w0 b ch s1 L g x sz l cp q v w' := by
  have h1 := h.calls (u := .int .i64 (hearS s c).2) (s' := (hearS s c).1) (fun _ hM => hM.hear gd hL c hn hm)
  rw [hs] at h1
  exact h1
theorem InvV.turnB {v' : Value} {w' : World} (h : InvV w0 b ch s L g x sz l cp q v w) (ht : Turn g v v' w w') : Inv w0 b ch s L w' := by
  obtain ⟨M, hI, h2⟩ := h.inv
  obtain ⟨F, f1, f2, f3⟩ := hI.rep
  have hoF : ∀ k ∈ F, some k ≠ v.ownBlock := fun k hk e => by
    obtain ⟨_, _, cs, h5⟩ := h2 k e.symm
    exact (f3 _ (List.mem_append_left _ h5)).2 hk
  have hgF : g ∉ F := (f3 (g, _, 113) (List.mem_append_right _ List.mem_cons_self)).2
  refine ⟨⟨ht.os.trans hI.bel.os, ht.tape.trans hI.bel.tape, ht.output.trans hI.bel.output, Nat.le_trans hI.bel.size ht.size, fun k hk => (ht.out k (Nat.lt_of_lt_of_le hk hI.bel.size) (by have := h.le; omega) (fun e => by have := (h2 k e.symm).1; omega)).trans (hI.bel.block k hk)⟩, F, ?_, fun k hk => ⟨(f2 k hk).1, Nat.lt_of_lt_of_le (f2 k hk).2 ht.size⟩, fun y hy => ?_⟩
  · obtain ⟨vw, vo, p, hr⟩ := f1
    exact ⟨vw, vo, p, hr.same fun k hk => ht.out k (f2 k hk).2 (fun e => hgF (e ▸ hk)) (hoF k hk)⟩
  · obtain ⟨r1, r2⟩ := f3 y (List.mem_append_right _ (List.mem_cons_of_mem _ hy))
    exact ⟨r1.same (ht.out y.1 r1.lt (fun e => h.gL (List.mem_map.2 ⟨y, hy, e⟩)) (fun e => (h2 y.1 e.symm).2.1 (List.mem_map.2 ⟨y, hy, rfl⟩))), r2⟩
theorem Inv.outsE (h : Inv w0 b ch s L w) : Calls Tryd.prog 25 #[.pointer (some ⟨b, 0, none⟩)] w fun e w' => ∃ A n c, e = .returned (.slice A n c) ∧ s.outs.length = n ∧ Sl w' cO A s.outs ∧ Inv w0 b ch { s with outs := [] } L w' := by
  obtain ⟨F, h1, h2, h3⟩ := h.rep
  refine (outcomes25x b ch s F w h1).mono ?_
  rintro e w' ⟨A, n, c, rfl, F2, hs, hr, hk⟩
  exact ⟨A, n, c, rfl, hs.1, hs.2.2.1, Inv.of h.bel (fun k hk => (h2 k hk).1) h3 hr hk⟩
theorem InvV.drop (h : InvV w0 b ch s L g x sz l cp q v w) (gd : Good ch s) : Calls Tryd.prog 31 #[.pointer (some ⟨b, 0, none⟩)] w fun e w' => e = .returned (.int .i64 0) ∧ InvV w0 b ch (dropS s) L g x sz l cp q v w' := h.calls (fun _ hM => hM.drop gd)
end
set_option maxRecDepth 100000 in
set_option maxHeartbeats 6400000 in
theorem law10_no (c : UInt8) (t : ByteArray) (A : Option Addr) (nd cp : Nat) (w : World) (hL : Laid w) (hok : ¬ okArt (i7, cutS t)) : Calls Tryd.prog 10 #[.int .u8 (c.toNat : Int), .string t, .slice A nd cp] w fun e w' => e = .returned (.bool true) ∧ Below w.heap.size w w' := by
  have HX := Lib.hid hL
  have l1 := chunkN_lo c
  have l2 := chunkN_hi c
  obtain ⟨ch, hch⟩ : ∃ ch, chunkN c = ch := ⟨_, rfl⟩
  rw [hch] at l1 l2
  have HCH := Lib.hid hch
  have H64 := Lib.hid (And.intro l1 l2)
  obtain ⟨tt, htt⟩ : ∃ tt, cutS t = tt := ⟨_, rfl⟩
  have hsz := cutS_size t
  have HT := Lib.hid htt
  rw [htt] at hok hsz
  obtain ⟨n, hn⟩ : ∃ n, tt.size = n := ⟨_, rfl⟩
  rw [hn] at hsz
  obtain ⟨z, hz⟩ : ∃ z, addS St.zero i7 tt = z := ⟨_, rfl⟩
  obtain ⟨zs, zc⟩ := z
  have hzz := add_zero7_no tt (by omega) hok
  rw [hz] at hzz
  have hz2 : (zc != 0) = true := by simpa using hzz.2
  have HZ := Lib.hid (And.intro hz hzz.1)
  have HSZ := Lib.hid hsz
  clear hok hL l1 l2 hch htt hz hzz hsz
  have T0 : True := trivial
  go_enter Tryd.func10, Tryd.ntmps10
  go_wp2_with (first
    | (have hh := T0; clear hh T0; go_at_call 13; refine (known13 w HX.out.1 HX.out.2).mono ?_; rintro e w1 ⟨rfl, hb⟩; have H1 := Lib.hid hb; clear hb; have T1 : True := trivial)
    | (have hh := T1; clear hh T1; go_at_call 16; refine (cut16 t _).mono ?_; rintro e w2 ⟨rfl, rfl⟩; rw [HT.out]; have T2 : True := trivial)
    | (have hh := T2; clear hh T2; go_at_call 17; refine (begin17 c _).mono ?_; rintro e w2 ⟨b, r, rfl, hlb, hr, hra, hbl⟩; rw [HCH.out] at hr hra; have hI := Inv.start (L := [(w1.heap.size, cI i7, 40)]) (Below.step H1.out (below_alloc w1 (.cells (aI i7) 40))) (fun x hx => by rw [List.mem_singleton.1 hx]; exact Row.new w1 (cI i7) 40) hlb hr hbl; obtain ⟨x1, x2⟩ := (hI.row (g := w1.heap.size) (cs := cI i7) (ty := 40) (by with_reducible repeat (first | exact List.mem_cons_self | apply List.mem_cons_of_mem))).idI; have x3 := (hI.row (g := w1.heap.size) (cs := cI i7) (ty := 40) (by with_reducible repeat (first | exact List.mem_cons_self | apply List.mem_cons_of_mem))).lt; have hI2 := hI.below (below_alloc w2 (.cells (aR r) 32)); have H2 := Lib.hid hI2; clear hI hI2 hr hra hbl hlb; have T3 : True := trivial)
    | (have hh := T3; clear hh T3; go_at_call 32; refine (new32 i7 (n : Int) _ (by omega) (by have := HSZ.out; omega)).mono ?_; rintro e w3 ⟨g, rfl, hg, hr, hb⟩; have hV := InvV.start H2.out hb hg hr; clear x1 x2 x3; obtain ⟨x1, x2⟩ := (hV.row (k := w1.heap.size) (cs := cI i7) (ty := 40) (by with_reducible repeat (first | exact List.mem_cons_self | apply List.mem_cons_of_mem))).idI; have x3 := (hV.row (k := w1.heap.size) (cs := cI i7) (ty := 40) (by with_reducible repeat (first | exact List.mem_cons_self | apply List.mem_cons_of_mem))).lt; have H3 := Lib.hid hV; clear hV hg hr hb; have T4 : True := trivial)
    | (have hh := T4; clear hh T4; go_at_call 15; refine (H3.out.calls (fun _ hM => hM.add i7 tt (by decide))).mono ?_; rintro e w4 ⟨rfl, hI⟩; rw [HZ.out.1] at hI ⊢; rw [show (zs, zc).1 = St.zero from HZ.out.2] at hI; have H4 := Lib.hid hI; clear hI; have T5 : True := trivial)
    | (have hh := T5; clear hh T5; go_at_call 26; obtain ⟨F, hF, _⟩ := H4.out.base.rep; refine (waiting26 b ch St.zero F _ hF (by decide)).mono ?_; rintro e w5 ⟨A5, n5, c5, rfl, hn5, _, hb5⟩; obtain rfl : n5 = 0 := hn5.symm; have H5 := Lib.hid hb5; clear hF hb5 hn5))
  go_ret
  exact ⟨rfl, Below.step H4.out.base.bel H5.out⟩
set_option maxRecDepth 100000 in
set_option maxHeartbeats 6400000 in
theorem law10_ok (c : UInt8) (t : ByteArray) (A : Option Addr) (nd cp : Nat) (ds : List UInt8) (w : World) (hL : Laid w) (hds : ds.length = nd) (hsd : Sl w cB1 A ds) (hok : okArt (i7, cutS t)) : Calls Tryd.prog 10 #[.int .u8 (c.toNat : Int), .string t, .slice A nd cp] w fun e w' => e = .returned (.bool true) ∧ Below w.heap.size w w' := by
  have HX := Lib.hid hL
  have l1 := chunkN_lo c
  have l2 := chunkN_hi c
  obtain ⟨ch, hch⟩ : ∃ ch, chunkN c = ch := ⟨_, rfl⟩
  rw [hch] at l1 l2
  have HCH := Lib.hid hch
  have H64 := Lib.hid (And.intro l1 l2)
  obtain ⟨tt, htt⟩ : ∃ tt, cutS t = tt := ⟨_, rfl⟩
  have hsz := cutS_size t
  have HT := Lib.hid htt
  rw [htt] at hok hsz
  obtain ⟨n, hn⟩ : ∃ n, tt.size = n := ⟨_, rfl⟩
  rw [hn] at hsz
  have HSZ := Lib.hid hsz
  have HOK := Lib.hid hok
  have HDS := Lib.hid (And.intro hds hsd)
  have HNN := Lib.hid hn
  have hne : 0 < n := by
    rcases Nat.eq_zero_or_pos n with e | e
    · have h2 := hok.2.1
      have e2 : tt.toList = [] := by rw [ByteArray.toList_eq, ← List.length_eq_zero_iff]; exact hn.trans e
      rw [e2] at h2
      cases h2
    · exact e
  have HPOS := Lib.hid hne
  clear hok hL l1 l2 hch htt hsz hds hsd hne
  have T0 : True := trivial
  go_enter Tryd.func10, Tryd.ntmps10
  go_wp2_with (first
    | (have hh := T0; clear hh T0; go_at_call 13; refine (known13 w HX.out.1 HX.out.2).mono ?_; rintro e w1 ⟨rfl, hb⟩; have H1 := Lib.hid hb; clear hb; have T1 : True := trivial)
    | (have hh := T1; clear hh T1; go_at_call 16; refine (cut16 t _).mono ?_; rintro e w2 ⟨rfl, rfl⟩; rw [HT.out]; have T2 : True := trivial)
    | (have hh := T2; clear hh T2; go_at_call 17; refine (begin17 c _).mono ?_; rintro e w2 ⟨b, r, rfl, hlb, hr, hra, hbl⟩; rw [HCH.out] at hr hra; have hI := Inv.start (L := [(w1.heap.size, cI i7, 40)]) (Below.step H1.out (below_alloc w1 (.cells (aI i7) 40))) (fun x hx => by rw [List.mem_singleton.1 hx]; exact Row.new w1 (cI i7) 40) hlb hr hbl; obtain ⟨x1, x2⟩ := (hI.row (g := w1.heap.size) (cs := cI i7) (ty := 40) (by with_reducible repeat (first | exact List.mem_cons_self | apply List.mem_cons_of_mem))).idI; have x3 := (hI.row (g := w1.heap.size) (cs := cI i7) (ty := 40) (by with_reducible repeat (first | exact List.mem_cons_self | apply List.mem_cons_of_mem))).lt; have hI2 := hI.below (below_alloc w2 (.cells (aR r) 32)); have H2 := Lib.hid hI2; clear hI hI2 hr hra hbl hlb; have T3 : True := trivial)
    | (have hh := T3; clear hh T3; go_at_call 32; refine (new32 i7 (n : Int) _ (by omega) (by have := HSZ.out; omega)).mono ?_; rintro e w3 ⟨g, rfl, hg, hr, hb⟩; have hV := InvV.start H2.out hb hg hr; clear x1 x2 x3; obtain ⟨x1, x2⟩ := (hV.row (k := w1.heap.size) (cs := cI i7) (ty := 40) (by with_reducible repeat (first | exact List.mem_cons_self | apply List.mem_cons_of_mem))).idI; have x3 := (hV.row (k := w1.heap.size) (cs := cI i7) (ty := 40) (by with_reducible repeat (first | exact List.mem_cons_self | apply List.mem_cons_of_mem))).lt; have H3 := Lib.hid hV; clear hV hg hr hb; have T4 : True := trivial)
    | (have hh := T4; clear hh T4; go_at_call 15; refine (H3.out.calls (fun _ hM => hM.add i7 tt (by decide))).mono ?_; rintro e w4 ⟨rfl, hI⟩; rw [add_zero7 tt HOK.out] at hI ⊢; have H4 := Lib.hid hI; clear hI x1 x2 x3))
  obtain ⟨g7, hg7⟩ : ∃ g7, g7 = w1.heap.size := ⟨_, rfl⟩
  have H5 := Lib.hid (show InvV w b ch (tAdd tt) [(g7, cI i7, 40)] g i7 (n : Int) (tk tt 0) false none (.slice none 0 0) w4 by rw [hg7]; exact H4.out)
  have HGA := Lib.hid (good_add (ch := ch) (t := tt) H64.out.1 (by have := H64.out.2; omega) HOK.out)
  have HGO := Lib.hid (good_off (ch := ch) (t := tt) H64.out.1 (by have := H64.out.2; omega) HOK.out)
  have HGS := Lib.hid (fun q hq => good_send (ch := ch) (t := tt) H64.out.1 (by have := H64.out.2; omega) HOK.out q hq)
  have HGT := Lib.hid (good_sent (ch := ch) (t := tt) H64.out.1 (by have := H64.out.2; omega) HOK.out)
  rw [← hg7]
  clear hg7 H4 H3 H2
  go_loopw [13] (fun i wr => ∃ (k p : Nat) (q : Option Addr) (v : Value), k ≤ 20 ∧ i = .int .i64 (k : Int) ∧ p ≤ n ∧ InvV w b ch (tAdd tt) [(g7, cI i7, 40)] g i7 (n : Int) (tk tt p) false q v wr) (fun i _ => 21 - (intOf i).toNat)
  case atStart => exact ⟨0, 0, none, .slice none 0 0, by omega, rfl, Nat.zero_le _, H5.out⟩
  case round =>
    obtain ⟨k, p, q, v, hk, rfl, hp, hI⟩ := hrel
    have hk20 : (k : Int) ≤ 20 := by omega
    have HI0 := Lib.hid hI
    have HKP := Lib.hid (And.intro hk hp)
    clear hI
    have T5 : True := trivial
    go_wp2_with (have hh := T5; clear hh T5; go_at_call 18; refine (HI0.out.say HGA.out (say_add ch tt)).mono ?_; rintro e w5 ⟨rfl, hI⟩; have H6 := Lib.hid hI; clear hI)
    obtain ⟨b14, hb14⟩ : ∃ b14, b14 = w5.heap.size := ⟨_, rfl⟩
    obtain ⟨U, hU⟩ : ∃ U, w5.alloc (.cells (aC (offerC (i7, tt))) 45) = U := ⟨_, rfl⟩
    have HRC := Lib.hid (show Row U b14 (cC (offerC (i7, tt))) 45 by rw [← hU, hb14]; exact Row.new w5 (cC (offerC (i7, tt))) 45)
    have HVU := Lib.hid (show InvV w b ch (tOff tt) [(g7, cI i7, 40)] g i7 (n : Int) (tk tt p) false q v U by rw [← hU]; exact H6.out.below (below_alloc _ _))
    rw [← hb14, hU]
    clear hU hb14 hk hp
    refine AnyO.wp_anyI (by kernel_rfl) (by kernel_rfl) (AnyO.InvG (σ := Unit) (fun σ => AnyO.pvL [some (.bool true), some (.bool false), some (.bool false), some (.pointer (some ⟨b14, 0, none⟩)), some (.int .i64 2), some (.bool false), some (.bool false), some (.bool false), some (.pointer (some ⟨b14, 34, none⟩)), some (.int .i64 (n : Int)), some (.string tt), some (.int .i64 (n : Int)), some (.bool false), some (.bool false), some (.bool false), some (.pointer (some ⟨b, 0, none⟩)), some (vI i7), some (.pointer (some ⟨g, 0, none⟩)), some (.int .i64 (p : Int)), some (vC (wantC p)), some (.int .i64 0), some (.bool false), some (.bool false)]) (fun _ D u => (D 20 = false → Below U.heap.size U u) ∧ (D 20 = true → InvV w b ch (tSend tt p) [(g7, cI i7, 40)] g i7 (n : Int) (tk tt p) false q v u))) (AnyO.InvG.start (g := ()) (⟨fun _ => (Below.refl _ _).drew, fun h => by cases h⟩)) ?_ ?_
    · intro i hi
      have hi2 : i = 0 ∨ i = 1 ∨ i = 2 ∨ i = 3 ∨ i = 4 ∨ i = 5 ∨ i = 6 ∨ i = 7 ∨ i = 8 ∨ i = 9 ∨ i = 10 ∨ i = 11 ∨ i = 12 ∨ i = 13 ∨ i = 14 ∨ i = 15 ∨ i = 16 ∨ i = 17 ∨ i = 18 ∨ i = 19 ∨ i = 20 ∨ i = 21 ∨ i = 22 := by simp only [List.size_toArray, List.length_cons, List.length_nil] at hi; omega
      clear hi
      rcases hi2 with rfl | rfl | rfl | rfl | rfl | rfl | rfl | rfl | rfl | rfl | rfl | rfl | rfl | rfl | rfl | rfl | rfl | rfl | rfl | rfl | rfl | rfl | rfl
      · -- 0: Op.move (Operand.tmp 15)
        refine AnyO.StepI.mk rfl [] (by kernel_rfl) ?_
        intro D vs u hI h0 hC hp ac hb K hK
        obtain ⟨σ, hP, hW⟩ := hI
        have s15 : ac.tmps[15]?.getD undef = .bool true := by rw [hb]; kernel_rfl
        rw [if_pos (AnyO.wanted_none rfl)]
        clear hb hp
        clear hC
        clear h0
        have HP := Lib.hid hP
        have HWq := Lib.hid hW
        clear hP hW
        go_simp
        have hP := HP.out
        have hW := HWq.out
        clear HP HWq
        exact hK _ _ (AnyO.InvG.step (g := σ) hP rfl hW)
      · -- 1: Op.unOp UnOp.not 4 (Operand.tmp 69)
        refine AnyO.StepI.mk rfl [0] (by kernel_rfl) ?_
        intro D vs u hI h0 hC hp ac hb K hK
        obtain ⟨σ, hP, hW⟩ := hI
        have s69 : ac.tmps[69]?.getD undef = .bool true := by rw [hb]; exact (show _ = vs 0 by kernel_rfl).trans (show vs 0 = .bool true from hP 0 (hp 0 (by decide)))
        rw [if_pos (AnyO.wanted_none rfl)]
        clear hb hp
        clear hC
        clear h0
        have HP := Lib.hid hP
        have HWq := Lib.hid hW
        clear hP hW
        go_simp
        have hP := HP.out
        have hW := HWq.out
        clear HP HWq
        exact hK _ _ (AnyO.InvG.step (g := σ) hP rfl hW)
      · -- 2: Op.move (Operand.tmp 70)
        refine AnyO.StepI.mk rfl [1] (by kernel_rfl) ?_
        intro D vs u hI h0 hC hp ac hb K hK
        obtain ⟨σ, hP, hW⟩ := hI
        have s70 : ac.tmps[70]?.getD undef = .bool false := by rw [hb]; exact (show _ = vs 1 by kernel_rfl).trans (show vs 1 = .bool false from hP 1 (hp 1 (by decide)))
        rw [if_pos (AnyO.wanted_none rfl)]
        clear hb hp
        clear hC
        clear h0
        have HP := Lib.hid hP
        have HWq := Lib.hid hW
        clear hP hW
        go_simp
        have hP := HP.out
        have hW := HWq.out
        clear HP HWq
        exact hK _ _ (AnyO.InvG.step (g := σ) hP rfl hW)
      · -- 3: Op.fieldAddr 45 (Operand.tmp 14) 0
        refine AnyO.StepI.mk rfl [2] (by kernel_rfl) ?_
        intro D vs u hI h0 hC hp ac hb K hK
        obtain ⟨σ, hP, hW⟩ := hI
        have s14 : ac.tmps[14]?.getD undef = .pointer (some ⟨b14, 0, none⟩) := by rw [hb]; kernel_rfl
        have s71 : ac.tmps[71]?.getD undef = .bool false := by rw [hb]; exact (show _ = vs 2 by kernel_rfl).trans (show vs 2 = .bool false from hP 2 (hp 2 (by decide)))
        rw [if_pos (AnyO.wanted_some (g := 2) (t := 71) (want := false) rfl rfl s71)]
        clear hb hp
        clear hC
        clear h0
        have HP := Lib.hid hP
        have HWq := Lib.hid hW
        clear hP hW
        go_simp
        have hP := HP.out
        have hW := HWq.out
        clear HP HWq
        exact hK _ _ (AnyO.InvG.step (g := σ) hP rfl hW)
      · -- 4: Op.load 3 (Operand.tmp 72)
        refine AnyO.StepI.mk rfl [3, 2] (by kernel_rfl) ?_
        intro D vs u hI h0 hC hp ac hb K hK
        obtain ⟨σ, hP, hW⟩ := hI
        have s72 : ac.tmps[72]?.getD undef = .pointer (some ⟨b14, 0, none⟩) := by rw [hb]; exact (show _ = vs 3 by kernel_rfl).trans (show vs 3 = .pointer (some ⟨b14, 0, none⟩) from hP 3 (hp 3 (by decide)))
        have s71 : ac.tmps[71]?.getD undef = .bool false := by rw [hb]; exact (show _ = vs 2 by kernel_rfl).trans (show vs 2 = .bool false from hP 2 (hp 2 (by decide)))
        rw [if_pos (AnyO.wanted_some (g := 2) (t := 71) (want := false) rfl rfl s71)]
        clear hb hp
        have hn20 : D 20 = false := by
          rcases hd : D 20 with _ | _
          · rfl
          · have z14 := hC 20 hd 14 (by rw [show AnyO.pre _ 20 = [15, 19, 18, 14] from by kernel_rfl]; decide)
            have z13 := hC 14 z14 13 (by rw [show AnyO.pre _ 14 = [13, 7] from by kernel_rfl]; decide)
            have z12 := hC 13 z13 12 (by rw [show AnyO.pre _ 13 = [7, 12] from by kernel_rfl]; decide)
            have z9 := hC 12 z12 9 (by rw [show AnyO.pre _ 12 = [9, 11, 7] from by kernel_rfl]; decide)
            have z8 := hC 9 z9 8 (by rw [show AnyO.pre _ 9 = [8, 7] from by kernel_rfl]; decide)
            have z7 := hC 8 z8 7 (by rw [show AnyO.pre _ 8 = [7] from by kernel_rfl]; decide)
            have z6 := hC 7 z7 6 (by rw [show AnyO.pre _ 7 = [6, 2] from by kernel_rfl]; decide)
            have z5 := hC 6 z6 5 (by rw [show AnyO.pre _ 6 = [2, 5] from by kernel_rfl]; decide)
            have z4 := hC 5 z5 4 (by rw [show AnyO.pre _ 5 = [4, 2] from by kernel_rfl]; decide)
            rw [h0] at z4
            cases z4
        have hWb := hW.1 hn20
        obtain ⟨rc0, _, _, _, _, _⟩ := row_C (HRC.out.keep hWb)
        rw [show (offerC (i7, tt)).verb = 2 from rfl] at rc0
        clear hC
        clear h0
        have HP := Lib.hid hP
        have HWq := Lib.hid hW
        clear hP hW
        go_simp
        have hP := HP.out
        have hW := HWq.out
        clear HP HWq
        exact hK _ _ (AnyO.InvG.step (g := σ) hP rfl hW)
      · -- 5: Op.binOp BinOp.neq 3 (Operand.tmp 73) (Operand.const (Value.
        refine AnyO.StepI.mk rfl [4, 2] (by kernel_rfl) ?_
        intro D vs u hI h0 hC hp ac hb K hK
        obtain ⟨σ, hP, hW⟩ := hI
        have s73 : ac.tmps[73]?.getD undef = .int .i64 2 := by rw [hb]; exact (show _ = vs 4 by kernel_rfl).trans (show vs 4 = .int .i64 2 from hP 4 (hp 4 (by decide)))
        have s71 : ac.tmps[71]?.getD undef = .bool false := by rw [hb]; exact (show _ = vs 2 by kernel_rfl).trans (show vs 2 = .bool false from hP 2 (hp 2 (by decide)))
        rw [if_pos (AnyO.wanted_some (g := 2) (t := 71) (want := false) rfl rfl s71)]
        clear hb hp
        clear hC
        clear h0
        have HP := Lib.hid hP
        have HWq := Lib.hid hW
        clear hP hW
        go_simp
        have hP := HP.out
        have hW := HWq.out
        clear HP HWq
        exact hK _ _ (AnyO.InvG.step (g := σ) hP rfl hW)
      · -- 6: Op.pick (Operand.tmp 71) (Operand.const (Value.bool true)) (
        refine AnyO.StepI.mk rfl [2, 5] (by kernel_rfl) ?_
        intro D vs u hI h0 hC hp ac hb K hK
        obtain ⟨σ, hP, hW⟩ := hI
        have s71 : ac.tmps[71]?.getD undef = .bool false := by rw [hb]; exact (show _ = vs 2 by kernel_rfl).trans (show vs 2 = .bool false from hP 2 (hp 2 (by decide)))
        have s74 : ac.tmps[74]?.getD undef = .bool false := by rw [hb]; exact (show _ = vs 5 by kernel_rfl).trans (show vs 5 = .bool false from hP 5 (hp 5 (by decide)))
        rw [if_pos (AnyO.wanted_none rfl)]
        clear hb hp
        clear hC
        clear h0
        have HP := Lib.hid hP
        have HWq := Lib.hid hW
        clear hP hW
        go_simp
        have hP := HP.out
        have hW := HWq.out
        clear HP HWq
        exact hK _ _ (AnyO.InvG.step (g := σ) hP rfl hW)
      · -- 7: Op.move (Operand.tmp 75)
        refine AnyO.StepI.mk rfl [6, 2] (by kernel_rfl) ?_
        intro D vs u hI h0 hC hp ac hb K hK
        obtain ⟨σ, hP, hW⟩ := hI
        have s75 : ac.tmps[75]?.getD undef = .bool false := by rw [hb]; exact (show _ = vs 6 by kernel_rfl).trans (show vs 6 = .bool false from hP 6 (hp 6 (by decide)))
        rw [if_pos (AnyO.wanted_none rfl)]
        clear hb hp
        clear hC
        clear h0
        have HP := Lib.hid hP
        have HWq := Lib.hid hW
        clear hP hW
        go_simp
        have hP := HP.out
        have hW := HWq.out
        clear HP HWq
        exact hK _ _ (AnyO.InvG.step (g := σ) hP rfl hW)
      · -- 8: Op.fieldAddr 45 (Operand.tmp 14) 3
        refine AnyO.StepI.mk rfl [7] (by kernel_rfl) ?_
        intro D vs u hI h0 hC hp ac hb K hK
        obtain ⟨σ, hP, hW⟩ := hI
        have s14 : ac.tmps[14]?.getD undef = .pointer (some ⟨b14, 0, none⟩) := by rw [hb]; kernel_rfl
        have s76 : ac.tmps[76]?.getD undef = .bool false := by rw [hb]; exact (show _ = vs 7 by kernel_rfl).trans (show vs 7 = .bool false from hP 7 (hp 7 (by decide)))
        rw [if_pos (AnyO.wanted_some (g := 7) (t := 76) (want := false) rfl rfl s76)]
        clear hb hp
        clear hC
        clear h0
        have HP := Lib.hid hP
        have HWq := Lib.hid hW
        clear hP hW
        go_simp
        have hP := HP.out
        have hW := HWq.out
        clear HP HWq
        exact hK _ _ (AnyO.InvG.step (g := σ) hP rfl hW)
      · -- 9: Op.load 3 (Operand.tmp 77)
        refine AnyO.StepI.mk rfl [8, 7] (by kernel_rfl) ?_
        intro D vs u hI h0 hC hp ac hb K hK
        obtain ⟨σ, hP, hW⟩ := hI
        have s77 : ac.tmps[77]?.getD undef = .pointer (some ⟨b14, 34, none⟩) := by rw [hb]; exact (show _ = vs 8 by kernel_rfl).trans (show vs 8 = .pointer (some ⟨b14, 34, none⟩) from hP 8 (hp 8 (by decide)))
        have s76 : ac.tmps[76]?.getD undef = .bool false := by rw [hb]; exact (show _ = vs 7 by kernel_rfl).trans (show vs 7 = .bool false from hP 7 (hp 7 (by decide)))
        rw [if_pos (AnyO.wanted_some (g := 7) (t := 76) (want := false) rfl rfl s76)]
        clear hb hp
        have hn20 : D 20 = false := by
          rcases hd : D 20 with _ | _
          · rfl
          · have z14 := hC 20 hd 14 (by rw [show AnyO.pre _ 20 = [15, 19, 18, 14] from by kernel_rfl]; decide)
            have z13 := hC 14 z14 13 (by rw [show AnyO.pre _ 14 = [13, 7] from by kernel_rfl]; decide)
            have z12 := hC 13 z13 12 (by rw [show AnyO.pre _ 13 = [7, 12] from by kernel_rfl]; decide)
            have z9 := hC 12 z12 9 (by rw [show AnyO.pre _ 12 = [9, 11, 7] from by kernel_rfl]; decide)
            rw [h0] at z9
            cases z9
        have hWb := hW.1 hn20
        have rc34 := ((HRC.out.keep hWb).cell 34).trans ((List.getElem?_toArray ..).symm.trans (aC_34 (offerC (i7, tt))))
        rw [show (offerC (i7, tt)).size = (n : Int) from by rw [← HNN.out]; rfl] at rc34
        clear hC
        clear h0
        have HP := Lib.hid hP
        have HWq := Lib.hid hW
        clear hP hW
        go_simp
        have hP := HP.out
        have hW := HWq.out
        clear HP HWq
        exact hK _ _ (AnyO.InvG.step (g := σ) hP rfl hW)
      · -- 10: Op.move (Operand.tmp 1)
        refine AnyO.StepI.mk rfl [7] (by kernel_rfl) ?_
        intro D vs u hI h0 hC hp ac hb K hK
        obtain ⟨σ, hP, hW⟩ := hI
        have s1 : ac.tmps[1]?.getD undef = .string tt := by rw [hb]; kernel_rfl
        have s76 : ac.tmps[76]?.getD undef = .bool false := by rw [hb]; exact (show _ = vs 7 by kernel_rfl).trans (show vs 7 = .bool false from hP 7 (hp 7 (by decide)))
        rw [if_pos (AnyO.wanted_some (g := 7) (t := 76) (want := false) rfl rfl s76)]
        clear hb hp
        clear hC
        clear h0
        have HP := Lib.hid hP
        have HWq := Lib.hid hW
        clear hP hW
        go_simp
        have hP := HP.out
        have hW := HWq.out
        clear HP HWq
        exact hK _ _ (AnyO.InvG.step (g := σ) hP rfl hW)
      · -- 11: Op.call { callee := Callee.builtin Builtin.len, args := #[Op
        refine AnyO.StepI.mk rfl [10, 7] (by kernel_rfl) ?_
        intro D vs u hI h0 hC hp ac hb K hK
        obtain ⟨σ, hP, hW⟩ := hI
        have s79 : ac.tmps[79]?.getD undef = .string tt := by rw [hb]; exact (show _ = vs 10 by kernel_rfl).trans (show vs 10 = .string tt from hP 10 (hp 10 (by decide)))
        have s76 : ac.tmps[76]?.getD undef = .bool false := by rw [hb]; exact (show _ = vs 7 by kernel_rfl).trans (show vs 7 = .bool false from hP 7 (hp 7 (by decide)))
        rw [if_pos (AnyO.wanted_some (g := 7) (t := 76) (want := false) rfl rfl s76)]
        clear hb hp
        have hns := HNN.out
        clear hC
        clear h0
        have HP := Lib.hid hP
        have HWq := Lib.hid hW
        clear hP hW
        go_simp
        have hP := HP.out
        have hW := HWq.out
        clear HP HWq
        exact hK _ _ (AnyO.InvG.step (g := σ) hP rfl hW)
      · -- 12: Op.binOp BinOp.neq 3 (Operand.tmp 78) (Operand.tmp 80) 3
        refine AnyO.StepI.mk rfl [9, 11, 7] (by kernel_rfl) ?_
        intro D vs u hI h0 hC hp ac hb K hK
        obtain ⟨σ, hP, hW⟩ := hI
        have s78 : ac.tmps[78]?.getD undef = .int .i64 (n : Int) := by rw [hb]; exact (show _ = vs 9 by kernel_rfl).trans (show vs 9 = .int .i64 (n : Int) from hP 9 (hp 9 (by decide)))
        have s80 : ac.tmps[80]?.getD undef = .int .i64 (n : Int) := by rw [hb]; exact (show _ = vs 11 by kernel_rfl).trans (show vs 11 = .int .i64 (n : Int) from hP 11 (hp 11 (by decide)))
        have s76 : ac.tmps[76]?.getD undef = .bool false := by rw [hb]; exact (show _ = vs 7 by kernel_rfl).trans (show vs 7 = .bool false from hP 7 (hp 7 (by decide)))
        rw [if_pos (AnyO.wanted_some (g := 7) (t := 76) (want := false) rfl rfl s76)]
        clear hb hp
        clear hC
        clear h0
        have HP := Lib.hid hP
        have HWq := Lib.hid hW
        clear hP hW
        go_simp
        have hP := HP.out
        have hW := HWq.out
        clear HP HWq
        exact hK _ _ (AnyO.InvG.step (g := σ) hP rfl hW)
      · -- 13: Op.pick (Operand.tmp 76) (Operand.const (Value.bool true)) (
        refine AnyO.StepI.mk rfl [7, 12] (by kernel_rfl) ?_
        intro D vs u hI h0 hC hp ac hb K hK
        obtain ⟨σ, hP, hW⟩ := hI
        have s76 : ac.tmps[76]?.getD undef = .bool false := by rw [hb]; exact (show _ = vs 7 by kernel_rfl).trans (show vs 7 = .bool false from hP 7 (hp 7 (by decide)))
        have s81 : ac.tmps[81]?.getD undef = .bool false := by rw [hb]; exact (show _ = vs 12 by kernel_rfl).trans (show vs 12 = .bool false from hP 12 (hp 12 (by decide)))
        rw [if_pos (AnyO.wanted_none rfl)]
        clear hb hp
        clear hC
        clear h0
        have HP := Lib.hid hP
        have HWq := Lib.hid hW
        clear hP hW
        go_simp
        have hP := HP.out
        have hW := HWq.out
        clear HP HWq
        exact hK _ _ (AnyO.InvG.step (g := σ) hP rfl hW)
      · -- 14: Op.move (Operand.tmp 82)
        refine AnyO.StepI.mk rfl [13, 7] (by kernel_rfl) ?_
        intro D vs u hI h0 hC hp ac hb K hK
        obtain ⟨σ, hP, hW⟩ := hI
        have s82 : ac.tmps[82]?.getD undef = .bool false := by rw [hb]; exact (show _ = vs 13 by kernel_rfl).trans (show vs 13 = .bool false from hP 13 (hp 13 (by decide)))
        rw [if_pos (AnyO.wanted_none rfl)]
        clear hb hp
        clear hC
        clear h0
        have HP := Lib.hid hP
        have HWq := Lib.hid hW
        clear hP hW
        go_simp
        have hP := HP.out
        have hW := HWq.out
        clear HP HWq
        exact hK _ _ (AnyO.InvG.step (g := σ) hP rfl hW)
      · -- 15: Op.move (Operand.tmp 8)
        refine AnyO.StepI.mk rfl [14] (by kernel_rfl) ?_
        intro D vs u hI h0 hC hp ac hb K hK
        obtain ⟨σ, hP, hW⟩ := hI
        have s8 : ac.tmps[8]?.getD undef = .pointer (some ⟨b, 0, none⟩) := by rw [hb]; kernel_rfl
        have s83 : ac.tmps[83]?.getD undef = .bool false := by rw [hb]; exact (show _ = vs 14 by kernel_rfl).trans (show vs 14 = .bool false from hP 14 (hp 14 (by decide)))
        rw [if_pos (AnyO.wanted_some (g := 14) (t := 83) (want := false) rfl rfl s83)]
        clear hb hp
        clear hC
        clear h0
        have HP := Lib.hid hP
        have HWq := Lib.hid hW
        clear hP hW
        go_simp
        have hP := HP.out
        have hW := HWq.out
        clear HP HWq
        exact hK _ _ (AnyO.InvG.step (g := σ) hP rfl hW)
      · -- 16: Op.load 40 (Operand.tmp 7)
        refine AnyO.StepI.mk rfl [14] (by kernel_rfl) ?_
        intro D vs u hI h0 hC hp ac hb K hK
        obtain ⟨σ, hP, hW⟩ := hI
        have s7 : ac.tmps[7]?.getD undef = .pointer (some ⟨g7, 0, none⟩) := by rw [hb]; kernel_rfl
        have s83 : ac.tmps[83]?.getD undef = .bool false := by rw [hb]; exact (show _ = vs 14 by kernel_rfl).trans (show vs 14 = .bool false from hP 14 (hp 14 (by decide)))
        rw [if_pos (AnyO.wanted_some (g := 14) (t := 83) (want := false) rfl rfl s83)]
        clear hb hp
        have hn20 : D 20 = false := by
          rcases hd : D 20 with _ | _
          · rfl
          · have z19 := hC 20 hd 19 (by rw [show AnyO.pre _ 20 = [15, 19, 18, 14] from by kernel_rfl]; decide)
            have z16 := hC 19 z19 16 (by rw [show AnyO.pre _ 19 = [16, 18, 14] from by kernel_rfl]; decide)
            rw [h0] at z16
            cases z16
        have hWb := hW.1 hn20
        obtain ⟨rr1, rr2⟩ := ((HVU.out.below hWb).row (k := g7) (cs := cI i7) (ty := 40) List.mem_cons_self).idI
        clear hC
        clear h0
        have HP := Lib.hid hP
        have HWq := Lib.hid hW
        clear hP hW
        go_simp
        have hP := HP.out
        have hW := HWq.out
        clear HP HWq
        exact hK _ _ (AnyO.InvG.step (g := σ) hP rfl hW)
      · -- 17: Op.move (Operand.tmp 10)
        refine AnyO.StepI.mk rfl [14] (by kernel_rfl) ?_
        intro D vs u hI h0 hC hp ac hb K hK
        obtain ⟨σ, hP, hW⟩ := hI
        have s10 : ac.tmps[10]?.getD undef = .pointer (some ⟨g, 0, none⟩) := by rw [hb]; kernel_rfl
        have s83 : ac.tmps[83]?.getD undef = .bool false := by rw [hb]; exact (show _ = vs 14 by kernel_rfl).trans (show vs 14 = .bool false from hP 14 (hp 14 (by decide)))
        rw [if_pos (AnyO.wanted_some (g := 14) (t := 83) (want := false) rfl rfl s83)]
        clear hb hp
        clear hC
        clear h0
        have HP := Lib.hid hP
        have HWq := Lib.hid hW
        clear hP hW
        go_simp
        have hP := HP.out
        have hW := HWq.out
        clear HP HWq
        exact hK _ _ (AnyO.InvG.step (g := σ) hP rfl hW)
      · -- 18: Op.call { callee := Callee.value (Operand.func 33), args := 
        refine AnyO.StepI.mk rfl [17, 14, 14] (by kernel_rfl) ?_
        intro D vs u hI h0 hC hp ac hb K hK
        obtain ⟨σ, hP, hW⟩ := hI
        have s86 : ac.tmps[86]?.getD undef = .pointer (some ⟨g, 0, none⟩) := by rw [hb]; exact (show _ = vs 17 by kernel_rfl).trans (show vs 17 = .pointer (some ⟨g, 0, none⟩) from hP 17 (hp 17 (by decide)))
        have s83 : ac.tmps[83]?.getD undef = .bool false := by rw [hb]; exact (show _ = vs 14 by kernel_rfl).trans (show vs 14 = .bool false from hP 14 (hp 14 (by decide)))
        rw [if_pos (AnyO.wanted_some (g := 14) (t := 83) (want := false) rfl rfl s83)]
        clear hb hp
        have hn20 : D 20 = false := by
          rcases hd : D 20 with _ | _
          · rfl
          · have z19 := hC 20 hd 19 (by rw [show AnyO.pre _ 20 = [15, 19, 18, 14] from by kernel_rfl]; decide)
            have z18 := hC 19 z19 18 (by rw [show AnyO.pre _ 19 = [16, 18, 14] from by kernel_rfl]; decide)
            rw [h0] at z18
            cases z18
        have hWb := hW.1 hn20
        clear hC
        clear h0
        have HP := Lib.hid hP
        have HWq := Lib.hid hW
        clear hP hW
        go_simp
        have hP := HP.out
        have hW := HWq.out
        clear HP HWq
        go_at_call 33
        refine (from33 g i7 (n : Int) (tk tt p) false q v u (HVU.out.below hWb).rec_).mono ?_
        rintro e w2 ⟨rfl, rfl⟩
        rw [tk_length tt p (by rw [HNN.out]; exact HKP.out.2)]
        exact hK _ _ (AnyO.InvG.step (g := σ) hP rfl hW)
      · -- 19: Op.build 45 #[(0, Operand.const (Value.int IntKind.i64 3)), 
        refine AnyO.StepI.mk rfl [16, 18, 14] (by kernel_rfl) ?_
        intro D vs u hI h0 hC hp ac hb K hK
        obtain ⟨σ, hP, hW⟩ := hI
        have s85 : ac.tmps[85]?.getD undef = vI i7 := by rw [hb]; exact (show _ = vs 16 by kernel_rfl).trans (show vs 16 = vI i7 from hP 16 (hp 16 (by decide)))
        have s87 : ac.tmps[87]?.getD undef = .int .i64 (p : Int) := by rw [hb]; exact (show _ = vs 18 by kernel_rfl).trans (show vs 18 = .int .i64 (p : Int) from hP 18 (hp 18 (by decide)))
        have s83 : ac.tmps[83]?.getD undef = .bool false := by rw [hb]; exact (show _ = vs 14 by kernel_rfl).trans (show vs 14 = .bool false from hP 14 (hp 14 (by decide)))
        rw [if_pos (AnyO.wanted_some (g := 14) (t := 83) (want := false) rfl rfl s83)]
        clear hb hp
        clear hC
        clear h0
        have HP := Lib.hid hP
        have HWq := Lib.hid hW
        clear hP hW
        go_simp
        have hP := HP.out
        have hW := HWq.out
        clear HP HWq
        exact hK _ _ (AnyO.InvG.step (g := σ) hP rfl hW)
      · -- 20: Op.call { callee := Callee.value (Operand.func 19), args := 
        refine AnyO.StepI.mk rfl [15, 19, 18, 14] (by kernel_rfl) ?_
        intro D vs u hI h0 hC hp ac hb K hK
        obtain ⟨σ, hP, hW⟩ := hI
        have s84 : ac.tmps[84]?.getD undef = .pointer (some ⟨b, 0, none⟩) := by rw [hb]; exact (show _ = vs 15 by kernel_rfl).trans (show vs 15 = .pointer (some ⟨b, 0, none⟩) from hP 15 (hp 15 (by decide)))
        have s88 : ac.tmps[88]?.getD undef = vC (wantC p) := by rw [hb]; exact (show _ = vs 19 by kernel_rfl).trans (show vs 19 = vC (wantC p) from hP 19 (hp 19 (by decide)))
        have s83 : ac.tmps[83]?.getD undef = .bool false := by rw [hb]; exact (show _ = vs 14 by kernel_rfl).trans (show vs 14 = .bool false from hP 14 (hp 14 (by decide)))
        rw [if_pos (AnyO.wanted_some (g := 14) (t := 83) (want := false) rfl rfl s83)]
        clear hb hp
        clear hC
        have HP := Lib.hid hP
        have HWq := Lib.hid hW
        clear hP hW
        go_simp
        have hP := HP.out
        have hW := HWq.out
        clear HP HWq
        have hWb := hW.1 h0
        go_at_call 19
        refine ((HVU.out.below hWb).hear (c := wantC p) HGO.out HX.out rfl (by simp [tOff]) (hear_want tt p (by have := HKP.out.2; have := HSZ.out; omega) (by rw [HNN.out]; exact HKP.out.2))).mono ?_
        rintro e w2 ⟨rfl, hI9⟩
        exact hK _ _ (AnyO.InvG.step (g := σ) hP rfl ⟨fun h => (by cases h), fun _ => hI9⟩)
      · -- 21: Op.binOp BinOp.neq 24 (Operand.tmp 89) (Operand.const (Value
        refine AnyO.StepI.mk rfl [20, 14] (by kernel_rfl) ?_
        intro D vs u hI h0 hC hp ac hb K hK
        obtain ⟨σ, hP, hW⟩ := hI
        have s89 : ac.tmps[89]?.getD undef = .int .i64 0 := by rw [hb]; exact (show _ = vs 20 by kernel_rfl).trans (show vs 20 = .int .i64 0 from hP 20 (hp 20 (by decide)))
        have s83 : ac.tmps[83]?.getD undef = .bool false := by rw [hb]; exact (show _ = vs 14 by kernel_rfl).trans (show vs 14 = .bool false from hP 14 (hp 14 (by decide)))
        rw [if_pos (AnyO.wanted_some (g := 14) (t := 83) (want := false) rfl rfl s83)]
        clear hb hp
        clear hC
        clear h0
        have HP := Lib.hid hP
        have HWq := Lib.hid hW
        clear hP hW
        go_simp
        have hP := HP.out
        have hW := HWq.out
        clear HP HWq
        exact hK _ _ (AnyO.InvG.step (g := σ) hP rfl hW)
      · -- 22: Op.pick (Operand.tmp 83) (Operand.const (Value.bool true)) (
        refine AnyO.StepI.mk rfl [14, 21] (by kernel_rfl) ?_
        intro D vs u hI h0 hC hp ac hb K hK
        obtain ⟨σ, hP, hW⟩ := hI
        have s83 : ac.tmps[83]?.getD undef = .bool false := by rw [hb]; exact (show _ = vs 14 by kernel_rfl).trans (show vs 14 = .bool false from hP 14 (hp 14 (by decide)))
        have s90 : ac.tmps[90]?.getD undef = .bool false := by rw [hb]; exact (show _ = vs 21 by kernel_rfl).trans (show vs 21 = .bool false from hP 21 (hp 21 (by decide)))
        rw [if_pos (AnyO.wanted_none rfl)]
        clear hb hp
        clear hC
        clear h0
        have HP := Lib.hid hP
        have HWq := Lib.hid hW
        clear hP hW
        go_simp
        have hP := HP.out
        have hW := HWq.out
        clear HP HWq
        exact hK _ _ (AnyO.InvG.step (g := σ) hP rfl hW)
    · intro D vs u hI hD
      obtain ⟨σ, hP, hW⟩ := hI
      have e0 : vs 0 = .bool true := hP 0 (hD 0 (by decide))
      have e1 : vs 1 = .bool false := hP 1 (hD 1 (by decide))
      have e2 : vs 2 = .bool false := hP 2 (hD 2 (by decide))
      have e3 : vs 3 = .pointer (some ⟨b14, 0, none⟩) := hP 3 (hD 3 (by decide))
      have e4 : vs 4 = .int .i64 2 := hP 4 (hD 4 (by decide))
      have e5 : vs 5 = .bool false := hP 5 (hD 5 (by decide))
      have e6 : vs 6 = .bool false := hP 6 (hD 6 (by decide))
      have e7 : vs 7 = .bool false := hP 7 (hD 7 (by decide))
      have e8 : vs 8 = .pointer (some ⟨b14, 34, none⟩) := hP 8 (hD 8 (by decide))
      have e9 : vs 9 = .int .i64 (n : Int) := hP 9 (hD 9 (by decide))
      have e10 : vs 10 = .string tt := hP 10 (hD 10 (by decide))
      have e11 : vs 11 = .int .i64 (n : Int) := hP 11 (hD 11 (by decide))
      have e12 : vs 12 = .bool false := hP 12 (hD 12 (by decide))
      have e13 : vs 13 = .bool false := hP 13 (hD 13 (by decide))
      have e14 : vs 14 = .bool false := hP 14 (hD 14 (by decide))
      have e15 : vs 15 = .pointer (some ⟨b, 0, none⟩) := hP 15 (hD 15 (by decide))
      have e16 : vs 16 = vI i7 := hP 16 (hD 16 (by decide))
      have e17 : vs 17 = .pointer (some ⟨g, 0, none⟩) := hP 17 (hD 17 (by decide))
      have e18 : vs 18 = .int .i64 (p : Int) := hP 18 (hD 18 (by decide))
      have e19 : vs 19 = vC (wantC p) := hP 19 (hD 19 (by decide))
      have e20 : vs 20 = .int .i64 0 := hP 20 (hD 20 (by decide))
      have e21 : vs 21 = .bool false := hP 21 (hD 21 (by decide))
      have e22 : vs 22 = .bool false := hP 22 (hD 22 (by decide))
      have hz := hW.2 (hD 20 (by decide))
      replace hW := hz
      have HW := Lib.hid hW
      clear hW hP hD
      rw [puts_range [some 69, some 70, some 71, some 72, some 73, some 74, some 75, some 76, some 77, some 78, some 79, some 80, some 81, some 82, some 83, some 84, some 85, some 86, some 87, some 88, some 89, some 90, some 91] (by kernel_rfl)]
      simp only [putL, Nat.reduceAdd, e0, e1, e2, e3, e4, e5, e6, e7, e8, e9, e10, e11, e12, e13, e14, e15, e16, e17, e18, e19, e20, e21, e22]
      clear e0 e1 e2 e3 e4 e5 e6 e7 e8 e9 e10 e11 e12 e13 e14 e15 e16 e17 e18 e19 e20 e21 e22
      go_simp
      by_cases hA : k < nd ∧ k < 20
      case pos =>
        have hlx : k < ds.length := by rw [HDS.out.1]; exact hA.1
        obtain ⟨ad, rfl, rr⟩ := cB1_at (HDS.out.2.keep HW.out.base.bel) hlx
        have hlk : (k : Int) < (nd : Int) := by omega
        have h20 : (k : Int) < 20 := by omega
        generalize (ds[k]'hlx) = dd at rr
        have e8 := u8_tmod8 dd
        obtain ⟨s8, hs8⟩ : ∃ s8, dd.toNat % 8 = s8 := ⟨_, rfl⟩
        rw [hs8] at e8
        have e8' : (dd.toNat : Int) % 8 = (s8 : Int) := by omega
        have hs7 : s8 ≤ 7 := by omega
        have e9 : IntKind.i64.wrap (dd.toNat : Int) = (dd.toNat : Int) := IntWalk.i64_in _ (by have := UInt8.toNat_lt dd; omega)
        have HK20 := Lib.hid hA.2
        clear hs8 hA
        go_wp2
        go_loopw [17] (fun i wl => ∃ (j p2 : Nat) (q2 : Option Addr) (v2 : Value) (c2 : Bool), i = .int .i64 (j : Int) ∧ j ≤ s8 ∧ p2 ≤ n ∧ ((c2 = false ∧ p + j ≤ p2 ∧ InvV w b ch (tSend tt p2) [(g7, cI i7, 40)] g i7 (n : Int) (tk tt p2) false q2 v2 wl) ∨ (c2 = true ∧ InvV w b ch (tSent tt) [(g7, cI i7, 40)] g i7 (n : Int) (tk tt n) true q2 v2 wl))) (fun i _ => s8 - (intOf i).toNat)
        case atStart => exact ⟨0, p, q, v, false, rfl, Nat.zero_le _, HKP.out.2, Or.inl ⟨rfl, Nat.le_refl _, HW.out⟩⟩
        case round =>
          obtain ⟨j, p2, q2, v2, c2, rfl, hj, hp2, hcase⟩ := hrel
          rcases hcase with ⟨rfl, hpj, hI⟩ | ⟨rfl, hI⟩
          · by_cases hlt : j < s8
            · have hlj : (j : Int) < (s8 : Int) := by omega
              have hj400 : (j : Int) ≤ 400 := by omega
              have HI := Lib.hid hI
              have HPJ := Lib.hid (And.intro hpj hp2)
              clear hI hpj hp2
              have T6 : True := trivial
              by_cases hend : p2 = n
              · go_wp2_with (first
                  | (have hh := T6; clear hh T6; go_at_call 34; refine (comp34 g i7 (n : Int) (tk tt p2) false q2 v2 _ HI.out.rec_).mono ?_; rintro e w6 ⟨rfl, rfl⟩; have T7 : True := trivial)
                  | (have hh := T7; clear hh T7; go_at_call 18; refine (HI.out.say (HGS.out p2 (by rw [HNN.out]; exact HPJ.out.2)) (show sayS ch (tSend tt p2) = (tSent tt, doneC i7, true) by rw [hend, ← HNN.out]; exact say_done ch tt)).mono ?_; rintro e w7 ⟨rfl, hI7⟩; have H7 := Lib.hid (hI7.below (below_alloc w7 (.cells (aC (doneC i7)) 45))); clear hI7; have T8 : True := trivial)
                  | (have hh := T8; clear hh T8; go_at_call 35; refine (hear35_done g i7 (n : Int) (tk tt p2) q2 v2 (doneC i7) _ H7.out.rec_ rfl rfl (by rw [tk_length tt p2 (by rw [HNN.out]; exact HPJ.out.2), hend])).mono ?_; rintro e w8 ⟨rfl, hr8, ht8⟩; have H8 := Lib.hid (H7.out.turn hr8 ht8); clear hr8 ht8))
                go_roundw
                case rel => exact ⟨j + 1, n, q2, v2, true, by go_num, hlt, Nat.le_refl _, Or.inr ⟨rfl, by have := H8.out; rw [hend] at this; exact this⟩⟩
                case measure => simp [intOf] <;> omega
              · obtain ⟨nx, hnx⟩ : ∃ nx : Nat, min ((p2 : Int) + ch) (tt.size : Int) = (nx : Int) := ⟨(min ((p2 : Int) + ch) (tt.size : Int)).toNat, by have := H64.out; omega⟩
                have hq2 : p2 < tt.size := by rw [HNN.out]; have := HPJ.out.2; omega
                have hnq : p2 < nx ∧ nx ≤ n := by have := H64.out; have := HNN.out; omega
                have HQX := Lib.hid (And.intro hq2 (And.intro hnx hnq))
                clear hq2 hnx hnq
                go_wp2_with (first
                  | (have hh := T6; clear hh T6; go_at_call 34; refine (comp34 g i7 (n : Int) (tk tt p2) false q2 v2 _ HI.out.rec_).mono ?_; rintro e w6 ⟨rfl, rfl⟩; have T7 : True := trivial)
                  | (have hh := T7; clear hh T7; go_at_call 18; refine (HI.out.say (HGS.out p2 (by rw [HNN.out]; exact HPJ.out.2)) (say_data ch tt p2 nx HQX.out.1 HQX.out.2.1)).mono ?_; rintro e w7 ⟨rfl, hI7⟩; have H7 := Lib.hid (hI7.below (below_alloc w7 (.cells (aC (⟨7, ⟨#[]⟩, i7, 0, (p2 : Int), 0, 0, tt.extract p2 nx⟩)) 45))); clear hI7; have T8 : True := trivial)
                  | (have hh := T8; clear hh T8; go_at_call 35; refine (hear35_data g i7 (n : Int) (tk tt p2) q2 v2 ⟨7, ⟨#[]⟩, i7, 0, (p2 : Int), 0, 0, tt.extract p2 nx⟩ _ H7.out.rec_ rfl rfl (by rw [tk_length tt p2 (by rw [HNN.out]; exact HPJ.out.2)]) (by rw [tk_length tt p2 (by rw [HNN.out]; exact HPJ.out.2)]; show (p2 : Int) + ((tt.extract p2 nx).size : Int) ≤ (n : Int); rw [ByteArray.size_extract]; have := HQX.out; have := HNN.out; omega) (by have := HSZ.out; omega)).mono ?_; rintro e w8 ⟨rfl, v8, hr8, ht8⟩; have hj8 := H7.out.turn hr8 ht8; rw [tk_join tt p2 nx (by have := HQX.out; omega)] at hj8; have H8 := Lib.hid hj8; clear hr8 ht8 hj8))
                go_roundw
                case rel => exact ⟨j + 1, nx, some ⟨g, 33, none⟩, v8, false, by go_num, hlt, HQX.out.2.2.2, Or.inl ⟨rfl, by have := HPJ.out; have := HQX.out; omega, H8.out⟩⟩
                case measure => simp [intOf] <;> omega
            · have hlj : ¬ (j : Int) < (s8 : Int) := by omega
              have hjs : j = s8 := by omega
              subst hjs
              have HI := Lib.hid hI
              have HPJ := Lib.hid (And.intro hpj hp2)
              clear hI hpj hp2 hlt hj
              have T6 : True := trivial
              go_wp2_with (first
                | (have hh := T6; clear hh T6; go_at_call 34; refine (comp34 g i7 (n : Int) (tk tt p2) false q2 v2 _ HI.out.rec_).mono ?_; rintro e w6 ⟨rfl, rfl⟩; have T7 : True := trivial)
                | (have hh := T7; clear hh T7; go_at_call 31; refine (HI.out.drop (HGS.out p2 (by rw [HNN.out]; exact HPJ.out.2))).mono ?_; rintro e w7 ⟨rfl, hI7⟩; rw [drop_send] at hI7; have H7 := Lib.hid hI7; clear hI7))
              go_roundw
              case rel => exact ⟨k + 1, p2, q2, v2, by have := HK20.out; omega, by go_num, HPJ.out.2, H7.out⟩
              case measure => simp [intOf] <;> omega
          · have HI := Lib.hid hI
            clear hI
            by_cases hlt : j < s8
            case' pos =>
              have hlj : (j : Int) < (s8 : Int) := by omega
            case' neg =>
              have hlj : ¬ (j : Int) < (s8 : Int) := by omega
            all_goals
              have T6 : True := trivial
              have hnl : tk tt n ≠ [] := fun e => by
                have h1 := tk_length tt n (by rw [HNN.out]; exact Nat.le_refl _)
                rw [e] at h1
                have := HPOS.out
                simp at h1
                omega
              have HNL := Lib.hid hnl
              have hta : (⟨(tk tt n).toArray⟩ : ByteArray) = tt := by rw [← HNN.out]; exact tk_all tt
              have HTA := Lib.hid hta
              clear hnl hta
              go_wp2_with (first
                | (go_at_call 34; refine (comp34 g i7 (n : Int) (tk tt n) true q2 v2 _ HI.out.rec_).mono ?_; rintro e w6 ⟨rfl, rfl⟩)
                | (have hh := T6; clear hh T6; go_at_call 36; refine (text36 g i7 (n : Int) (tk tt n) q2 v2 _ HI.out.rec_ HNL.out).mono ?_; rintro e w9 ⟨rfl, ht⟩; rw [HTA.out]; have hB := HI.out.turnB ht; obtain ⟨x1, x2⟩ := (hB.row (g := g7) (cs := cI i7) (ty := 40) List.mem_cons_self).idI; have H9 := Lib.hid hB; clear ht hB; have T7 : True := trivial)
                | (have hh := T7; clear hh T7; go_at_call 20; refine (k_st (s := tSent tt) 3 rfl H9.out).mono ?_; rintro e w10 ⟨rfl, rfl⟩; have T8 : True := trivial)
                | (have hh := T8; clear hh T8; go_at_call 19; have hc := H9.out.hear HGT.out HX.out gotC rfl (by simp [tSent]); rw [hear_got] at hc; refine hc.mono ?_; rintro e w11 ⟨rfl, hI11⟩; have H11 := Lib.hid hI11; clear hI11; have T9 : True := trivial)
                | (have hh := T9; clear hh T9; go_at_call 25; refine H11.out.outsE.mono ?_; rintro e U3 ⟨A3, n3, c3, rfl, hn3, hs3, hI12⟩; obtain rfl : n3 = 1 := hn3.symm; have H12 := Lib.hid hI12; have HS3 := Lib.hid hs3; clear hn3 hs3 hI12))
              obtain ⟨ad3, rfl, _, _, _, o6, o6'⟩ := outAt HS3.out (k := 0) (by decide)
              rw [Nat.zero_mul, Addr.add_zero'] at o6 o6'
              change rdA _ _ _ = vO (i7, 0, 0) at o6'
              have hlt3 : ad3.block < U3.heap.size := by
                obtain ⟨ad4, e4, hat⟩ := HS3.out (by decide)
                cases e4
                exact hat.1
              have O6 := Lib.hid (And.intro o6 (And.intro o6' hlt3))
              clear o6 o6' hlt3
              refine AnyO.wp_anyI (by kernel_rfl) (by kernel_rfl) (AnyO.InvG (σ := Unit) (fun σ => AnyO.pvL [some (.slice (some ad3) 1 c3), some (.int .i64 1), some (.bool true), some (.bool true), some (.slice (some ad3) 1 c3), some (.pointer (some ad3)), some (vO (i7, 0, 0)), some (vI i7), some (vO (i7, 0, 0)), some (.bool true), some (.bool true), some (.bool true), some (.pointer (some ⟨b, 0, none⟩)), some (.int .i64 0), some (.bool true), some (.bool true), some (.bool true)]) (fun _ _ u => Below U3.heap.size U3 u)) (AnyO.InvG.start (g := ()) ((Below.refl _ _).drew)) ?_ ?_
              · intro i hi
                have hi2 : i = 0 ∨ i = 1 ∨ i = 2 ∨ i = 3 ∨ i = 4 ∨ i = 5 ∨ i = 6 ∨ i = 7 ∨ i = 8 ∨ i = 9 ∨ i = 10 ∨ i = 11 ∨ i = 12 ∨ i = 13 ∨ i = 14 ∨ i = 15 ∨ i = 16 := by simp only [List.size_toArray, List.length_cons, List.length_nil] at hi; omega
                clear hi
                rcases hi2 with rfl | rfl | rfl | rfl | rfl | rfl | rfl | rfl | rfl | rfl | rfl | rfl | rfl | rfl | rfl | rfl | rfl
                · -- 0: Op.move (Operand.tmp 22)
                  refine AnyO.StepI.mk rfl [] (by kernel_rfl) ?_
                  intro D vs u hI h0 hC hp ac hb K hK
                  obtain ⟨σ, hP, hW⟩ := hI
                  have s22 : ac.tmps[22]?.getD undef = .slice (some ad3) 1 c3 := by rw [hb]; kernel_rfl
                  rw [if_pos (AnyO.wanted_none rfl)]
                  clear hb hp
                  clear hC
                  clear h0
                  have HP := Lib.hid hP
                  have HWq := Lib.hid hW
                  clear hP hW
                  go_simp
                  have hP := HP.out
                  have hW := HWq.out
                  clear HP HWq
                  exact hK _ _ (AnyO.InvG.step (g := σ) hP rfl hW)
                · -- 1: Op.call { callee := Callee.builtin Builtin.len, args := #[Op
                  refine AnyO.StepI.mk rfl [0] (by kernel_rfl) ?_
                  intro D vs u hI h0 hC hp ac hb K hK
                  obtain ⟨σ, hP, hW⟩ := hI
                  have s161 : ac.tmps[161]?.getD undef = .slice (some ad3) 1 c3 := by rw [hb]; exact (show _ = vs 0 by kernel_rfl).trans (show vs 0 = .slice (some ad3) 1 c3 from hP 0 (hp 0 (by decide)))
                  rw [if_pos (AnyO.wanted_none rfl)]
                  clear hb hp
                  clear hC
                  clear h0
                  have HP := Lib.hid hP
                  have HWq := Lib.hid hW
                  clear hP hW
                  go_simp
                  have hP := HP.out
                  have hW := HWq.out
                  clear HP HWq
                  exact hK _ _ (AnyO.InvG.step (g := σ) hP rfl hW)
                · -- 2: Op.binOp BinOp.eql 3 (Operand.tmp 162) (Operand.const (Value
                  refine AnyO.StepI.mk rfl [1] (by kernel_rfl) ?_
                  intro D vs u hI h0 hC hp ac hb K hK
                  obtain ⟨σ, hP, hW⟩ := hI
                  have s162 : ac.tmps[162]?.getD undef = .int .i64 1 := by rw [hb]; exact (show _ = vs 1 by kernel_rfl).trans (show vs 1 = .int .i64 1 from hP 1 (hp 1 (by decide)))
                  rw [if_pos (AnyO.wanted_none rfl)]
                  clear hb hp
                  clear hC
                  clear h0
                  have HP := Lib.hid hP
                  have HWq := Lib.hid hW
                  clear hP hW
                  go_simp
                  have hP := HP.out
                  have hW := HWq.out
                  clear HP HWq
                  exact hK _ _ (AnyO.InvG.step (g := σ) hP rfl hW)
                · -- 3: Op.move (Operand.tmp 163)
                  refine AnyO.StepI.mk rfl [2] (by kernel_rfl) ?_
                  intro D vs u hI h0 hC hp ac hb K hK
                  obtain ⟨σ, hP, hW⟩ := hI
                  have s163 : ac.tmps[163]?.getD undef = .bool true := by rw [hb]; exact (show _ = vs 2 by kernel_rfl).trans (show vs 2 = .bool true from hP 2 (hp 2 (by decide)))
                  rw [if_pos (AnyO.wanted_none rfl)]
                  clear hb hp
                  clear hC
                  clear h0
                  have HP := Lib.hid hP
                  have HWq := Lib.hid hW
                  clear hP hW
                  go_simp
                  have hP := HP.out
                  have hW := HWq.out
                  clear HP HWq
                  exact hK _ _ (AnyO.InvG.step (g := σ) hP rfl hW)
                · -- 4: Op.move (Operand.tmp 22)
                  refine AnyO.StepI.mk rfl [3] (by kernel_rfl) ?_
                  intro D vs u hI h0 hC hp ac hb K hK
                  obtain ⟨σ, hP, hW⟩ := hI
                  have s22 : ac.tmps[22]?.getD undef = .slice (some ad3) 1 c3 := by rw [hb]; kernel_rfl
                  have s164 : ac.tmps[164]?.getD undef = .bool true := by rw [hb]; exact (show _ = vs 3 by kernel_rfl).trans (show vs 3 = .bool true from hP 3 (hp 3 (by decide)))
                  rw [if_pos (AnyO.wanted_some (g := 3) (t := 164) (want := true) rfl rfl s164)]
                  clear hb hp
                  clear hC
                  clear h0
                  have HP := Lib.hid hP
                  have HWq := Lib.hid hW
                  clear hP hW
                  go_simp
                  have hP := HP.out
                  have hW := HWq.out
                  clear HP HWq
                  exact hK _ _ (AnyO.InvG.step (g := σ) hP rfl hW)
                · -- 5: Op.indexAddr 65 (Operand.tmp 165) (Operand.const (Value.int 
                  refine AnyO.StepI.mk rfl [4, 3] (by kernel_rfl) ?_
                  intro D vs u hI h0 hC hp ac hb K hK
                  obtain ⟨σ, hP, hW⟩ := hI
                  have s165 : ac.tmps[165]?.getD undef = .slice (some ad3) 1 c3 := by rw [hb]; exact (show _ = vs 4 by kernel_rfl).trans (show vs 4 = .slice (some ad3) 1 c3 from hP 4 (hp 4 (by decide)))
                  have s164 : ac.tmps[164]?.getD undef = .bool true := by rw [hb]; exact (show _ = vs 3 by kernel_rfl).trans (show vs 3 = .bool true from hP 3 (hp 3 (by decide)))
                  rw [if_pos (AnyO.wanted_some (g := 3) (t := 164) (want := true) rfl rfl s164)]
                  clear hb hp
                  clear hC
                  clear h0
                  have HP := Lib.hid hP
                  have HWq := Lib.hid hW
                  clear hP hW
                  go_simp
                  have hP := HP.out
                  have hW := HWq.out
                  clear HP HWq
                  exact hK _ _ (AnyO.InvG.step (g := σ) hP rfl hW)
                · -- 6: Op.load 68 (Operand.tmp 166)
                  refine AnyO.StepI.mk rfl [5, 3] (by kernel_rfl) ?_
                  intro D vs u hI h0 hC hp ac hb K hK
                  obtain ⟨σ, hP, hW⟩ := hI
                  have s166 : ac.tmps[166]?.getD undef = .pointer (some ad3) := by rw [hb]; exact (show _ = vs 5 by kernel_rfl).trans (show vs 5 = .pointer (some ad3) from hP 5 (hp 5 (by decide)))
                  have s164 : ac.tmps[164]?.getD undef = .bool true := by rw [hb]; exact (show _ = vs 3 by kernel_rfl).trans (show vs 3 = .bool true from hP 3 (hp 3 (by decide)))
                  rw [if_pos (AnyO.wanted_some (g := 3) (t := 164) (want := true) rfl rfl s164)]
                  clear hb hp
                  have rr1 := okA_below O6.out.1 O6.out.2.2 hW
                  rw [O6.out.2.1] at rr1
                  obtain ⟨rr1, rr2⟩ := rr1
                  clear hC
                  clear h0
                  have HP := Lib.hid hP
                  have HWq := Lib.hid hW
                  clear hP hW
                  go_simp
                  have hP := HP.out
                  have hW := HWq.out
                  clear HP HWq
                  exact hK _ _ (AnyO.InvG.step (g := σ) hP rfl hW)
                · -- 7: Op.load 40 (Operand.tmp 7)
                  refine AnyO.StepI.mk rfl [3] (by kernel_rfl) ?_
                  intro D vs u hI h0 hC hp ac hb K hK
                  obtain ⟨σ, hP, hW⟩ := hI
                  have s7 : ac.tmps[7]?.getD undef = .pointer (some ⟨g7, 0, none⟩) := by rw [hb]; kernel_rfl
                  have s164 : ac.tmps[164]?.getD undef = .bool true := by rw [hb]; exact (show _ = vs 3 by kernel_rfl).trans (show vs 3 = .bool true from hP 3 (hp 3 (by decide)))
                  rw [if_pos (AnyO.wanted_some (g := 3) (t := 164) (want := true) rfl rfl s164)]
                  clear hb hp
                  obtain ⟨rr1, rr2⟩ := ((H12.out.below hW).row (g := g7) (cs := cI i7) (ty := 40) List.mem_cons_self).idI
                  clear hC
                  clear h0
                  have HP := Lib.hid hP
                  have HWq := Lib.hid hW
                  clear hP hW
                  go_simp
                  have hP := HP.out
                  have hW := HWq.out
                  clear HP HWq
                  exact hK _ _ (AnyO.InvG.step (g := σ) hP rfl hW)
                · -- 8: Op.build 68 #[(0, Operand.tmp 168), (1, Operand.const (Value
                  refine AnyO.StepI.mk rfl [7, 3] (by kernel_rfl) ?_
                  intro D vs u hI h0 hC hp ac hb K hK
                  obtain ⟨σ, hP, hW⟩ := hI
                  have s168 : ac.tmps[168]?.getD undef = vI i7 := by rw [hb]; exact (show _ = vs 7 by kernel_rfl).trans (show vs 7 = vI i7 from hP 7 (hp 7 (by decide)))
                  have s164 : ac.tmps[164]?.getD undef = .bool true := by rw [hb]; exact (show _ = vs 3 by kernel_rfl).trans (show vs 3 = .bool true from hP 3 (hp 3 (by decide)))
                  rw [if_pos (AnyO.wanted_some (g := 3) (t := 164) (want := true) rfl rfl s164)]
                  clear hb hp
                  clear hC
                  clear h0
                  have HP := Lib.hid hP
                  have HWq := Lib.hid hW
                  clear hP hW
                  go_simp
                  have hP := HP.out
                  have hW := HWq.out
                  clear HP HWq
                  exact hK _ _ (AnyO.InvG.step (g := σ) hP rfl hW)
                · -- 9: Op.binOp BinOp.eql 68 (Operand.tmp 167) (Operand.tmp 169) 68
                  refine AnyO.StepI.mk rfl [6, 8, 3] (by kernel_rfl) ?_
                  intro D vs u hI h0 hC hp ac hb K hK
                  obtain ⟨σ, hP, hW⟩ := hI
                  have s167 : ac.tmps[167]?.getD undef = vO (i7, 0, 0) := by rw [hb]; exact (show _ = vs 6 by kernel_rfl).trans (show vs 6 = vO (i7, 0, 0) from hP 6 (hp 6 (by decide)))
                  have s169 : ac.tmps[169]?.getD undef = vO (i7, 0, 0) := by rw [hb]; exact (show _ = vs 8 by kernel_rfl).trans (show vs 8 = vO (i7, 0, 0) from hP 8 (hp 8 (by decide)))
                  have s164 : ac.tmps[164]?.getD undef = .bool true := by rw [hb]; exact (show _ = vs 3 by kernel_rfl).trans (show vs 3 = .bool true from hP 3 (hp 3 (by decide)))
                  rw [if_pos (AnyO.wanted_some (g := 3) (t := 164) (want := true) rfl rfl s164)]
                  clear hb hp
                  clear hC
                  clear h0
                  have HP := Lib.hid hP
                  have HWq := Lib.hid hW
                  clear hP hW
                  go_simp
                  have hP := HP.out
                  have hW := HWq.out
                  clear HP HWq
                  exact hK _ _ (AnyO.InvG.step (g := σ) hP rfl hW)
                · -- 10: Op.pick (Operand.tmp 164) (Operand.tmp 170) (Operand.const (
                  refine AnyO.StepI.mk rfl [3, 9] (by kernel_rfl) ?_
                  intro D vs u hI h0 hC hp ac hb K hK
                  obtain ⟨σ, hP, hW⟩ := hI
                  have s164 : ac.tmps[164]?.getD undef = .bool true := by rw [hb]; exact (show _ = vs 3 by kernel_rfl).trans (show vs 3 = .bool true from hP 3 (hp 3 (by decide)))
                  have s170 : ac.tmps[170]?.getD undef = .bool true := by rw [hb]; exact (show _ = vs 9 by kernel_rfl).trans (show vs 9 = .bool true from hP 9 (hp 9 (by decide)))
                  rw [if_pos (AnyO.wanted_none rfl)]
                  clear hb hp
                  clear hC
                  clear h0
                  have HP := Lib.hid hP
                  have HWq := Lib.hid hW
                  clear hP hW
                  go_simp
                  have hP := HP.out
                  have hW := HWq.out
                  clear HP HWq
                  exact hK _ _ (AnyO.InvG.step (g := σ) hP rfl hW)
                · -- 11: Op.move (Operand.tmp 171)
                  refine AnyO.StepI.mk rfl [10, 3] (by kernel_rfl) ?_
                  intro D vs u hI h0 hC hp ac hb K hK
                  obtain ⟨σ, hP, hW⟩ := hI
                  have s171 : ac.tmps[171]?.getD undef = .bool true := by rw [hb]; exact (show _ = vs 10 by kernel_rfl).trans (show vs 10 = .bool true from hP 10 (hp 10 (by decide)))
                  rw [if_pos (AnyO.wanted_none rfl)]
                  clear hb hp
                  clear hC
                  clear h0
                  have HP := Lib.hid hP
                  have HWq := Lib.hid hW
                  clear hP hW
                  go_simp
                  have hP := HP.out
                  have hW := HWq.out
                  clear HP HWq
                  exact hK _ _ (AnyO.InvG.step (g := σ) hP rfl hW)
                · -- 12: Op.move (Operand.tmp 8)
                  refine AnyO.StepI.mk rfl [11] (by kernel_rfl) ?_
                  intro D vs u hI h0 hC hp ac hb K hK
                  obtain ⟨σ, hP, hW⟩ := hI
                  have s8 : ac.tmps[8]?.getD undef = .pointer (some ⟨b, 0, none⟩) := by rw [hb]; kernel_rfl
                  have s172 : ac.tmps[172]?.getD undef = .bool true := by rw [hb]; exact (show _ = vs 11 by kernel_rfl).trans (show vs 11 = .bool true from hP 11 (hp 11 (by decide)))
                  rw [if_pos (AnyO.wanted_some (g := 11) (t := 172) (want := true) rfl rfl s172)]
                  clear hb hp
                  clear hC
                  clear h0
                  have HP := Lib.hid hP
                  have HWq := Lib.hid hW
                  clear hP hW
                  go_simp
                  have hP := HP.out
                  have hW := HWq.out
                  clear HP HWq
                  exact hK _ _ (AnyO.InvG.step (g := σ) hP rfl hW)
                · -- 13: Op.call { callee := Callee.value (Operand.func 20), args := 
                  refine AnyO.StepI.mk rfl [12, 11, 11] (by kernel_rfl) ?_
                  intro D vs u hI h0 hC hp ac hb K hK
                  obtain ⟨σ, hP, hW⟩ := hI
                  have s173 : ac.tmps[173]?.getD undef = .pointer (some ⟨b, 0, none⟩) := by rw [hb]; exact (show _ = vs 12 by kernel_rfl).trans (show vs 12 = .pointer (some ⟨b, 0, none⟩) from hP 12 (hp 12 (by decide)))
                  have s172 : ac.tmps[172]?.getD undef = .bool true := by rw [hb]; exact (show _ = vs 11 by kernel_rfl).trans (show vs 11 = .bool true from hP 11 (hp 11 (by decide)))
                  rw [if_pos (AnyO.wanted_some (g := 11) (t := 172) (want := true) rfl rfl s172)]
                  clear hb hp
                  clear hC
                  clear h0
                  have HP := Lib.hid hP
                  have HWq := Lib.hid hW
                  clear hP hW
                  go_simp
                  have hP := HP.out
                  have hW := HWq.out
                  clear HP HWq
                  go_at_call 20
                  refine (k_st (s := { tEnd with outs := [] }) 0 rfl (H12.out.below hW)).mono ?_
                  rintro e w2 ⟨rfl, rfl⟩
                  exact hK _ _ (AnyO.InvG.step (g := σ) hP rfl hW)
                · -- 14: Op.binOp BinOp.eql 3 (Operand.tmp 174) (Operand.const (Value
                  refine AnyO.StepI.mk rfl [13, 11] (by kernel_rfl) ?_
                  intro D vs u hI h0 hC hp ac hb K hK
                  obtain ⟨σ, hP, hW⟩ := hI
                  have s174 : ac.tmps[174]?.getD undef = .int .i64 0 := by rw [hb]; exact (show _ = vs 13 by kernel_rfl).trans (show vs 13 = .int .i64 0 from hP 13 (hp 13 (by decide)))
                  have s172 : ac.tmps[172]?.getD undef = .bool true := by rw [hb]; exact (show _ = vs 11 by kernel_rfl).trans (show vs 11 = .bool true from hP 11 (hp 11 (by decide)))
                  rw [if_pos (AnyO.wanted_some (g := 11) (t := 172) (want := true) rfl rfl s172)]
                  clear hb hp
                  clear hC
                  clear h0
                  have HP := Lib.hid hP
                  have HWq := Lib.hid hW
                  clear hP hW
                  go_simp
                  have hP := HP.out
                  have hW := HWq.out
                  clear HP HWq
                  exact hK _ _ (AnyO.InvG.step (g := σ) hP rfl hW)
                · -- 15: Op.pick (Operand.tmp 172) (Operand.tmp 175) (Operand.const (
                  refine AnyO.StepI.mk rfl [11, 14] (by kernel_rfl) ?_
                  intro D vs u hI h0 hC hp ac hb K hK
                  obtain ⟨σ, hP, hW⟩ := hI
                  have s172 : ac.tmps[172]?.getD undef = .bool true := by rw [hb]; exact (show _ = vs 11 by kernel_rfl).trans (show vs 11 = .bool true from hP 11 (hp 11 (by decide)))
                  have s175 : ac.tmps[175]?.getD undef = .bool true := by rw [hb]; exact (show _ = vs 14 by kernel_rfl).trans (show vs 14 = .bool true from hP 14 (hp 14 (by decide)))
                  rw [if_pos (AnyO.wanted_none rfl)]
                  clear hb hp
                  clear hC
                  clear h0
                  have HP := Lib.hid hP
                  have HWq := Lib.hid hW
                  clear hP hW
                  go_simp
                  have hP := HP.out
                  have hW := HWq.out
                  clear HP HWq
                  exact hK _ _ (AnyO.InvG.step (g := σ) hP rfl hW)
                · -- 16: Op.assign (Operand.tmp 176)
                  refine AnyO.StepI.mk rfl [15, 13, 0, 1, 2, 3, 4, 5, 6, 7, 8, 9, 10, 11, 12, 13, 14, 15] (by kernel_rfl) ?_
                  intro D vs u hI h0 hC hp ac hb K hK
                  obtain ⟨σ, hP, hW⟩ := hI
                  have s176 : ac.tmps[176]?.getD undef = .bool true := by rw [hb]; exact (show _ = vs 15 by kernel_rfl).trans (show vs 15 = .bool true from hP 15 (hp 15 (by decide)))
                  rw [if_pos (AnyO.wanted_none rfl)]
                  clear hb hp
                  clear hC
                  clear h0
                  have HP := Lib.hid hP
                  have HWq := Lib.hid hW
                  clear hP hW
                  go_simp
                  have hP := HP.out
                  have hW := HWq.out
                  clear HP HWq
                  exact hK _ _ (AnyO.InvG.step (g := σ) hP rfl hW)
              · intro D vs u hI hD
                obtain ⟨σ, hP, hW⟩ := hI
                have e0 : vs 0 = .slice (some ad3) 1 c3 := hP 0 (hD 0 (by decide))
                have e1 : vs 1 = .int .i64 1 := hP 1 (hD 1 (by decide))
                have e2 : vs 2 = .bool true := hP 2 (hD 2 (by decide))
                have e3 : vs 3 = .bool true := hP 3 (hD 3 (by decide))
                have e4 : vs 4 = .slice (some ad3) 1 c3 := hP 4 (hD 4 (by decide))
                have e5 : vs 5 = .pointer (some ad3) := hP 5 (hD 5 (by decide))
                have e6 : vs 6 = vO (i7, 0, 0) := hP 6 (hD 6 (by decide))
                have e7 : vs 7 = vI i7 := hP 7 (hD 7 (by decide))
                have e8 : vs 8 = vO (i7, 0, 0) := hP 8 (hD 8 (by decide))
                have e9 : vs 9 = .bool true := hP 9 (hD 9 (by decide))
                have e10 : vs 10 = .bool true := hP 10 (hD 10 (by decide))
                have e11 : vs 11 = .bool true := hP 11 (hD 11 (by decide))
                have e12 : vs 12 = .pointer (some ⟨b, 0, none⟩) := hP 12 (hD 12 (by decide))
                have e13 : vs 13 = .int .i64 0 := hP 13 (hD 13 (by decide))
                have e14 : vs 14 = .bool true := hP 14 (hD 14 (by decide))
                have e15 : vs 15 = .bool true := hP 15 (hD 15 (by decide))
                have e16 : vs 16 = .bool true := hP 16 (hD 16 (by decide))
                have HW := Lib.hid hW
                clear hW hP hD
                rw [puts_range [some 161, some 162, some 163, some 164, some 165, some 166, some 167, some 168, some 169, some 170, some 171, some 172, some 173, some 174, some 175, some 176, some 6] (by kernel_rfl)]
                simp only [putL, Nat.reduceAdd, e0, e1, e2, e3, e4, e5, e6, e7, e8, e9, e10, e11, e12, e13, e14, e15, e16]
                clear e0 e1 e2 e3 e4 e5 e6 e7 e8 e9 e10 e11 e12 e13 e14 e15 e16
                go_simp
                go_wp2
                go_ret
                exact ⟨rfl, Below.step H12.out.bel HW.out⟩
      case neg =>
        by_cases hB : k < nd
        case' pos =>
          have hlk : (k : Int) < (nd : Int) := by omega
          have h20 : ¬ (k : Int) < 20 := by omega
        case' neg =>
          have hlk : ¬ (k : Int) < (nd : Int) := by omega
        all_goals
          clear hA hB
          go_wp2
          go_loopw [17] (fun i wl => ∃ (j p2 : Nat) (q2 : Option Addr) (v2 : Value) (c2 : Bool), i = .int .i64 (j : Int) ∧ j ≤ 400 ∧ p2 ≤ n ∧ ((c2 = false ∧ p + j ≤ p2 ∧ InvV w b ch (tSend tt p2) [(g7, cI i7, 40)] g i7 (n : Int) (tk tt p2) false q2 v2 wl) ∨ (c2 = true ∧ InvV w b ch (tSent tt) [(g7, cI i7, 40)] g i7 (n : Int) (tk tt n) true q2 v2 wl))) (fun i _ => 400 - (intOf i).toNat)
          case atStart => exact ⟨0, p, q, v, false, rfl, Nat.zero_le _, HKP.out.2, Or.inl ⟨rfl, Nat.le_refl _, HW.out⟩⟩
          case round =>
            obtain ⟨j, p2, q2, v2, c2, rfl, hj, hp2, hcase⟩ := hrel
            rcases hcase with ⟨rfl, hpj, hI⟩ | ⟨rfl, hI⟩
            · by_cases hlt : j < 400
              · have hlj : (j : Int) < 400 := by omega
                have hj400 : (j : Int) ≤ 400 := by omega
                have HI := Lib.hid hI
                have HPJ := Lib.hid (And.intro hpj hp2)
                clear hI hpj hp2
                have T6 : True := trivial
                by_cases hend : p2 = n
                · go_wp2_with (first
                    | (have hh := T6; clear hh T6; go_at_call 34; refine (comp34 g i7 (n : Int) (tk tt p2) false q2 v2 _ HI.out.rec_).mono ?_; rintro e w6 ⟨rfl, rfl⟩; have T7 : True := trivial)
                    | (have hh := T7; clear hh T7; go_at_call 18; refine (HI.out.say (HGS.out p2 (by rw [HNN.out]; exact HPJ.out.2)) (show sayS ch (tSend tt p2) = (tSent tt, doneC i7, true) by rw [hend, ← HNN.out]; exact say_done ch tt)).mono ?_; rintro e w7 ⟨rfl, hI7⟩; have H7 := Lib.hid (hI7.below (below_alloc w7 (.cells (aC (doneC i7)) 45))); clear hI7; have T8 : True := trivial)
                    | (have hh := T8; clear hh T8; go_at_call 35; refine (hear35_done g i7 (n : Int) (tk tt p2) q2 v2 (doneC i7) _ H7.out.rec_ rfl rfl (by rw [tk_length tt p2 (by rw [HNN.out]; exact HPJ.out.2), hend])).mono ?_; rintro e w8 ⟨rfl, hr8, ht8⟩; have H8 := Lib.hid (H7.out.turn hr8 ht8); clear hr8 ht8))
                  go_roundw
                  case rel => exact ⟨j + 1, n, q2, v2, true, by go_num, hlt, Nat.le_refl _, Or.inr ⟨rfl, by have := H8.out; rw [hend] at this; exact this⟩⟩
                  case measure => simp [intOf] <;> omega
                · obtain ⟨nx, hnx⟩ : ∃ nx : Nat, min ((p2 : Int) + ch) (tt.size : Int) = (nx : Int) := ⟨(min ((p2 : Int) + ch) (tt.size : Int)).toNat, by have := H64.out; omega⟩
                  have hq2 : p2 < tt.size := by rw [HNN.out]; have := HPJ.out.2; omega
                  have hnq : p2 < nx ∧ nx ≤ n := by have := H64.out; have := HNN.out; omega
                  have HQX := Lib.hid (And.intro hq2 (And.intro hnx hnq))
                  clear hq2 hnx hnq
                  go_wp2_with (first
                    | (have hh := T6; clear hh T6; go_at_call 34; refine (comp34 g i7 (n : Int) (tk tt p2) false q2 v2 _ HI.out.rec_).mono ?_; rintro e w6 ⟨rfl, rfl⟩; have T7 : True := trivial)
                    | (have hh := T7; clear hh T7; go_at_call 18; refine (HI.out.say (HGS.out p2 (by rw [HNN.out]; exact HPJ.out.2)) (say_data ch tt p2 nx HQX.out.1 HQX.out.2.1)).mono ?_; rintro e w7 ⟨rfl, hI7⟩; have H7 := Lib.hid (hI7.below (below_alloc w7 (.cells (aC (⟨7, ⟨#[]⟩, i7, 0, (p2 : Int), 0, 0, tt.extract p2 nx⟩)) 45))); clear hI7; have T8 : True := trivial)
                    | (have hh := T8; clear hh T8; go_at_call 35; refine (hear35_data g i7 (n : Int) (tk tt p2) q2 v2 ⟨7, ⟨#[]⟩, i7, 0, (p2 : Int), 0, 0, tt.extract p2 nx⟩ _ H7.out.rec_ rfl rfl (by rw [tk_length tt p2 (by rw [HNN.out]; exact HPJ.out.2)]) (by rw [tk_length tt p2 (by rw [HNN.out]; exact HPJ.out.2)]; show (p2 : Int) + ((tt.extract p2 nx).size : Int) ≤ (n : Int); rw [ByteArray.size_extract]; have := HQX.out; have := HNN.out; omega) (by have := HSZ.out; omega)).mono ?_; rintro e w8 ⟨rfl, v8, hr8, ht8⟩; have hj8 := H7.out.turn hr8 ht8; rw [tk_join tt p2 nx (by have := HQX.out; omega)] at hj8; have H8 := Lib.hid hj8; clear hr8 ht8 hj8))
                  go_roundw
                  case rel => exact ⟨j + 1, nx, some ⟨g, 33, none⟩, v8, false, by go_num, hlt, HQX.out.2.2.2, Or.inl ⟨rfl, by have := HPJ.out; have := HQX.out; omega, H8.out⟩⟩
                  case measure => simp [intOf] <;> omega
              · have hlj : ¬ (j : Int) < 400 := by omega
                exfalso
                have := HSZ.out
                omega
            · have HI := Lib.hid hI
              clear hI
              by_cases hlt : j < 400
              case' pos =>
                have hlj : (j : Int) < 400 := by omega
              case' neg =>
                have hlj : ¬ (j : Int) < 400 := by omega
              all_goals
                have T6 : True := trivial
                have hnl : tk tt n ≠ [] := fun e => by
                  have h1 := tk_length tt n (by rw [HNN.out]; exact Nat.le_refl _)
                  rw [e] at h1
                  have := HPOS.out
                  simp at h1
                  omega
                have HNL := Lib.hid hnl
                have hta : (⟨(tk tt n).toArray⟩ : ByteArray) = tt := by rw [← HNN.out]; exact tk_all tt
                have HTA := Lib.hid hta
                clear hnl hta
                go_wp2_with (first
                  | (go_at_call 34; refine (comp34 g i7 (n : Int) (tk tt n) true q2 v2 _ HI.out.rec_).mono ?_; rintro e w6 ⟨rfl, rfl⟩)
                  | (have hh := T6; clear hh T6; go_at_call 36; refine (text36 g i7 (n : Int) (tk tt n) q2 v2 _ HI.out.rec_ HNL.out).mono ?_; rintro e w9 ⟨rfl, ht⟩; rw [HTA.out]; have hB := HI.out.turnB ht; obtain ⟨x1, x2⟩ := (hB.row (g := g7) (cs := cI i7) (ty := 40) List.mem_cons_self).idI; have H9 := Lib.hid hB; clear ht hB; have T7 : True := trivial)
                  | (have hh := T7; clear hh T7; go_at_call 20; refine (k_st (s := tSent tt) 3 rfl H9.out).mono ?_; rintro e w10 ⟨rfl, rfl⟩; have T8 : True := trivial)
                  | (have hh := T8; clear hh T8; go_at_call 19; have hc := H9.out.hear HGT.out HX.out gotC rfl (by simp [tSent]); rw [hear_got] at hc; refine hc.mono ?_; rintro e w11 ⟨rfl, hI11⟩; have H11 := Lib.hid hI11; clear hI11; have T9 : True := trivial)
                  | (have hh := T9; clear hh T9; go_at_call 25; refine H11.out.outsE.mono ?_; rintro e U3 ⟨A3, n3, c3, rfl, hn3, hs3, hI12⟩; obtain rfl : n3 = 1 := hn3.symm; have H12 := Lib.hid hI12; have HS3 := Lib.hid hs3; clear hn3 hs3 hI12))
                obtain ⟨ad3, rfl, _, _, _, o6, o6'⟩ := outAt HS3.out (k := 0) (by decide)
                rw [Nat.zero_mul, Addr.add_zero'] at o6 o6'
                change rdA _ _ _ = vO (i7, 0, 0) at o6'
                have hlt3 : ad3.block < U3.heap.size := by
                  obtain ⟨ad4, e4, hat⟩ := HS3.out (by decide)
                  cases e4
                  exact hat.1
                have O6 := Lib.hid (And.intro o6 (And.intro o6' hlt3))
                clear o6 o6' hlt3
                refine AnyO.wp_anyI (by kernel_rfl) (by kernel_rfl) (AnyO.InvG (σ := Unit) (fun σ => AnyO.pvL [some (.slice (some ad3) 1 c3), some (.int .i64 1), some (.bool true), some (.bool true), some (.slice (some ad3) 1 c3), some (.pointer (some ad3)), some (vO (i7, 0, 0)), some (vI i7), some (vO (i7, 0, 0)), some (.bool true), some (.bool true), some (.bool true), some (.pointer (some ⟨b, 0, none⟩)), some (.int .i64 0), some (.bool true), some (.bool true), some (.bool true)]) (fun _ _ u => Below U3.heap.size U3 u)) (AnyO.InvG.start (g := ()) ((Below.refl _ _).drew)) ?_ ?_
                · intro i hi
                  have hi2 : i = 0 ∨ i = 1 ∨ i = 2 ∨ i = 3 ∨ i = 4 ∨ i = 5 ∨ i = 6 ∨ i = 7 ∨ i = 8 ∨ i = 9 ∨ i = 10 ∨ i = 11 ∨ i = 12 ∨ i = 13 ∨ i = 14 ∨ i = 15 ∨ i = 16 := by simp only [List.size_toArray, List.length_cons, List.length_nil] at hi; omega
                  clear hi
                  rcases hi2 with rfl | rfl | rfl | rfl | rfl | rfl | rfl | rfl | rfl | rfl | rfl | rfl | rfl | rfl | rfl | rfl | rfl
                  · -- 0: Op.move (Operand.tmp 22)
                    refine AnyO.StepI.mk rfl [] (by kernel_rfl) ?_
                    intro D vs u hI h0 hC hp ac hb K hK
                    obtain ⟨σ, hP, hW⟩ := hI
                    have s22 : ac.tmps[22]?.getD undef = .slice (some ad3) 1 c3 := by rw [hb]; kernel_rfl
                    rw [if_pos (AnyO.wanted_none rfl)]
                    clear hb hp
                    clear hC
                    clear h0
                    have HP := Lib.hid hP
                    have HWq := Lib.hid hW
                    clear hP hW
                    go_simp
                    have hP := HP.out
                    have hW := HWq.out
                    clear HP HWq
                    exact hK _ _ (AnyO.InvG.step (g := σ) hP rfl hW)
                  · -- 1: Op.call { callee := Callee.builtin Builtin.len, args := #[Op
                    refine AnyO.StepI.mk rfl [0] (by kernel_rfl) ?_
                    intro D vs u hI h0 hC hp ac hb K hK
                    obtain ⟨σ, hP, hW⟩ := hI
                    have s161 : ac.tmps[161]?.getD undef = .slice (some ad3) 1 c3 := by rw [hb]; exact (show _ = vs 0 by kernel_rfl).trans (show vs 0 = .slice (some ad3) 1 c3 from hP 0 (hp 0 (by decide)))
                    rw [if_pos (AnyO.wanted_none rfl)]
                    clear hb hp
                    clear hC
                    clear h0
                    have HP := Lib.hid hP
                    have HWq := Lib.hid hW
                    clear hP hW
                    go_simp
                    have hP := HP.out
                    have hW := HWq.out
                    clear HP HWq
                    exact hK _ _ (AnyO.InvG.step (g := σ) hP rfl hW)
                  · -- 2: Op.binOp BinOp.eql 3 (Operand.tmp 162) (Operand.const (Value
                    refine AnyO.StepI.mk rfl [1] (by kernel_rfl) ?_
                    intro D vs u hI h0 hC hp ac hb K hK
                    obtain ⟨σ, hP, hW⟩ := hI
                    have s162 : ac.tmps[162]?.getD undef = .int .i64 1 := by rw [hb]; exact (show _ = vs 1 by kernel_rfl).trans (show vs 1 = .int .i64 1 from hP 1 (hp 1 (by decide)))
                    rw [if_pos (AnyO.wanted_none rfl)]
                    clear hb hp
                    clear hC
                    clear h0
                    have HP := Lib.hid hP
                    have HWq := Lib.hid hW
                    clear hP hW
                    go_simp
                    have hP := HP.out
                    have hW := HWq.out
                    clear HP HWq
                    exact hK _ _ (AnyO.InvG.step (g := σ) hP rfl hW)
                  · -- 3: Op.move (Operand.tmp 163)
                    refine AnyO.StepI.mk rfl [2] (by kernel_rfl) ?_
                    intro D vs u hI h0 hC hp ac hb K hK
                    obtain ⟨σ, hP, hW⟩ := hI
                    have s163 : ac.tmps[163]?.getD undef = .bool true := by rw [hb]; exact (show _ = vs 2 by kernel_rfl).trans (show vs 2 = .bool true from hP 2 (hp 2 (by decide)))
                    rw [if_pos (AnyO.wanted_none rfl)]
                    clear hb hp
                    clear hC
                    clear h0
                    have HP := Lib.hid hP
                    have HWq := Lib.hid hW
                    clear hP hW
                    go_simp
                    have hP := HP.out
                    have hW := HWq.out
                    clear HP HWq
                    exact hK _ _ (AnyO.InvG.step (g := σ) hP rfl hW)
                  · -- 4: Op.move (Operand.tmp 22)
                    refine AnyO.StepI.mk rfl [3] (by kernel_rfl) ?_
                    intro D vs u hI h0 hC hp ac hb K hK
                    obtain ⟨σ, hP, hW⟩ := hI
                    have s22 : ac.tmps[22]?.getD undef = .slice (some ad3) 1 c3 := by rw [hb]; kernel_rfl
                    have s164 : ac.tmps[164]?.getD undef = .bool true := by rw [hb]; exact (show _ = vs 3 by kernel_rfl).trans (show vs 3 = .bool true from hP 3 (hp 3 (by decide)))
                    rw [if_pos (AnyO.wanted_some (g := 3) (t := 164) (want := true) rfl rfl s164)]
                    clear hb hp
                    clear hC
                    clear h0
                    have HP := Lib.hid hP
                    have HWq := Lib.hid hW
                    clear hP hW
                    go_simp
                    have hP := HP.out
                    have hW := HWq.out
                    clear HP HWq
                    exact hK _ _ (AnyO.InvG.step (g := σ) hP rfl hW)
                  · -- 5: Op.indexAddr 65 (Operand.tmp 165) (Operand.const (Value.int 
                    refine AnyO.StepI.mk rfl [4, 3] (by kernel_rfl) ?_
                    intro D vs u hI h0 hC hp ac hb K hK
                    obtain ⟨σ, hP, hW⟩ := hI
                    have s165 : ac.tmps[165]?.getD undef = .slice (some ad3) 1 c3 := by rw [hb]; exact (show _ = vs 4 by kernel_rfl).trans (show vs 4 = .slice (some ad3) 1 c3 from hP 4 (hp 4 (by decide)))
                    have s164 : ac.tmps[164]?.getD undef = .bool true := by rw [hb]; exact (show _ = vs 3 by kernel_rfl).trans (show vs 3 = .bool true from hP 3 (hp 3 (by decide)))
                    rw [if_pos (AnyO.wanted_some (g := 3) (t := 164) (want := true) rfl rfl s164)]
                    clear hb hp
                    clear hC
                    clear h0
                    have HP := Lib.hid hP
                    have HWq := Lib.hid hW
                    clear hP hW
                    go_simp
                    have hP := HP.out
                    have hW := HWq.out
                    clear HP HWq
                    exact hK _ _ (AnyO.InvG.step (g := σ) hP rfl hW)
                  · -- 6: Op.load 68 (Operand.tmp 166)
                    refine AnyO.StepI.mk rfl [5, 3] (by kernel_rfl) ?_
                    intro D vs u hI h0 hC hp ac hb K hK
                    obtain ⟨σ, hP, hW⟩ := hI
                    have s166 : ac.tmps[166]?.getD undef = .pointer (some ad3) := by rw [hb]; exact (show _ = vs 5 by kernel_rfl).trans (show vs 5 = .pointer (some ad3) from hP 5 (hp 5 (by decide)))
                    have s164 : ac.tmps[164]?.getD undef = .bool true := by rw [hb]; exact (show _ = vs 3 by kernel_rfl).trans (show vs 3 = .bool true from hP 3 (hp 3 (by decide)))
                    rw [if_pos (AnyO.wanted_some (g := 3) (t := 164) (want := true) rfl rfl s164)]
                    clear hb hp
                    have rr1 := okA_below O6.out.1 O6.out.2.2 hW
                    rw [O6.out.2.1] at rr1
                    obtain ⟨rr1, rr2⟩ := rr1
                    clear hC
                    clear h0
                    have HP := Lib.hid hP
                    have HWq := Lib.hid hW
                    clear hP hW
                    go_simp
                    have hP := HP.out
                    have hW := HWq.out
                    clear HP HWq
                    exact hK _ _ (AnyO.InvG.step (g := σ) hP rfl hW)
                  · -- 7: Op.load 40 (Operand.tmp 7)
                    refine AnyO.StepI.mk rfl [3] (by kernel_rfl) ?_
                    intro D vs u hI h0 hC hp ac hb K hK
                    obtain ⟨σ, hP, hW⟩ := hI
                    have s7 : ac.tmps[7]?.getD undef = .pointer (some ⟨g7, 0, none⟩) := by rw [hb]; kernel_rfl
                    have s164 : ac.tmps[164]?.getD undef = .bool true := by rw [hb]; exact (show _ = vs 3 by kernel_rfl).trans (show vs 3 = .bool true from hP 3 (hp 3 (by decide)))
                    rw [if_pos (AnyO.wanted_some (g := 3) (t := 164) (want := true) rfl rfl s164)]
                    clear hb hp
                    obtain ⟨rr1, rr2⟩ := ((H12.out.below hW).row (g := g7) (cs := cI i7) (ty := 40) List.mem_cons_self).idI
                    clear hC
                    clear h0
                    have HP := Lib.hid hP
                    have HWq := Lib.hid hW
                    clear hP hW
                    go_simp
                    have hP := HP.out
                    have hW := HWq.out
                    clear HP HWq
                    exact hK _ _ (AnyO.InvG.step (g := σ) hP rfl hW)
                  · -- 8: Op.build 68 #[(0, Operand.tmp 168), (1, Operand.const (Value
                    refine AnyO.StepI.mk rfl [7, 3] (by kernel_rfl) ?_
                    intro D vs u hI h0 hC hp ac hb K hK
                    obtain ⟨σ, hP, hW⟩ := hI
                    have s168 : ac.tmps[168]?.getD undef = vI i7 := by rw [hb]; exact (show _ = vs 7 by kernel_rfl).trans (show vs 7 = vI i7 from hP 7 (hp 7 (by decide)))
                    have s164 : ac.tmps[164]?.getD undef = .bool true := by rw [hb]; exact (show _ = vs 3 by kernel_rfl).trans (show vs 3 = .bool true from hP 3 (hp 3 (by decide)))
                    rw [if_pos (AnyO.wanted_some (g := 3) (t := 164) (want := true) rfl rfl s164)]
                    clear hb hp
                    clear hC
                    clear h0
                    have HP := Lib.hid hP
                    have HWq := Lib.hid hW
                    clear hP hW
                    go_simp
                    have hP := HP.out
                    have hW := HWq.out
                    clear HP HWq
                    exact hK _ _ (AnyO.InvG.step (g := σ) hP rfl hW)
                  · -- 9: Op.binOp BinOp.eql 68 (Operand.tmp 167) (Operand.tmp 169) 68
                    refine AnyO.StepI.mk rfl [6, 8, 3] (by kernel_rfl) ?_
                    intro D vs u hI h0 hC hp ac hb K hK
                    obtain ⟨σ, hP, hW⟩ := hI
                    have s167 : ac.tmps[167]?.getD undef = vO (i7, 0, 0) := by rw [hb]; exact (show _ = vs 6 by kernel_rfl).trans (show vs 6 = vO (i7, 0, 0) from hP 6 (hp 6 (by decide)))
                    have s169 : ac.tmps[169]?.getD undef = vO (i7, 0, 0) := by rw [hb]; exact (show _ = vs 8 by kernel_rfl).trans (show vs 8 = vO (i7, 0, 0) from hP 8 (hp 8 (by decide)))
                    have s164 : ac.tmps[164]?.getD undef = .bool true := by rw [hb]; exact (show _ = vs 3 by kernel_rfl).trans (show vs 3 = .bool true from hP 3 (hp 3 (by decide)))
                    rw [if_pos (AnyO.wanted_some (g := 3) (t := 164) (want := true) rfl rfl s164)]
                    clear hb hp
                    clear hC
                    clear h0
                    have HP := Lib.hid hP
                    have HWq := Lib.hid hW
                    clear hP hW
                    go_simp
                    have hP := HP.out
                    have hW := HWq.out
                    clear HP HWq
                    exact hK _ _ (AnyO.InvG.step (g := σ) hP rfl hW)
                  · -- 10: Op.pick (Operand.tmp 164) (Operand.tmp 170) (Operand.const (
                    refine AnyO.StepI.mk rfl [3, 9] (by kernel_rfl) ?_
                    intro D vs u hI h0 hC hp ac hb K hK
                    obtain ⟨σ, hP, hW⟩ := hI
                    have s164 : ac.tmps[164]?.getD undef = .bool true := by rw [hb]; exact (show _ = vs 3 by kernel_rfl).trans (show vs 3 = .bool true from hP 3 (hp 3 (by decide)))
                    have s170 : ac.tmps[170]?.getD undef = .bool true := by rw [hb]; exact (show _ = vs 9 by kernel_rfl).trans (show vs 9 = .bool true from hP 9 (hp 9 (by decide)))
                    rw [if_pos (AnyO.wanted_none rfl)]
                    clear hb hp
                    clear hC
                    clear h0
                    have HP := Lib.hid hP
                    have HWq := Lib.hid hW
                    clear hP hW
                    go_simp
                    have hP := HP.out
                    have hW := HWq.out
                    clear HP HWq
                    exact hK _ _ (AnyO.InvG.step (g := σ) hP rfl hW)
                  · -- 11: Op.move (Operand.tmp 171)
                    refine AnyO.StepI.mk rfl [10, 3] (by kernel_rfl) ?_
                    intro D vs u hI h0 hC hp ac hb K hK
                    obtain ⟨σ, hP, hW⟩ := hI
                    have s171 : ac.tmps[171]?.getD undef = .bool true := by rw [hb]; exact (show _ = vs 10 by kernel_rfl).trans (show vs 10 = .bool true from hP 10 (hp 10 (by decide)))
                    rw [if_pos (AnyO.wanted_none rfl)]
                    clear hb hp
                    clear hC
                    clear h0
                    have HP := Lib.hid hP
                    have HWq := Lib.hid hW
                    clear hP hW
                    go_simp
                    have hP := HP.out
                    have hW := HWq.out
                    clear HP HWq
                    exact hK _ _ (AnyO.InvG.step (g := σ) hP rfl hW)
                  · -- 12: Op.move (Operand.tmp 8)
                    refine AnyO.StepI.mk rfl [11] (by kernel_rfl) ?_
                    intro D vs u hI h0 hC hp ac hb K hK
                    obtain ⟨σ, hP, hW⟩ := hI
                    have s8 : ac.tmps[8]?.getD undef = .pointer (some ⟨b, 0, none⟩) := by rw [hb]; kernel_rfl
                    have s172 : ac.tmps[172]?.getD undef = .bool true := by rw [hb]; exact (show _ = vs 11 by kernel_rfl).trans (show vs 11 = .bool true from hP 11 (hp 11 (by decide)))
                    rw [if_pos (AnyO.wanted_some (g := 11) (t := 172) (want := true) rfl rfl s172)]
                    clear hb hp
                    clear hC
                    clear h0
                    have HP := Lib.hid hP
                    have HWq := Lib.hid hW
                    clear hP hW
                    go_simp
                    have hP := HP.out
                    have hW := HWq.out
                    clear HP HWq
                    exact hK _ _ (AnyO.InvG.step (g := σ) hP rfl hW)
                  · -- 13: Op.call { callee := Callee.value (Operand.func 20), args := 
                    refine AnyO.StepI.mk rfl [12, 11, 11] (by kernel_rfl) ?_
                    intro D vs u hI h0 hC hp ac hb K hK
                    obtain ⟨σ, hP, hW⟩ := hI
                    have s173 : ac.tmps[173]?.getD undef = .pointer (some ⟨b, 0, none⟩) := by rw [hb]; exact (show _ = vs 12 by kernel_rfl).trans (show vs 12 = .pointer (some ⟨b, 0, none⟩) from hP 12 (hp 12 (by decide)))
                    have s172 : ac.tmps[172]?.getD undef = .bool true := by rw [hb]; exact (show _ = vs 11 by kernel_rfl).trans (show vs 11 = .bool true from hP 11 (hp 11 (by decide)))
                    rw [if_pos (AnyO.wanted_some (g := 11) (t := 172) (want := true) rfl rfl s172)]
                    clear hb hp
                    clear hC
                    clear h0
                    have HP := Lib.hid hP
                    have HWq := Lib.hid hW
                    clear hP hW
                    go_simp
                    have hP := HP.out
                    have hW := HWq.out
                    clear HP HWq
                    go_at_call 20
                    refine (k_st (s := { tEnd with outs := [] }) 0 rfl (H12.out.below hW)).mono ?_
                    rintro e w2 ⟨rfl, rfl⟩
                    exact hK _ _ (AnyO.InvG.step (g := σ) hP rfl hW)
                  · -- 14: Op.binOp BinOp.eql 3 (Operand.tmp 174) (Operand.const (Value
                    refine AnyO.StepI.mk rfl [13, 11] (by kernel_rfl) ?_
                    intro D vs u hI h0 hC hp ac hb K hK
                    obtain ⟨σ, hP, hW⟩ := hI
                    have s174 : ac.tmps[174]?.getD undef = .int .i64 0 := by rw [hb]; exact (show _ = vs 13 by kernel_rfl).trans (show vs 13 = .int .i64 0 from hP 13 (hp 13 (by decide)))
                    have s172 : ac.tmps[172]?.getD undef = .bool true := by rw [hb]; exact (show _ = vs 11 by kernel_rfl).trans (show vs 11 = .bool true from hP 11 (hp 11 (by decide)))
                    rw [if_pos (AnyO.wanted_some (g := 11) (t := 172) (want := true) rfl rfl s172)]
                    clear hb hp
                    clear hC
                    clear h0
                    have HP := Lib.hid hP
                    have HWq := Lib.hid hW
                    clear hP hW
                    go_simp
                    have hP := HP.out
                    have hW := HWq.out
                    clear HP HWq
                    exact hK _ _ (AnyO.InvG.step (g := σ) hP rfl hW)
                  · -- 15: Op.pick (Operand.tmp 172) (Operand.tmp 175) (Operand.const (
                    refine AnyO.StepI.mk rfl [11, 14] (by kernel_rfl) ?_
                    intro D vs u hI h0 hC hp ac hb K hK
                    obtain ⟨σ, hP, hW⟩ := hI
                    have s172 : ac.tmps[172]?.getD undef = .bool true := by rw [hb]; exact (show _ = vs 11 by kernel_rfl).trans (show vs 11 = .bool true from hP 11 (hp 11 (by decide)))
                    have s175 : ac.tmps[175]?.getD undef = .bool true := by rw [hb]; exact (show _ = vs 14 by kernel_rfl).trans (show vs 14 = .bool true from hP 14 (hp 14 (by decide)))
                    rw [if_pos (AnyO.wanted_none rfl)]
                    clear hb hp
                    clear hC
                    clear h0
                    have HP := Lib.hid hP
                    have HWq := Lib.hid hW
                    clear hP hW
                    go_simp
                    have hP := HP.out
                    have hW := HWq.out
                    clear HP HWq
                    exact hK _ _ (AnyO.InvG.step (g := σ) hP rfl hW)
                  · -- 16: Op.assign (Operand.tmp 176)
                    refine AnyO.StepI.mk rfl [15, 13, 0, 1, 2, 3, 4, 5, 6, 7, 8, 9, 10, 11, 12, 13, 14, 15] (by kernel_rfl) ?_
                    intro D vs u hI h0 hC hp ac hb K hK
                    obtain ⟨σ, hP, hW⟩ := hI
                    have s176 : ac.tmps[176]?.getD undef = .bool true := by rw [hb]; exact (show _ = vs 15 by kernel_rfl).trans (show vs 15 = .bool true from hP 15 (hp 15 (by decide)))
                    rw [if_pos (AnyO.wanted_none rfl)]
                    clear hb hp
                    clear hC
                    clear h0
                    have HP := Lib.hid hP
                    have HWq := Lib.hid hW
                    clear hP hW
                    go_simp
                    have hP := HP.out
                    have hW := HWq.out
                    clear HP HWq
                    exact hK _ _ (AnyO.InvG.step (g := σ) hP rfl hW)
                · intro D vs u hI hD
                  obtain ⟨σ, hP, hW⟩ := hI
                  have e0 : vs 0 = .slice (some ad3) 1 c3 := hP 0 (hD 0 (by decide))
                  have e1 : vs 1 = .int .i64 1 := hP 1 (hD 1 (by decide))
                  have e2 : vs 2 = .bool true := hP 2 (hD 2 (by decide))
                  have e3 : vs 3 = .bool true := hP 3 (hD 3 (by decide))
                  have e4 : vs 4 = .slice (some ad3) 1 c3 := hP 4 (hD 4 (by decide))
                  have e5 : vs 5 = .pointer (some ad3) := hP 5 (hD 5 (by decide))
                  have e6 : vs 6 = vO (i7, 0, 0) := hP 6 (hD 6 (by decide))
                  have e7 : vs 7 = vI i7 := hP 7 (hD 7 (by decide))
                  have e8 : vs 8 = vO (i7, 0, 0) := hP 8 (hD 8 (by decide))
                  have e9 : vs 9 = .bool true := hP 9 (hD 9 (by decide))
                  have e10 : vs 10 = .bool true := hP 10 (hD 10 (by decide))
                  have e11 : vs 11 = .bool true := hP 11 (hD 11 (by decide))
                  have e12 : vs 12 = .pointer (some ⟨b, 0, none⟩) := hP 12 (hD 12 (by decide))
                  have e13 : vs 13 = .int .i64 0 := hP 13 (hD 13 (by decide))
                  have e14 : vs 14 = .bool true := hP 14 (hD 14 (by decide))
                  have e15 : vs 15 = .bool true := hP 15 (hD 15 (by decide))
                  have e16 : vs 16 = .bool true := hP 16 (hD 16 (by decide))
                  have HW := Lib.hid hW
                  clear hW hP hD
                  rw [puts_range [some 161, some 162, some 163, some 164, some 165, some 166, some 167, some 168, some 169, some 170, some 171, some 172, some 173, some 174, some 175, some 176, some 6] (by kernel_rfl)]
                  simp only [putL, Nat.reduceAdd, e0, e1, e2, e3, e4, e5, e6, e7, e8, e9, e10, e11, e12, e13, e14, e15, e16]
                  clear e0 e1 e2 e3 e4 e5 e6 e7 e8 e9 e10 e11 e12 e13 e14 e15 e16
                  go_simp
                  go_wp2
                  go_ret
                  exact ⟨rfl, Below.step H12.out.bel HW.out⟩
theorem law10 (c : UInt8) (t : ByteArray) (A : Option Addr) (cp : Nat) (ds : List UInt8) (w : World) (hs : Sl w cB1 A ds) (_hc : ds.length ≤ cp) (hL : Laid w) : Calls Tryd.prog 10 #[.int .u8 (c.toNat : Int), .string t, .slice A ds.length cp] w fun e w' => e = .returned (.bool true) ∧ Below w.heap.size w w' := by
  by_cases hok : okArt (i7, cutS t)
  · exact law10_ok c t A ds.length cp ds w hL rfl hs hok
  · exact law10_no c t A ds.length cp w hL hok
end Go.Proofs.YtlelecnafdddhaaDoor
