/- bulletinlaw33.known: the example of the chapter. -/
import Derived.Test.YtlelecnafdddhaaDoorHear
namespace Go.Proofs.YtlelecnafdddhaaDoor
open Go.RowKit
theorem Rep.trim {b : Nat} {ch : Int} {s : St} {F : List Nat} {w : World} (h : Rep b ch s F w) : ∃ F2, Rep b ch s F2 w ∧ ∀ k ∈ F2, k ∈ F ∧ k < w.heap.size := by
  obtain ⟨vw, vo, q, h⟩ := h
  have hm : ∀ k, k ∈ F → k < w.heap.size → k ∈ F.filter (fun k => decide (k < w.heap.size)) := fun k h1 h2 => List.mem_filter.2 ⟨h1, decide_eq_true h2⟩
  refine ⟨F.filter (fun k => decide (k < w.heap.size)), ⟨vw, vo, q, ⟨h.row, h.ow, h.oo, h.none_, fun t ht => ?_, hm b h.bF h.row.lt, fun k e => ⟨hm k (h.wF k e).1 (h.ow.lt k e).2, (h.wF k e).2⟩, fun k e => ⟨hm k (h.oF k e).1 (h.oo.lt k e).2, (h.oF k e).2⟩⟩⟩, fun k hk => ?_⟩
  · obtain ⟨g, e1, e2, e3, e4, e5⟩ := h.some_ t ht
    exact ⟨g, e1, e2, hm g e3 e4.lt, e4, e5⟩
  · obtain ⟨h1, h2⟩ := List.mem_filter.1 hk
    exact ⟨h1, of_decide_eq_true h2⟩
/-- A sender in the making of a walk: its state, and rows beside it that stay as they are. -/
structure Inv (w0 : World) (b : Nat) (ch : Int) (s : St) (L : List (Nat × List Value × TypeId)) (w : World) : Prop where
  bel : Below w0.heap.size w0 w
  rep : ∃ F, Rep b ch s F w ∧ (∀ k ∈ F, w0.heap.size ≤ k ∧ k < w.heap.size) ∧ ∀ x ∈ L, Row w x.1 x.2.1 x.2.2 ∧ x.1 ∉ F
theorem Inv.of {w0 w w' : World} {b : Nat} {ch : Int} {s' : St} {L : List (Nat × List Value × TypeId)} {F F' : List Nat} (hb : Below w0.heap.size w0 w) (hF : ∀ k ∈ F, w0.heap.size ≤ k) (hL : ∀ x ∈ L, Row w x.1 x.2.1 x.2.2 ∧ x.1 ∉ F) (hr : Rep b ch s' F' w') (hk : Kp F F' w w') : Inv w0 b ch s' L w' := by
  obtain ⟨F2, h1, h2⟩ := hr.trim
  refine ⟨⟨hk.os.trans hb.os, hk.tape.trans hb.tape, hk.output.trans hb.output, Nat.le_trans hb.size hk.size, fun k h => ?_⟩, F2, h1, fun k h => ⟨?_, (h2 k h).2⟩, fun x hx => ?_⟩
  · exact (hk.out k (Nat.lt_of_lt_of_le h hb.size) (fun e => by have := hF k e; omega)).2.trans (hb.block k h)
  · rcases Nat.lt_or_ge k w0.heap.size with h3 | h3
    · exact absurd (h2 k h).1 (hk.out k (Nat.lt_of_lt_of_le h3 hb.size) (fun e => by have := hF k e; omega)).1
    · exact h3
  · obtain ⟨h3, h4⟩ := hk.out x.1 (hL x hx).1.lt (hL x hx).2
    exact ⟨(hL x hx).1.same h4, fun e => h3 (h2 _ e).1⟩
theorem Inv.call {P : Program} {f : FuncId} {args : Array Value} {v : Value} {w0 w : World} {b : Nat} {ch : Int} {s s' : St} {L : List (Nat × List Value × TypeId)} (h : Inv w0 b ch s L w) (hc : ∀ F, Rep b ch s F w → Calls P f args w fun e w' => e = .returned v ∧ ∃ F', Rep b ch s' F' w' ∧ Kp F F' w w') : Calls P f args w fun e w' => e = .returned v ∧ Inv w0 b ch s' L w' := by
  obtain ⟨F, h1, h2, h3⟩ := h.rep
  refine (hc F h1).mono ?_
  rintro e w' ⟨rfl, F', h4, h5⟩
  exact ⟨rfl, Inv.of h.bel (fun k hk => (h2 k hk).1) h3 h4 h5⟩
theorem Inv.below {w0 w w' : World} {b : Nat} {ch : Int} {s : St} {L : List (Nat × List Value × TypeId)} (h : Inv w0 b ch s L w) (hb : Below w.heap.size w w') : Inv w0 b ch s L w' := by
  obtain ⟨F, h1, h2, h3⟩ := h.rep
  exact Inv.of h.bel (fun k hk => (h2 k hk).1) h3 (h1.keep hb) (Kp.of_below hb)
theorem Inv.alloc {w0 w : World} {b : Nat} {ch : Int} {s : St} {L : List (Nat × List Value × TypeId)} (h : Inv w0 b ch s L w) (cs : List Value) (ty : TypeId) : Inv w0 b ch s ((w.heap.size, cs, ty) :: L) (w.alloc (.cells cs.toArray ty)) := by
  obtain ⟨F, h1, h2, h3⟩ := h.rep
  refine ⟨(h.bel.alloc h.bel.size _), F, h1.keep (below_alloc _ _), fun k hk => ⟨(h2 k hk).1, Nat.lt_of_lt_of_le (h2 k hk).2 (below_alloc w _).size⟩, fun x hx => ?_⟩
  rcases List.mem_cons.1 hx with rfl | hx
  · exact ⟨Row.new w cs ty, fun e => Nat.lt_irrefl _ (h2 _ e).2⟩
  · exact ⟨(h3 x hx).1.keep (below_alloc _ _), (h3 x hx).2⟩
theorem Rep.lt {b : Nat} {ch : Int} {s : St} {F : List Nat} {w : World} (h : Rep b ch s F w) : b < w.heap.size := by
  obtain ⟨_, _, _, h⟩ := h
  exact h.row.lt
theorem Inv.row {w0 w : World} {b : Nat} {ch : Int} {s : St} {L : List (Nat × List Value × TypeId)} (h : Inv w0 b ch s L w) {g : Nat} {cs : List Value} {ty : TypeId} (hx : (g, cs, ty) ∈ L) : Row w g cs ty := by
  obtain ⟨F, _, _, h3⟩ := h.rep
  exact (h3 _ hx).1
theorem Row.idI {w : World} {g : Nat} {x : Id} {ty : TypeId} (h : Row w g (cI x) ty) : okA w ⟨g, 0, none⟩ 32 = true ∧ rdA w ⟨g, 0, none⟩ 32 = vI x := by
  have := h.at_ (k := 0) (n := 32) (ds := cI x) (by rw [List.drop_zero, List.take_of_length_le (by rw [cI_length]; omega)])
  have h1 := this.ok
  have h2 := this.rd
  rw [cI_length] at h1 h2
  exact ⟨h1, h2⟩
/-- The identities that begin with one byte. -/
def idB (u : UInt8) : Id := ⟨u :: List.replicate 31 0, by simp⟩
section
variable (w : World)
@[go_sem] theorem bl40_1 (u : UInt8) : (blA 40 #[(0, .int .u8 u.toNat)]).run Tryd.prog w = .ok (vI (idB u)) w := by kernel_rfl
@[go_sem] theorem bl40_11 : (blA 40 #[(0, .int .u8 1)]).run Tryd.prog w = .ok (vI (idB 1)) w := by kernel_rfl
@[go_sem] theorem eql68_1 : (binOp .eql 68 (vO (idB 1, 0, 0)) (vO (idB 1, 0, 0))).run Tryd.prog w = .ok (.bool true) w := by kernel_rfl
theorem guard68 : Tryd.prog.eqGuardType Tryd.prog.depth 68 = false := by kernel_rfl
@[go_sem] theorem eqGuard68 (op : BinOp) (x y : Operand) (a b : Out) : (eqGuard op 68 x y (vO a) (vO b)).run Tryd.prog w = .ok () w := run_eqGuard_agg w op 68 x y _ _ guard68
end
def abc : ByteArray := ⟨#[97, 98, 99]⟩
def kS0 : St := ⟨[(idB 1, abc)], 0, zA, [], none⟩
def kS1 : St := ⟨[], 1, (idB 1, abc), [], none⟩
def kS2 (fr : Int) : St := ⟨[], 2, (idB 1, abc), [], some (fr, false)⟩
def kS3 : St := ⟨[], 3, (idB 1, abc), [], some (3, true)⟩
def kS4 : St := ⟨[], 0, zA, [(idB 1, 0, 0)], none⟩
section
variable {w0 w : World} {b : Nat} {L : List (Nat × List Value × TypeId)}
theorem k_add (h : Inv w0 b 2 St.zero L w) : Calls Tryd.prog 15 #[.pointer (some ⟨b, 0, none⟩), vI (idB 1), .string ⟨#[97, 98, 99]⟩] w fun e w' => e = .returned (.int .i64 0) ∧ Inv w0 b 2 kS0 L w' :=
  h.call fun F hF => add15_ok b 2 St.zero F (idB 1) abc w hF (by decide) (by rw [ByteArray.toList_eq]; rfl) (by decide) (by decide) (by decide) (by decide)
theorem k_offer (h : Inv w0 b 2 kS0 L w) : Calls Tryd.prog 18 #[.pointer (some ⟨b, 0, none⟩)] w fun e w' => e = .returned (.tuple #[vC ⟨2, ⟨#[]⟩, idB 1, 3, 0, 0, 0, ⟨#[]⟩⟩, .bool true]) ∧ Inv w0 b 2 kS1 L w' :=
  h.call fun F hF => say18_offer b 2 kS0 F (idB 1) abc [] w hF rfl rfl (by decide)
theorem k_none (h : Inv w0 b 2 kS1 L w) : Calls Tryd.prog 18 #[.pointer (some ⟨b, 0, none⟩)] w fun e w' => e = .returned (.tuple #[vC zC, .bool false]) ∧ Inv w0 b 2 kS1 L w' :=
  h.call fun F hF => (say18_none b 2 kS1 F w hF (by decide) (fun _ => rfl)).mono fun e w' ⟨h1, h2, h3⟩ => ⟨h1, F, h2, h3⟩
theorem k_want0 (hF : FormsAt w0) (hE : EffAt w0) (h : Inv w0 b 2 kS1 L w) : Calls Tryd.prog 19 #[.pointer (some ⟨b, 0, none⟩), vC ⟨3, ⟨#[]⟩, idB 1, 0, 0, 0, 0, ⟨#[]⟩⟩] w fun e w' => e = .returned (.int .i64 0) ∧ Inv w0 b 2 (kS2 0) L w' :=
  h.call fun F ⟨vw, vo, q, hr⟩ => hear_1_3 b 2 kS1 F vw vo q ⟨3, ⟨#[]⟩, idB 1, 0, 0, 0, 0, ⟨#[]⟩⟩ w hr (hF.keep h.bel) rfl (At.keep hE h.bel) (idB 1) abc (by kernel_rfl) rfl rfl rfl rfl (by decide) (by decide) (by decide) (by decide) (by decide)
theorem k_want2 (hF : FormsAt w0) (hE : EffAt w0) (h : Inv w0 b 2 kS1 L w) : Calls Tryd.prog 19 #[.pointer (some ⟨b, 0, none⟩), vC ⟨3, ⟨#[]⟩, idB 1, 0, 2, 0, 0, ⟨#[]⟩⟩] w fun e w' => e = .returned (.int .i64 0) ∧ Inv w0 b 2 (kS2 2) L w' :=
  h.call fun F ⟨vw, vo, q, hr⟩ => hear_1_3 b 2 kS1 F vw vo q ⟨3, ⟨#[]⟩, idB 1, 0, 2, 0, 0, ⟨#[]⟩⟩ w hr (hF.keep h.bel) rfl (At.keep hE h.bel) (idB 1) abc (by kernel_rfl) rfl rfl rfl rfl (by decide) (by decide) (by decide) (by decide) (by decide)
theorem k_got (hF : FormsAt w0) (hE : EffAt w0) (h : Inv w0 b 2 kS3 L w) : Calls Tryd.prog 19 #[.pointer (some ⟨b, 0, none⟩), vC ⟨9, ⟨#[]⟩, idB 1, 0, 0, 0, 0, ⟨#[]⟩⟩] w fun e w' => e = .returned (.int .i64 0) ∧ Inv w0 b 2 kS4 L w' :=
  h.call fun F ⟨vw, vo, q, hr⟩ => hear_3_9 b 2 kS3 F vw vo q ⟨9, ⟨#[]⟩, idB 1, 0, 0, 0, 0, ⟨#[]⟩⟩ w hr (hF.keep h.bel) rfl (At.keep hE h.bel) (idB 1) abc (by kernel_rfl) rfl rfl rfl rfl (by decide)
theorem k_ab (h : Inv w0 b 2 (kS2 0) L w) : Calls Tryd.prog 18 #[.pointer (some ⟨b, 0, none⟩)] w fun e w' => e = .returned (.tuple #[vC ⟨7, ⟨#[]⟩, idB 1, 0, 0, 0, 0, ⟨#[97, 98]⟩⟩, .bool true]) ∧ Inv w0 b 2 (kS2 2) L w' :=
  h.call fun F hF => (say18_data b 2 (kS2 0) F (idB 1) abc 0 w hF rfl rfl rfl (by decide) (by decide) (by decide) (by decide) (by decide)).mono fun e w' ⟨h1, h2, h3⟩ => ⟨h1, F, h2, h3⟩
theorem k_c (h : Inv w0 b 2 (kS2 2) L w) : Calls Tryd.prog 18 #[.pointer (some ⟨b, 0, none⟩)] w fun e w' => e = .returned (.tuple #[vC ⟨7, ⟨#[]⟩, idB 1, 0, 2, 0, 0, ⟨#[99]⟩⟩, .bool true]) ∧ Inv w0 b 2 (kS2 3) L w' :=
  h.call fun F hF => (say18_data b 2 (kS2 2) F (idB 1) abc 2 w hF rfl rfl rfl (by decide) (by decide) (by decide) (by decide) (by decide)).mono fun e w' ⟨h1, h2, h3⟩ => ⟨h1, F, h2, h3⟩
theorem k_done (h : Inv w0 b 2 (kS2 3) L w) : Calls Tryd.prog 18 #[.pointer (some ⟨b, 0, none⟩)] w fun e w' => e = .returned (.tuple #[vC ⟨8, ⟨#[]⟩, idB 1, 0, 0, 0, 0, ⟨#[]⟩⟩, .bool true]) ∧ Inv w0 b 2 kS3 L w' :=
  h.call fun F hF => (say18_done b 2 (kS2 3) F (idB 1) abc w hF rfl rfl rfl (by decide)).mono fun e w' ⟨h1, h2, h3⟩ => ⟨h1, F, h2, h3⟩
theorem k_drop (h : Inv w0 b 2 (kS2 2) L w) : Calls Tryd.prog 31 #[.pointer (some ⟨b, 0, none⟩)] w fun e w' => e = .returned (.int .i64 0) ∧ Inv w0 b 2 kS0 L w' :=
  h.call fun F hF => drop31 b 2 (kS2 2) F (idB 1) abc w hF (by decide) rfl (by decide)
theorem k_outs (h : Inv w0 b 2 kS4 L w) : Calls Tryd.prog 25 #[.pointer (some ⟨b, 0, none⟩)] w fun e w' => (∃ A c, e = .returned (.slice A 1 c) ∧ Sl w' cO A [(idB 1, 0, 0)]) ∧ Inv w0 b 2 { kS4 with outs := [] } L w' := by
  obtain ⟨F, h1, h2, h3⟩ := h.rep
  refine (outcomes25 b 2 kS4 F w h1).mono ?_
  rintro e w' ⟨A, n, c, rfl, rfl, h4, h5, h6⟩
  exact ⟨⟨A, c, rfl, h4⟩, Inv.of h.bel (fun k hk => (h2 k hk).1) h3 h5 h6⟩
theorem k_state0 (h : Inv w0 b 2 { kS4 with outs := [] } L w) (n : Nat) : Calls Tryd.prog 20 #[.pointer (some ⟨b, 0, none⟩)] (w.drewN n) fun e w' => e = .returned (.int .i64 0) ∧ w' = w.drewN n := by
  obtain ⟨F, h1, _⟩ := (h.below (below_drewN w n)).rep
  exact state20 b 2 _ F _ h1
theorem k_state (s : St) (h : Inv w0 b 2 s L w) : Calls Tryd.prog 20 #[.pointer (some ⟨b, 0, none⟩)] w fun e w' => e = .returned (.int .i64 s.state) ∧ w' = w := by
  obtain ⟨F, h1, _⟩ := h.rep
  exact state20 b 2 s F w h1
end
theorem addr_add0 (ad : Addr) : ad.add 0 = ad := by
  unfold Addr.add
  split <;> simp_all
theorem Sl.out1 {w : World} {A : Option Addr} {x : Out} (h : Sl w cO A [x]) : ∃ ad, A = some ad ∧ okA w ad 34 = true ∧ rdA w ad 34 = vO x := by
  obtain ⟨ad, rfl, hat⟩ := Sl.at_ cO_length h (k := 0) (by simp)
  have h1 := hat.ok
  have h2 := hat.rd
  rw [cO_length, Nat.zero_mul, addr_add0] at h1 h2
  exact ⟨ad, rfl, h1, h2⟩
set_option maxRecDepth 100000 in
set_option maxHeartbeats 4000000 in
theorem known13 (w : World) (hF : FormsAt w) (hE : EffAt w) : Calls Tryd.prog 13 #[] w fun e w' => e = .returned (.bool true) ∧ Below w.heap.size w w' := by
  have T0 : True := trivial
  have HW := Lib.hid (And.intro hF hE)
  clear hF hE
  go_enter Tryd.func13, Tryd.ntmps13
  go_wp2_with (first
    | (have hh := T0; clear hh T0; go_at_call 11; refine (new11_ok 2 (by decide) (by decide) w).mono ?_; rintro e wa ⟨rfl, hr, hbl⟩; have HI := Lib.hid (show Inv w w.heap.size 2 St.zero [] wa from ⟨hbl, [w.heap.size], hr, fun k hk => by rw [List.mem_singleton.1 hk]; exact ⟨Nat.le_refl _, (show Rep w.heap.size 2 St.zero [w.heap.size] wa from hr).lt⟩, fun x hx => by cases hx⟩); clear hr hbl; have T1 : True := trivial)
    | (have hh := T1; clear hh T1; go_at_call 15; refine (k_add (HI.out.alloc (cI (idB 1)) 40)).mono ?_; rintro e w0 ⟨rfl, hI⟩; have H0 := Lib.hid hI; clear hI; have T2 : True := trivial)
    | (have hh := T2; clear hh T2; go_at_call 18; refine (k_offer H0.out).mono ?_; rintro e w1 ⟨rfl, hI⟩; have H1 := Lib.hid hI; clear hI; have T3 : True := trivial)
    | (have hh := T3; clear hh T3; go_at_call 18; refine (k_none (H1.out.alloc (cC ⟨2, ⟨#[]⟩, idB 1, 3, 0, 0, 0, ⟨#[]⟩⟩) 45)).mono ?_; rintro e w2 ⟨rfl, hI⟩; have H2 := Lib.hid hI; clear hI; obtain ⟨x1, x2⟩ := (H2.out.row (g := wa.heap.size) (cs := cI (idB 1)) (ty := 40) (by with_reducible repeat (first | exact List.mem_cons_self | apply List.mem_cons_of_mem))).idI; have x3 := (H2.out.row (g := wa.heap.size) (cs := cI (idB 1)) (ty := 40) (by with_reducible repeat (first | exact List.mem_cons_self | apply List.mem_cons_of_mem))).lt; have T4 : True := trivial)
    | (have hh := T4; clear hh T4; go_at_call 19; refine (k_want0 HW.out.1 HW.out.2 (H2.out.alloc (cC zC) 45)).mono ?_; rintro e w3 ⟨rfl, hI⟩; have H3 := Lib.hid hI; clear hI; have T5 : True := trivial)
    | (have hh := T5; clear hh T5; go_at_call 18; refine (k_ab H3.out).mono ?_; rintro e w4 ⟨rfl, hI⟩; have H4 := Lib.hid hI; clear hI; have T6 : True := trivial)
    | (have hh := T6; clear hh T6; go_at_call 31; refine (k_drop (H4.out.alloc (cC ⟨7, ⟨#[]⟩, idB 1, 0, 0, 0, 0, ⟨#[97, 98]⟩⟩) 45)).mono ?_; rintro e w5 ⟨rfl, hI⟩; have H5 := Lib.hid hI; clear hI; have T7 : True := trivial)
    | (have hh := T7; clear hh T7; go_at_call 18; refine (k_offer H5.out).mono ?_; rintro e w6 ⟨rfl, hI⟩; have H6 := Lib.hid hI; clear hI; obtain ⟨x1, x2⟩ := (H6.out.row (g := wa.heap.size) (cs := cI (idB 1)) (ty := 40) (by with_reducible repeat (first | exact List.mem_cons_self | apply List.mem_cons_of_mem))).idI; have x3 := (H6.out.row (g := wa.heap.size) (cs := cI (idB 1)) (ty := 40) (by with_reducible repeat (first | exact List.mem_cons_self | apply List.mem_cons_of_mem))).lt; have T8 : True := trivial)
    | (have hh := T8; clear hh T8; go_at_call 19; refine (k_want2 HW.out.1 HW.out.2 (H6.out.alloc (cC ⟨2, ⟨#[]⟩, idB 1, 3, 0, 0, 0, ⟨#[]⟩⟩) 45)).mono ?_; rintro e w7 ⟨rfl, hI⟩; have H7 := Lib.hid hI; clear hI; have T9 : True := trivial)
    | (have hh := T9; clear hh T9; go_at_call 18; refine (k_c H7.out).mono ?_; rintro e w8 ⟨rfl, hI⟩; have H8 := Lib.hid hI; clear hI; have T10 : True := trivial)
    | (have hh := T10; clear hh T10; go_at_call 18; refine (k_done (H8.out.alloc (cC ⟨7, ⟨#[]⟩, idB 1, 0, 2, 0, 0, ⟨#[99]⟩⟩) 45)).mono ?_; rintro e w9 ⟨rfl, hI⟩; have H9 := Lib.hid hI; clear hI; obtain ⟨x1, x2⟩ := (H9.out.row (g := wa.heap.size) (cs := cI (idB 1)) (ty := 40) (by with_reducible repeat (first | exact List.mem_cons_self | apply List.mem_cons_of_mem))).idI; have x3 := (H9.out.row (g := wa.heap.size) (cs := cI (idB 1)) (ty := 40) (by with_reducible repeat (first | exact List.mem_cons_self | apply List.mem_cons_of_mem))).lt; have T11 : True := trivial)
    | (have hh := T11; clear hh T11; go_at_call 19; refine (k_got HW.out.1 HW.out.2 (H9.out.alloc (cC ⟨8, ⟨#[]⟩, idB 1, 0, 0, 0, 0, ⟨#[]⟩⟩) 45)).mono ?_; rintro e w10 ⟨rfl, hI⟩; have H10 := Lib.hid hI; clear hI; have T12 : True := trivial)
    | (have hh := T12; clear hh T12; go_at_call 25; refine (k_outs H10.out).mono ?_; rintro e w11 ⟨⟨A, cc, rfl, hs⟩, hI⟩; have H11 := Lib.hid hI; clear hI; obtain ⟨x1, x2⟩ := (H11.out.row (g := wa.heap.size) (cs := cI (idB 1)) (ty := 40) (by with_reducible repeat (first | exact List.mem_cons_self | apply List.mem_cons_of_mem))).idI; have x3 := (H11.out.row (g := wa.heap.size) (cs := cI (idB 1)) (ty := 40) (by with_reducible repeat (first | exact List.mem_cons_self | apply List.mem_cons_of_mem))).lt; obtain ⟨ad, rfl, hs1, hs2⟩ := Sl.out1 hs; clear hs; have y1_0 := (H11.out.row (g := w1.heap.size) (cs := cC ⟨2, ⟨#[]⟩, idB 1, 3, 0, 0, 0, ⟨#[]⟩⟩) (ty := 45) (by with_reducible repeat (first | exact List.mem_cons_self | apply List.mem_cons_of_mem))).cell 0; rw [show (cC ⟨2, ⟨#[]⟩, idB 1, 3, 0, 0, 0, ⟨#[]⟩⟩)[0]? = some (.int .i64 2) from rfl] at y1_0; have y1_34 := (H11.out.row (g := w1.heap.size) (cs := cC ⟨2, ⟨#[]⟩, idB 1, 3, 0, 0, 0, ⟨#[]⟩⟩) (ty := 45) (by with_reducible repeat (first | exact List.mem_cons_self | apply List.mem_cons_of_mem))).cell 34; rw [cC_at (aC_34 _)] at y1_34; have y4_38 := (H11.out.row (g := w4.heap.size) (cs := cC ⟨7, ⟨#[]⟩, idB 1, 0, 0, 0, 0, ⟨#[97, 98]⟩⟩) (ty := 45) (by with_reducible repeat (first | exact List.mem_cons_self | apply List.mem_cons_of_mem))).cell 38; rw [cC_at (aC_38 _)] at y4_38; have y6_0 := (H11.out.row (g := w6.heap.size) (cs := cC ⟨2, ⟨#[]⟩, idB 1, 3, 0, 0, 0, ⟨#[]⟩⟩) (ty := 45) (by with_reducible repeat (first | exact List.mem_cons_self | apply List.mem_cons_of_mem))).cell 0; rw [show (cC ⟨2, ⟨#[]⟩, idB 1, 3, 0, 0, 0, ⟨#[]⟩⟩)[0]? = some (.int .i64 2) from rfl] at y6_0; have y8_35 := (H11.out.row (g := w8.heap.size) (cs := cC ⟨7, ⟨#[]⟩, idB 1, 0, 2, 0, 0, ⟨#[99]⟩⟩) (ty := 45) (by with_reducible repeat (first | exact List.mem_cons_self | apply List.mem_cons_of_mem))).cell 35; rw [cC_at (aC_35 _)] at y8_35; have y8_38 := (H11.out.row (g := w8.heap.size) (cs := cC ⟨7, ⟨#[]⟩, idB 1, 0, 2, 0, 0, ⟨#[99]⟩⟩) (ty := 45) (by with_reducible repeat (first | exact List.mem_cons_self | apply List.mem_cons_of_mem))).cell 38; rw [cC_at (aC_38 _)] at y8_38; have y9_0 := (H11.out.row (g := w9.heap.size) (cs := cC ⟨8, ⟨#[]⟩, idB 1, 0, 0, 0, 0, ⟨#[]⟩⟩) (ty := 45) (by with_reducible repeat (first | exact List.mem_cons_self | apply List.mem_cons_of_mem))).cell 0; rw [show (cC ⟨8, ⟨#[]⟩, idB 1, 0, 0, 0, 0, ⟨#[]⟩⟩)[0]? = some (.int .i64 8) from rfl] at y9_0; have T13 : True := trivial))
  go_quiet (first | (go_at_call 20; exact Calls.quiet_of_same (k_state0 H11.out _)))
  go_wp2
  go_ret
  exact ⟨rfl, (H11.out.below (below_drewN _ _)).bel⟩
end Go.Proofs.YtlelecnafdddhaaDoor
