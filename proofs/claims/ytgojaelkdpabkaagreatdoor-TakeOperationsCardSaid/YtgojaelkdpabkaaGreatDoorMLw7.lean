/- bulletinlaw34.TakeOperations: whatever the window, the operations and the identity, the law returns true. -/
import Derived.Test.YtgojaelkdpabkaaGreatDoorMVw31
namespace Go.Proofs.YtgojaelkdpabkaaGreatDoor
open Go.RowKit
section
set_option maxRecDepth 100000
set_option maxHeartbeats 3200000
theorem run26_no (n0 : Int) (h : n0 < 1 ∨ 64 < n0) (A : Option Addr) (n cap : Nat) (w : World) :
  Calls Tryz.prog 26 #[.int .i64 n0, .slice A n cap] w fun e w' => e = .returned (.tuple #[.pointer none, vT zT, .bool true]) ∧ Below w.heap.size w w' := by
 obtain ⟨r5, hr5⟩ : ∃ r5, w.heap.size = r5 := ⟨_, rfl⟩
 obtain ⟨W1, hW1⟩ : ∃ W1, w.alloc (.cells (aT zT) 60) = W1 := ⟨_, rfl⟩
 have hbw : Below w.heap.size w W1 := by rw [← hW1]; exact below_alloc _ _
 have hrow : Row W1 r5 (cT zT) 60 := by rw [← hW1, ← hr5]; exact Row.new w (cT zT) _
 have HR5 := Lib.hid (And.intro hbw (And.intro hrow (show w.heap.size ≤ r5 by omega)))
 have HN := Lib.hid h
 clear hbw hrow h
 have st : ∀ u, Below w.heap.size w u → Row u r5 (cT zT) 60 → rowOk u r5 4 = true ∧ Row (u.setRow r5 (aT zT)) r5 (cT zT) 60 ∧ Below w.heap.size w (u.setRow r5 (aT zT)) := fun u h1 h2 => ⟨h2.rowOk (cT_length _), h2.setRow (cT zT), Below.setRow' h1 HR5.out.2.2 _⟩
 have HS := Lib.hid st
 clear st
 go_enter Tryz.func26, Tryz.ntmps26
 go_wp2_with (first
  | (go_at_call 46; refine (refNew46_no n0 HN.out w2).mono ?_; rintro e w3 ⟨rfl, hb3⟩; obtain ⟨ro3, h41, h42⟩ := HS.out w3 (Below.step H2.out.1 hb3) (H2.out.2.keep hb3); obtain ⟨W4, hW4⟩ : ∃ W4, w3.setRow r5 (aT zT) = W4 := ⟨_, rfl⟩; rw [hW4] at h41 h42; have H4 := Lib.hid (And.intro h41 h42); clear hb3 h41 h42)
  | (go_at_call 13; refine (new13_no n0 HN.out W1).mono ?_; rintro e w2 ⟨rfl, hb2⟩; have H2 := Lib.hid (And.intro (Below.step HR5.out.1 hb2) (HR5.out.2.1.keep hb2)); clear hb2))
 go_loopw [4, 6, 9] (fun vp v i wr => ∃ vb : Bool, vp = .pointer none ∧ v = .bool vb ∧ i = .int .i64 0 ∧ Row wr r5 (cT zT) 60 ∧ Below w.heap.size w wr) (fun _ _ _ _ => 0)
 case atStart => exact ⟨_, rfl, rfl, rfl, H4.out.1, H4.out.2⟩
 case round =>
  obtain ⟨vb, rfl, rfl, rfl, hrw, hbw⟩ := hrel
  have HI := Lib.hid (And.intro hrw hbw)
  clear hrw hbw
  have hn : (0 : Int) < (n : Int) ∨ ¬ (0 : Int) < (n : Int) := Classical.em _
  rcases hn with hn1 | hn1
  all_goals
   go_wp2
   refine AnyO.wp_anyI (by kernel_rfl) (by kernel_rfl) (AnyO.InvG (σ := Unit) (fun σ => AnyO.pvL [some (.pointer none), some (vT zT), some (.pointer none), none, some (Value.bool true)]) (fun _ D u => (D 3 = false → Below wr.heap.size wr u) ∧ (D 3 = true → Row u r5 (cT zT) 60 ∧ Below w.heap.size w u))) (AnyO.InvG.start (g := ()) (⟨fun _ => below_drew _, fun h => (nomatch h)⟩)) ?_ ?_
   ·intro i hi
    have hi2 : i = 0 ∨ i = 1 ∨ i = 2 ∨ i = 3 ∨ i = 4 := by simp only [List.size_toArray, List.length_cons, List.length_nil] at hi; omega
    clear hi
    rcases hi2 with rfl | rfl | rfl | rfl | rfl
    ·refine AnyO.I rfl [] ?_; rintro D vs u σ Q h0 hC hp ac hb K hK
     have s4 := AnyO.sz (v := .pointer none) 4 hb
     go_simp; exact hK _ _ (AnyO.InvG.step (g := σ) Q.out.1 rfl Q.out.2)
    ·refine AnyO.I rfl [] ?_; rintro D vs u σ Q h0 hC hp ac hb K hK
     have s5 := AnyO.sz (v := .pointer (some ⟨r5, 0, none⟩)) 5 hb
     have hf3 := AnyO.fls (hC.out 3) h0 (show AnyO.pre _ 3 = [1, 2, 0, 1, 2] from by kernel_rfl) (by decide)
     have hst := Q.out.2.1 hf3
     have lk := Row.okw (HI.out.1.keep hst) (cT_length zT)
     have rr1 := lk.1
     have rr2 : rdA u ⟨r5, 0, none⟩ 4 = vT zT := lk.2
     clear hst hf3 lk
     go_simp; exact hK _ _ (AnyO.InvG.step (g := σ) Q.out.1 rfl Q.out.2)
    ·refine AnyO.I rfl [0, 0] ?_; rintro D vs u σ Q h0 hC hp ac hb K hK
     have s54 : _ = _ := AnyO.sv 54 0 hb hp Q
     go_simp; exact hK _ _ (AnyO.InvG.step (g := σ) Q.out.1 rfl Q.out.2)
    ·refine AnyO.I rfl [1, 2, 0, 1, 2] ?_; rintro D vs u σ Q h0 hC hp ac hb K hK
     have s5 := AnyO.sz (v := .pointer (some ⟨r5, 0, none⟩)) 5 hb
     have s55 : _ = _ := AnyO.sv 55 1 hb hp Q
     have hst := Q.out.2.1 h0
     obtain ⟨ro, rp⟩ := HS.out u (Below.step HI.out.2 hst) (HI.out.1.keep hst)
     have RP := Lib.hid rp
     clear hst rp
     go_simp
     exact hK undef _ (AnyO.InvG.step (g := σ) Q.out.1 trivial ⟨fun h => (nomatch h), fun _ => RP.out⟩)
    ·refine AnyO.I rfl [3, 0, 1, 2, 3] ?_; rintro D vs u σ Q h0 hC hp ac hb K hK
     go_simp; exact hK _ _ (AnyO.InvG.step (g := σ) Q.out.1 rfl Q.out.2)
   ·intro D vs u hI hD
    obtain ⟨σ, hP, hW⟩ := hI
    have e0 : _ = _ := hP 0 (hD 0 (by decide))
    have e1 : _ = _ := hP 1 (hD 1 (by decide))
    have e2 : _ = _ := hP 2 (hD 2 (by decide))
    have e4 : _ = _ := hP 4 (hD 4 (by decide))
    have HST := Lib.hid (hW.2 (hD 3 (by decide)))
    have hld := load_T (hW.2 (hD 3 (by decide))).1
    have HW := Lib.hid hW
    clear hW hP hD
    rw [puts_range [some 54, some 55, some 4, none, some 6] (by kernel_rfl)]
    simp only [putL, Nat.reduceAdd, e0, e1, e2, e4]
    clear e0 e1 e2 e4
    have HL2 := Lib.hid hld
    clear hld
    go_simp
    go_wp2
    exact bodyPost_ret (v := .tuple #[.pointer none, vT zT, .bool true]) (results_tct (ad := ⟨r5, 0, none⟩) rfl rfl rfl HL2.out rfl) rfl ⟨rfl, HST.out.2⟩
theorem law7_small (n0 : Int) (A : Option Addr) (cap : Nat) (l : List Opn) (y : Id) (w : World) (hs : Sl w cO A l) (hc : l.length ≤ cap) (hm : cap ≤ 9223372036854775807) (hL : Laid w) (h1 : smallL l = false) :
  Calls Tryz.prog 7 #[.int .i64 n0, .slice A l.length cap, vI y] w fun e w' => e = .returned (.bool true) ∧ Below w.heap.size w w' := by
 obtain ⟨ob, W0, hob, hW0, hrow, hb0⟩ : ∃ ob W0, w.heap.size = ob ∧ w.alloc (.cells (aI y) 29) = W0 ∧ Row W0 ob (cI y) 29 ∧ Below w.heap.size w W0 := ⟨_, _, rfl, rfl, Row.new w (cI y) _, below_alloc _ _⟩
 have HL := Lib.hid (And.intro hL (And.intro hs (show l.length ≤ 9223372036854775807 by omega)))
 have H0 := Lib.hid (And.intro hrow hb0)
 clear hL hs hrow hb0
 have HS1 := Lib.hid h1
 clear h1
 go_enter Tryz.func7, Tryz.ntmps7
 go_wp2_with (first
  | (go_at_call 11; refine (known34 w2 (HL.out.1.keep H2.out.2)).mono ?_; rintro e w9 ⟨rfl, hb9⟩; have H9 := Lib.hid (Below.step H2.out.2 hb9); clear hb9)
  | (go_at_call 12; refine (small12 A cap l w1 (HL.out.2.1.keep H1.out.2) HL.out.2.2).mono ?_; rw [HS1.out]; rintro e w2 ⟨rfl, hb2⟩; have H2 := Lib.hid (And.intro (H1.out.1.keep hb2) (Below.step H1.out.2 hb2)); clear hb2)
  | (go_at_call 11; refine (known34 W0 (HL.out.1.keep H0.out.2)).mono ?_; rintro e w1 ⟨rfl, hb1⟩; have H1 := Lib.hid (And.intro (H0.out.1.keep hb1) (Below.step H0.out.2 hb1)); clear hb1))
 go_ret
 exact ⟨rfl, H9.out⟩
theorem law7_out (n0 : Int) (A : Option Addr) (cap : Nat) (l : List Opn) (y : Id) (w : World) (hs : Sl w cO A l) (hc : l.length ≤ cap) (hm : cap ≤ 9223372036854775807) (hL : Laid w) (h1 : smallL l = true) (hr : n0 < 1 ∨ 64 < n0) :
  Calls Tryz.prog 7 #[.int .i64 n0, .slice A l.length cap, vI y] w fun e w' => e = .returned (.bool true) ∧ Below w.heap.size w w' := by
 obtain ⟨ob, W0, hob, hW0, hrow, hb0⟩ : ∃ ob W0, w.heap.size = ob ∧ w.alloc (.cells (aI y) 29) = W0 ∧ Row W0 ob (cI y) 29 ∧ Below w.heap.size w W0 := ⟨_, _, rfl, rfl, Row.new w (cI y) _, below_alloc _ _⟩
 have HL := Lib.hid (And.intro hL (And.intro hs (show l.length ≤ 9223372036854775807 by omega)))
 have H0 := Lib.hid (And.intro hrow hb0)
 clear hL hs hrow hb0
 have HS1 := Lib.hid h1
 have HR := Lib.hid hr
 clear h1 hr
 go_enter Tryz.func7, Tryz.ntmps7
 go_wp2_with (first
  | (go_at_call 26; refine (run26_no n0 HR.out A l.length cap w2).mono ?_; rintro e w5 ⟨rfl, hb5⟩; obtain ⟨nx, W6, W7, hnx, hW6, rokn, hW7, -, hb7, -⟩ := row_made (ds := cT zT) (t := 60) w5 (cT_length zT); rw [show w5.alloc (.cells (cT zT).toArray 60) = w5.alloc (.cells (aT zT) 60) from rfl] at hW6; rw [show W6.setRow nx (cT zT).toArray = W6.setRow nx (aT zT) from rfl] at hW7; have H7 := Lib.hid (Below.step (Below.step H2.out.2 hb5) hb7); clear hb5 hb7)
  | (go_at_call 12; refine (small12 A cap l w1 (HL.out.2.1.keep H1.out.2) HL.out.2.2).mono ?_; rw [HS1.out]; rintro e w2 ⟨rfl, hb2⟩; have H2 := Lib.hid (And.intro (H1.out.1.keep hb2) (Below.step H1.out.2 hb2)); clear hb2)
  | (go_at_call 11; refine (known34 W0 (HL.out.1.keep H0.out.2)).mono ?_; rintro e w1 ⟨rfl, hb1⟩; have H1 := Lib.hid (And.intro (H0.out.1.keep hb1) (Below.step H0.out.2 hb1)); clear hb1))
 go_ret
 exact ⟨rfl, H7.out⟩
theorem law7_yes (n0 : Int) (A : Option Addr) (cap : Nat) (l : List Opn) (y : Id) (w : World) (hs : Sl w cO A l) (hc : l.length ≤ cap) (hm : cap ≤ 9223372036854775807) (hL : Laid w) (h1 : smallL l = true) (hr1 : 1 ≤ n0) (hr2 : n0 ≤ 64) (s : Tk) (hs0 : runT (Tk.new n0) l = s) (hin : TkI s) :
  Calls Tryz.prog 7 #[.int .i64 n0, .slice A l.length cap, vI y] w fun e w' => e = .returned (.bool true) ∧ Below w.heap.size w w' := by
 obtain ⟨ob, W0, hob, hW0, hrow, hb0⟩ : ∃ ob W0, w.heap.size = ob ∧ w.alloc (.cells (aI y) 29) = W0 ∧ Row W0 ob (cI y) 29 ∧ Below w.heap.size w W0 := ⟨_, _, rfl, rfl, Row.new w (cI y) _, below_alloc _ _⟩
 have HL := Lib.hid (And.intro hL (And.intro hs (show l.length ≤ 9223372036854775807 by omega)))
 have H0 := Lib.hid (And.intro hrow hb0)
 clear hL hs hrow hb0
 have HS1 := Lib.hid h1
 have HR := Lib.hid (And.intro hr1 hr2)
 have HM := Lib.hid (small_mem h1)
 have HRT := Lib.hid hs0
 have HASK := Lib.hid (show AskE s by rw [← hs0]; exact ask_run n0 l)
 have HAK := Lib.hid (And.intro hin.a100 hin.k100)
 obtain ⟨st, hst⟩ : ∃ st, (lookL s y).state = st := ⟨_, rfl⟩
 obtain ⟨rv, hrv⟩ : ∃ rv, rcvdL s y = rv := ⟨_, rfl⟩
 obtain ⟨sz, hsz⟩ : ∃ sz, (lookL s y).size = sz := ⟨_, rfl⟩
 have HVV := Lib.hid (show viewL s y = (st, rv, sz) by rw [viewL_eq hin HASK.out, hst, hrv, hsz])
 have HLL := Lib.hid (And.intro hst (And.intro hrv hsz))
 clear h1 hr1 hr2 hs0 hin hst hrv hsz
 go_enter Tryz.func7, Tryz.ntmps7
 go_wp2_with (first
  | (go_at_call 24; refine (H11.out.1.size y).mono ?_; rw [HLL.out.2.2]; rintro e w12 ⟨rfl, hb⟩; have H12 := Lib.hid (H11.out.1.keep hb).bel; clear hb)
  | (go_at_call 23; refine (H10.out.1.received y).mono ?_; rw [HLL.out.2.1]; rintro e w11 ⟨rfl, hb⟩; have h11 := And.intro (H10.out.1.keep hb) (And.intro (H10.out.2.1.keep hb) (And.intro (H10.out.2.2.1.keep hb) (H10.out.2.2.2.keep hb))); have p := Row.okw h11.2.2.1 (cI_length y); have p111 := p.1; have p211 : rdA w11 ⟨ob, 0, none⟩ 32 = vI y := p.2; have pn := Row.okw h11.2.2.2 (cT_length r); have p311 := pn.1; have p411 : rdA w11 ⟨nx, 0, none⟩ 4 = vT r := pn.2; have H11 := Lib.hid h11; clear hb p pn h11)
  | (go_at_call 22; refine (H9.out.1.state y).mono ?_; rw [HLL.out.1]; rintro e w10 ⟨rfl, hb⟩; have h10 := And.intro (H9.out.1.keep hb) (And.intro (H9.out.2.1.keep hb) (And.intro (H9.out.2.2.1.keep hb) (H9.out.2.2.2.keep hb))); have p := Row.okw h10.2.2.1 (cI_length y); have p110 := p.1; have p210 : rdA w10 ⟨ob, 0, none⟩ 32 = vI y := p.2; have pn := Row.okw h10.2.2.2 (cT_length r); have p310 := pn.1; have p410 : rdA w10 ⟨nx, 0, none⟩ 4 = vT r := pn.2; have H10 := Lib.hid h10; clear hb p pn h10)
  | (go_at_call 31; refine (view31 w b s F F r w8 H8.out.1 H8.out.2.1 HASK.out).mono ?_; rintro e w9 ⟨rfl, hb⟩; have h9 := And.intro (H8.out.1.keep hb) (And.intro (H8.out.2.1.keep hb) (And.intro (H8.out.2.2.1.keep hb) (H8.out.2.2.2.keep hb))); have p := Row.okw h9.2.2.1 (cI_length y); have p19 := p.1; have p29 : rdA w9 ⟨ob, 0, none⟩ 32 = vI y := p.2; have pn := Row.okw h9.2.2.2 (cT_length r); have p39 := pn.1; have p49 : rdA w9 ⟨nx, 0, none⟩ 4 = vT r := pn.2; have H9 := Lib.hid h9; clear hb p pn h9)
  | (go_at_call 30; refine (refView30 F s r y W7 H7.out.2.1 HAK.out.1 HAK.out.2).mono ?_; rw [HVV.out]; dsimp only; rintro e w8 ⟨rfl, hb⟩; have h8 := And.intro (H7.out.1.keep hb) (And.intro (H7.out.2.1.keep hb) (And.intro (H7.out.2.2.1.keep hb) (H7.out.2.2.2.keep hb))); have p := Row.okw h8.2.2.1 (cI_length y); have p18 := p.1; have p28 : rdA w8 ⟨ob, 0, none⟩ 32 = vI y := p.2; have pn := Row.okw h8.2.2.2 (cT_length r); have p38 := pn.1; have p48 : rdA w8 ⟨nx, 0, none⟩ 4 = vT r := pn.2; have H8 := Lib.hid h8; clear hb p pn h8)
  | (go_at_call 26; refine (run26 n0 HR.out.1 HR.out.2 w A cap l w2 HL.out.1 H2.out.2 (HL.out.2.1.keep H2.out.2) HM.out.2 HM.out.1).mono ?_; rw [HRT.out]; rintro e w5 ⟨b, r, F, rfl, ht5, hr5, hk5⟩; obtain ⟨nx, W6, W7, hnx, hW6, rokn, hW7, hrn, hb7, -⟩ := row_made (ds := cT r) (t := 60) w5 (cT_length zT); rw [show w5.alloc (.cells (cT zT).toArray 60) = w5.alloc (.cells (aT zT) 60) from rfl] at hW6; rw [show W6.setRow nx (cT r).toArray = W6.setRow nx (aT r) from rfl] at hW7; have hr7 := (H2.out.1.same (hk5.out ob H2.out.1.lt (fun h => by cases h)).2).keep hb7; have q := Row.okw hr7 (cI_length y); have q1 := q.1; have q2 : rdA W7 ⟨ob, 0, none⟩ 32 = vI y := q.2; have qn := Row.okw hrn (cT_length r); have q3 := qn.1; have q4 : rdA W7 ⟨nx, 0, none⟩ 4 = vT r := qn.2; have H7 := Lib.hid (And.intro (ht5.keep hb7) (And.intro (hr5.keep hb7) (And.intro hr7 hrn))); clear ht5 hr5 hk5 hb7 hr7 hrn q qn)
  | (go_at_call 12; refine (small12 A cap l w1 (HL.out.2.1.keep H1.out.2) HL.out.2.2).mono ?_; rw [HS1.out]; rintro e w2 ⟨rfl, hb2⟩; have H2 := Lib.hid (And.intro (H1.out.1.keep hb2) (Below.step H1.out.2 hb2)); clear hb2)
  | (go_at_call 11; refine (known34 W0 (HL.out.1.keep H0.out.2)).mono ?_; rintro e w1 ⟨rfl, hb1⟩; have H1 := Lib.hid (And.intro (H0.out.1.keep hb1) (Below.step H0.out.2 hb1)); clear hb1))
 go_ret
 exact ⟨rfl, H12.out⟩
end
theorem inv_step {s : Tk} (h : TkI s) (p : Opn) : TkI (stepT s p) := by
 unfold stepT
 repeat' split
 ·exact h.heard _
 ·exact h.answered _
 ·exact h.accepted _ _
 ·exact h.cancelled _
 ·exact h.forgotten _
 ·exact h.opened
 ·exact h.dropped
 ·exact h
theorem inv_run {n : Int} (h1 : 1 ≤ n) (h2 : n ≤ 64) (l : List Opn) : TkI (runT (Tk.new n) l) := by
 unfold runT
 suffices h : ∀ s, TkI s → TkI (l.foldl stepT s) from h _ (TkI.new h1 h2)
 induction l with
 | nil => exact fun s h => h
 | cons p r ih => exact fun s h => ih _ (inv_step h p)
theorem law7 (n0 : Int) (A : Option Addr) (cap : Nat) (l : List Opn) (y : Id) (w : World) (hn0 : i64 n0) (hs : Sl w cO A l) (hi : ∀ x ∈ l, x.ints) (hc : l.length ≤ cap) (hm : cap ≤ 9223372036854775807) (hL : Laid w) :
  Calls Tryz.prog 7 #[.int .i64 n0, .slice A l.length cap, vI y] w fun e w' => e = .returned (.bool true) ∧ Below w.heap.size w w' := by
 have _ := hn0
 have _ := hi
 cases h1 : smallL l with
 | false => exact law7_small n0 A cap l y w hs hc hm hL h1
 | true =>
  by_cases hr : n0 < 1 ∨ 64 < n0
  ·exact law7_out n0 A cap l y w hs hc hm hL h1 hr
  ·exact law7_yes n0 A cap l y w hs hc hm hL h1 (by omega) (by omega) _ rfl (inv_run (by omega) (by omega) l)
end Go.Proofs.YtgojaelkdpabkaaGreatDoor
