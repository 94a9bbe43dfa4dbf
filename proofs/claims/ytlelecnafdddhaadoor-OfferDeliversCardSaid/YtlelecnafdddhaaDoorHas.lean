/- Whether an article waits or is under way. -/
import Derived.Test.YtlelecnafdddhaaDoorObj
import Derived.BigQuiet
namespace Go.Proofs.YtlelecnafdddhaaDoor
open Go.RowKit
theorem Sl.art {w : World} {A : Option Addr} {xs : List Art} (h : Sl w cA A xs) {k : Nat} (hk : k < xs.length) : ∃ ad, A = some ad ∧ okA w (ad.add (k * 33)) 33 = true ∧ rdA w (ad.add (k * 33)) 33 = vA xs[k] := by
  obtain ⟨ad, rfl, hat⟩ := Sl.at_ cA_length h hk
  have h1 := hat.ok
  have h2 := hat.rd
  rw [cA_length] at h1 h2
  exact ⟨ad, rfl, h1, h2⟩
def hasL (x : Id) (l : List Art) : Bool := l.any fun a => decide (a.1 = x)
theorem okA_below {w w' : World} {ad : Addr} {n : Nat} (h : okA w ad n = true) (hlt : ad.block < w.heap.size) (hb : Below w.heap.size w w') : okA w' ad n = true ∧ rdA w' ad n = rdA w ad n := by
  have hc : ∀ j, w'.cell? (ad.add j) = w.cell? (ad.add j) := fun j => hb.cell (by rw [block_of_add]; exact hlt)
  have hp : okA w' ad n = okA w ad n := by
    unfold okA
    simp only [hc]
  refine ⟨hp.trans h, ?_⟩
  unfold rdA
  simp only [hc]
set_option maxRecDepth 100000 in
set_option maxHeartbeats 400000 in
theorem has59 (a : Art) (x : Id) (g : Nat) (w : World) (hg : g < w.heap.size) (h : okA w ⟨g, 0, none⟩ 32 = true ∧ rdA w ⟨g, 0, none⟩ 32 = vI x) :
    Calls Tryd.prog 59 #[vA a, .pointer (some ⟨g, 0, none⟩)] w fun e w' => e = .returned (.bool (decide (a.1 = x))) ∧ Below w.heap.size w w' := by
  obtain ⟨h1, h2⟩ := h
  go_enter Tryd.func59, Tryd.ntmps59
  go_wp2
  go_ret
  exact ⟨rfl, below_alloc _ _⟩
set_option maxRecDepth 100000 in
set_option maxHeartbeats 800000 in
theorem index66 (A : Option Addr) (n c : Nat) (xs : List Art) (x : Id) (g : Nat) (w : World) (hn : xs.length = n) (hx : Sl w cA A xs) (hm : n ≤ 4294967296) (hg : g < w.heap.size) (h : okA w ⟨g, 0, none⟩ 32 = true ∧ rdA w ⟨g, 0, none⟩ 32 = vI x) :
    Calls Tryd.prog 66 #[.slice A n c, .func (.func 59) #[] #[.pointer (some ⟨g, 0, none⟩)]] w fun e w' => (∃ r, e = .returned (.int .i64 r) ∧ decide (0 ≤ r) = hasL x xs) ∧ Below w.heap.size w w' := by
  subst hn
  have HX := Lib.hid (And.intro hx (And.intro hg h))
  clear hx hg h
  go_enter Tryd.func66, Tryd.ntmps66
  go_wp2
  go_loopw [8] (fun i wr => ∃ k : Nat, k ≤ xs.length ∧ i = .int .i64 k ∧ hasL x (xs.take k) = false ∧ Below w.heap.size w wr) (fun i _ => xs.length - (intOf i).toNat)
  case atStart => exact ⟨0, Nat.zero_le _, rfl, rfl, Below.refl _ _⟩
  case round =>
    obtain ⟨k, hk, rfl, hno, hb⟩ := hrel
    have HB := Lib.hid (And.intro hno hb)
    by_cases hlt : k < xs.length
    · obtain ⟨ad, rfl, hok, hrd⟩ := Sl.art (HX.out.1.keep hb) hlt
      have HT := Lib.hid (show hasL x (xs.take (k + 1)) = (hasL x (xs.take k) || decide (xs[k].1 = x)) by
        unfold hasL
        rw [List.take_succ_eq_append_getElem hlt, List.any_append, List.any_cons, List.any_nil, Bool.or_false])
      have HI := Lib.hid (show decide (xs[k].1 = x) = true → hasL x xs = true from fun e => List.any_eq_true.2 ⟨xs[k], List.getElem_mem _, e⟩)
      have hlk : (k : Int) < (xs.length : Int) := by omega
      generalize xs[k] = a at hok hrd HT HI
      clear hno hb
      cases he : decide (a.1 = x) with
      | true =>
        go_wp2_with (go_at_call 59; refine (has59 a x g _ (Nat.lt_of_lt_of_le HX.out.2.1 HB.out.2.size) ?_).mono ?_; (have hh := okA_below HX.out.2.2.1 HX.out.2.1 HB.out.2; exact ⟨hh.1, hh.2.trans HX.out.2.2.2⟩); rintro e w1 ⟨rfl, hb1⟩; rw [he]; have H1 := Lib.hid (Below.step HB.out.2 hb1); clear hb1)
        go_ret
        exact ⟨⟨_, rfl, by rw [HI.out he]; simp⟩, H1.out⟩
      | false =>
        go_wp2_with (go_at_call 59; refine (has59 a x g _ (Nat.lt_of_lt_of_le HX.out.2.1 HB.out.2.size) ?_).mono ?_; (have hh := okA_below HX.out.2.2.1 HX.out.2.1 HB.out.2; exact ⟨hh.1, hh.2.trans HX.out.2.2.2⟩); rintro e w1 ⟨rfl, hb1⟩; rw [he]; have H1 := Lib.hid (Below.step HB.out.2 hb1); clear hb1)
        go_roundw
        case rel => exact ⟨k + 1, hlt, by go_num, by rw [HT.out, HB.out.1, he]; rfl, H1.out⟩
        case measure => simp [intOf] <;> omega
    · have hkn : k = xs.length := by omega
      subst hkn
      rw [List.take_length] at hno
      clear hb
      go_wp2
      go_ret
      exact ⟨⟨_, rfl, by rw [hno]; rfl⟩, HB.out.2⟩
set_option maxRecDepth 100000 in
set_option maxHeartbeats 400000 in
theorem contains58 (A : Option Addr) (n c : Nat) (xs : List Art) (x : Id) (g : Nat) (w : World) (hn : xs.length = n) (hx : Sl w cA A xs) (hm : n ≤ 4294967296) (hg : g < w.heap.size) (h : okA w ⟨g, 0, none⟩ 32 = true ∧ rdA w ⟨g, 0, none⟩ 32 = vI x) :
    Calls Tryd.prog 58 #[.slice A n c, .func (.func 59) #[] #[.pointer (some ⟨g, 0, none⟩)]] w fun e w' => e = .returned (.bool (hasL x xs)) ∧ Below w.heap.size w w' := by
  have HX := Lib.hid (index66 A n c xs x g w hn hx hm hg h)
  clear hx hg h hn
  go_enter Tryd.func58, Tryd.ntmps58
  go_wp2_with (go_at_call 66; refine HX.out.mono ?_; rintro e w1 ⟨⟨r, rfl, hr⟩, hb⟩; have H1 := Lib.hid (And.intro hr hb); clear hr hb)
  go_ret
  exact ⟨by rw [← H1.out.1]; rfl, H1.out.2⟩
def hasS (s : St) (x : Id) : Bool := (decide (s.state ≠ 0) && decide (s.cur.1 = x)) || hasL x s.wait
set_option maxRecDepth 100000 in
set_option maxHeartbeats 800000 in
theorem has38 (b : Nat) (ch : Int) (s : St) (F : List Nat) (x : Id) (w : World) (h : Rep b ch s F w) (hm : s.wait.length ≤ 4294967296) :
    Calls Tryd.prog 38 #[.pointer (some ⟨b, 0, none⟩), vI x] w fun e w' => e = .returned (.bool (hasS s x)) ∧ Below w.heap.size w w' := by
  obtain ⟨vw, vo, q, h⟩ := h
  have r1 := h.c1
  have r2 := h.c2
  obtain ⟨r3, r4⟩ := h.id
  obtain ⟨A, c, hvw, hc, hsl⟩ := h.ow.sl
  have hlt := h.row.lt
  have HX := Lib.hid (And.intro hsl (And.intro hm h))
  subst hvw
  clear hsl h hm
  obtain ⟨st, hst⟩ : ∃ st, s.state = st := ⟨_, rfl⟩
  obtain ⟨ci, hci⟩ : ∃ ci, s.cur.1 = ci := ⟨_, rfl⟩
  have HS := Lib.hid (show hasS s x = ((decide (st ≠ 0) && decide (ci = x)) || hasL x s.wait) by rw [← hst, ← hci]; rfl)
  rw [hst] at r2
  rw [hci] at r4
  clear hst hci
  generalize hn : s.wait.length = n at *
  by_cases h0 : st = 0
  · subst h0
    go_enter Tryd.func38, Tryd.ntmps38
    go_wp2
    go_quiet (fail)
    go_wp2_with (go_at_call 58; refine (contains58 A n c s.wait x w.heap.size _ hn (HX.out.1.keep (Below.step (below_alloc w (.cells (aI x) 40)) (below_drewN _ nq))) HX.out.2.1 (by simp) ?_).mono ?_; (exact ⟨okA_n40 w x 40 _ rfl, rdA_n40 w x 40 _ rfl⟩); rintro e w1 ⟨rfl, hb⟩; have H1 := Lib.hid (Below.step (below_alloc w (.cells (aI x) 40)) (Below.step (below_drewN _ nq) hb)); clear hb)
    go_ret
    exact ⟨by rw [HS.out]; simp, H1.out⟩
  · by_cases hx : ci = x
    · go_enter Tryd.func38, Tryd.ntmps38
      go_wp2
      go_quiet (fail)
      go_wp2
      go_ret
      exact ⟨by rw [HS.out]; simp [h0, hx], Below.step (below_alloc _ _) (below_drewN _ _)⟩
    · go_enter Tryd.func38, Tryd.ntmps38
      go_wp2
      go_quiet (fail)
      go_wp2_with (go_at_call 58; refine (contains58 A n c s.wait x w.heap.size _ hn (HX.out.1.keep (Below.step (below_alloc w (.cells (aI x) 40)) (below_drewN _ nq))) HX.out.2.1 (by simp) ?_).mono ?_; (exact ⟨okA_n40 w x 40 _ rfl, rdA_n40 w x 40 _ rfl⟩); rintro e w1 ⟨rfl, hb⟩; have H1 := Lib.hid (Below.step (below_alloc w (.cells (aI x) 40)) (Below.step (below_drewN _ nq) hb)); clear hb)
      go_ret
      exact ⟨by rw [HS.out]; simp [h0, hx], H1.out⟩
end Go.Proofs.YtlelecnafdddhaaDoor
