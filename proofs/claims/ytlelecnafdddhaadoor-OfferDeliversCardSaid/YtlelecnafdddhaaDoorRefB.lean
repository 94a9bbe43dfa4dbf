/- The reference of offer: Add. -/
import Derived.Test.YtlelecnafdddhaaDoorRefA
namespace Go.Proofs.YtlelecnafdddhaaDoor
open Go.RowKit
theorem Below.setRow' {B : Nat} {a w : World} (h : Below B a w) {g : Nat} (hg : B ≤ g) (c : Array Value) : Below B a (w.setRow g c) :=
  ⟨h.os, h.tape, h.output, by have := h.size; simpa [World.setRow] using this, fun j hj => (heap_setRow_other w g j c (by omega)).trans (h.block j hj)⟩
theorem Below.setCell' {B : Nat} {a w : World} (h : Below B a w) {g : Nat} (hg : B ≤ g) (k : Nat) (v : Value) : Below B a (w.setCell ⟨g, k, none⟩ v) :=
  ⟨h.os, h.tape, h.output, by have := h.size; simpa [World.setCell] using this, fun j hj => (heap_set_other w g k v j (by omega)).trans (h.block j hj)⟩
theorem Sl.artId {w : World} {A : Option Addr} {xs : List Art} (h : Sl w cA A xs) {k : Nat} (hk : k < xs.length) : ∃ ad, A = some ad ∧ okA w (ad.add (k * 33)) 32 = true ∧ rdA w (ad.add (k * 33)) 32 = vI xs[k].1 := by
  obtain ⟨ad, rfl, hat⟩ := Sl.at_ cA_length h hk
  have hat2 : At w (ad.add (k * 33)) (cI xs[k].1) := ⟨hat.1, fun j u hj => hat.2 j u (by unfold cA; rw [List.getElem?_append_left (by have := (List.getElem?_eq_some_iff.1 hj).1; exact this)]; exact hj)⟩
  have h1 := hat2.ok
  have h2 := hat2.rd
  rw [cI_length] at h1 h2
  exact ⟨ad, rfl, h1, h2⟩
def RefP (F : List Nat) (ch : Int) (s' : St) (code : Int) (w : World) : Ending → World → Prop := fun e w' => ∃ r', e = .returned (.tuple #[vR r', .int .i64 code]) ∧ RefAt F ch s' r' w' ∧ Below w.heap.size w w'
theorem hasL_take (x : Id) (l : List Art) (k : Nat) (hk : k < l.length) : hasL x (l.take (k + 1)) = (hasL x (l.take k) || decide (l[k].1 = x)) := by
  unfold hasL
  rw [List.take_succ_eq_append_getElem hk, List.any_append, List.any_cons, List.any_nil, Bool.or_false]
set_option maxRecDepth 100000 in
set_option maxHeartbeats 4000000 in
theorem refadd_zero (F : List Nat) (ch : Int) (s : St) (r : Rs) (x : Id) (t : ByteArray) (w : World) (h : RefAt F ch s r w) (_hF : ∀ k ∈ F, k < w.heap.size) (_hm : s.wait.length ≤ 100000) (hx : x = zI) : Calls Tryd.prog 14 #[vR r, vA (x, t)] w (RefP F ch s 1 w) := by
  have HX := Lib.hid h
  have hdx : decide (x = zI) = true := decide_eq_true hx
  clear hx
  clear h
  go_enter Tryd.func14, Tryd.ntmps14
  go_wp2
  have HB : Below w.heap.size w (((w.alloc (.cells (aR r) 32)).alloc (.cells (aA (x, t)) 28)).alloc (.cells (aR r) 32)) := Below.step (below_alloc _ _) (Below.step (below_alloc _ _) (below_alloc _ _))
  have HR := Row.new ((w.alloc (.cells (aR r) 32)).alloc (.cells (aA (x, t)) 28)) (cR r) 32
  exact bodyPost_ret (v := .tuple #[vR r, .int .i64 1]) (results_c2 (ad := ⟨((w.alloc (.cells (aR r) 32)).alloc (.cells (aA (x, t)) 28)).heap.size, 0, none⟩) rfl (by simp) (load_R HR) rfl) rfl ⟨r, rfl, HX.out.keep HB, HB⟩
set_option maxRecDepth 100000 in
set_option maxHeartbeats 4000000 in
theorem refadd_empty (F : List Nat) (ch : Int) (s : St) (r : Rs) (x : Id) (t : ByteArray) (w : World) (h : RefAt F ch s r w) (_hF : ∀ k ∈ F, k < w.heap.size) (_hm : s.wait.length ≤ 100000) (hx : x ≠ zI) (ht : t.toList.isEmpty = true) : Calls Tryd.prog 14 #[vR r, vA (x, t)] w (RefP F ch s 1 w) := by
  have HX := Lib.hid h
  have hdx : decide (x = zI) = false := decide_eq_false hx
  clear hx
  clear h
  go_enter Tryd.func14, Tryd.ntmps14
  go_wp2
  have HB : Below w.heap.size w (((w.alloc (.cells (aR r) 32)).alloc (.cells (aA (x, t)) 28)).alloc (.cells (aR r) 32)) := Below.step (below_alloc _ _) (Below.step (below_alloc _ _) (below_alloc _ _))
  have HR := Row.new ((w.alloc (.cells (aR r) 32)).alloc (.cells (aA (x, t)) 28)) (cR r) 32
  exact bodyPost_ret (v := .tuple #[vR r, .int .i64 1]) (results_c2 (ad := ⟨((w.alloc (.cells (aR r) 32)).alloc (.cells (aA (x, t)) 28)).heap.size, 0, none⟩) rfl (by simp) (load_R HR) rfl) rfl ⟨r, rfl, HX.out.keep HB, HB⟩
set_option maxRecDepth 100000 in
set_option maxHeartbeats 4000000 in
theorem refadd_long (F : List Nat) (ch : Int) (s : St) (r : Rs) (x : Id) (t : ByteArray) (w : World) (h : RefAt F ch s r w) (_hF : ∀ k ∈ F, k < w.heap.size) (_hm : s.wait.length ≤ 100000) (hx : x ≠ zI) (ht : t.toList.isEmpty = false) (hl : (65536 : Int) < (t.size : Int)) : Calls Tryd.prog 14 #[vR r, vA (x, t)] w (RefP F ch s 5 w) := by
  have HX := Lib.hid h
  have hdx : decide (x = zI) = false := decide_eq_false hx
  clear hx
  clear h
  go_enter Tryd.func14, Tryd.ntmps14
  go_wp2
  have HB : Below w.heap.size w (((w.alloc (.cells (aR r) 32)).alloc (.cells (aA (x, t)) 28)).alloc (.cells (aR r) 32)) := Below.step (below_alloc _ _) (Below.step (below_alloc _ _) (below_alloc _ _))
  have HR := Row.new ((w.alloc (.cells (aR r) 32)).alloc (.cells (aA (x, t)) 28)) (cR r) 32
  exact bodyPost_ret (v := .tuple #[vR r, .int .i64 5]) (results_c2 (ad := ⟨((w.alloc (.cells (aR r) 32)).alloc (.cells (aA (x, t)) 28)).heap.size, 0, none⟩) rfl (by simp) (load_R HR) rfl) rfl ⟨r, rfl, HX.out.keep HB, HB⟩
/-- What the rest of Add asks of the world: the sender, the article, the result. -/
structure AddW (r : Rs) (x : Id) (t : ByteArray) (b2 b3 b4 : Nat) (w : World) : Prop where
  r2 : Row w b2 (cR r) 32
  r3 : Row w b3 (cA (x, t)) 28
  r4 : Row w b4 (cR zR) 32
  n23 : b2 < b3
  n34 : b3 < b4
theorem AddW.keep {r : Rs} {x : Id} {t : ByteArray} {b2 b3 b4 : Nat} {w w' : World} (h : AddW r x t b2 b3 b4 w) (hb : Below w.heap.size w w') : AddW r x t b2 b3 b4 w' := ⟨h.r2.keep hb, h.r3.keep hb, h.r4.keep hb, h.n23, h.n34⟩
theorem AddW.facts {r : Rs} {x : Id} {t : ByteArray} {b2 b3 b4 : Nat} {w : World} (h : AddW r x t b2 b3 b4 w) :
    w.cell? ⟨b2, 1, none⟩ = some (.int .i64 r.st) ∧ (okA w ⟨b2, 3, none⟩ 32 = true ∧ rdA w ⟨b2, 3, none⟩ 32 = vI r.cur.1) ∧ w.cell? ⟨b2, 36, none⟩ = some (.slice r.w.1 r.w.2.1 r.w.2.2) ∧ (okA w ⟨b2, 0, none⟩ 38 = true ∧ rdA w ⟨b2, 0, none⟩ 38 = vR r) ∧
    (okA w ⟨b3, 0, none⟩ 32 = true ∧ rdA w ⟨b3, 0, none⟩ 32 = vI x) ∧ w.cell? ⟨b3, 32, none⟩ = some (.string t) ∧ (okA w ⟨b3, 0, none⟩ 33 = true ∧ rdA w ⟨b3, 0, none⟩ 33 = vA (x, t)) ∧ rowOk w b4 38 = true :=
  ⟨(row_R h.r2).2.1, (row_R h.r2).2.2.2.1, (row_R h.r2).2.2.2.2.2.2.1, (row_R h.r2).2.2.2.2.2.2.2.2.1, (row_A h.r3).1, (row_A h.r3).2.1, (row_A h.r3).2.2.1, h.r4.rok (cR_length zR)⟩
/-- A return of the sender as it came. -/
theorem AddW.ret {r : Rs} {x : Id} {t : ByteArray} {b2 b3 b4 : Nat} {w : World} (h : AddW r x t b2 b3 b4 w) (B : Nat) (w0 : World) (hb : Below B w0 w) (hB : B ≤ b4) : Row (w.setRow b4 (aR r)) b4 (cR r) 32 ∧ Below B w0 (w.setRow b4 (aR r)) :=
  ⟨h.r4.setRow, Below.setRow' hb hB _⟩
set_option maxRecDepth 100000 in
set_option maxHeartbeats 4000000 in
theorem refadd_main (F : List Nat) (ch : Int) (s : St) (r : Rs) (x : Id) (t : ByteArray) (w : World) (h : RefAt F ch s r w) (hF : ∀ k ∈ F, k < w.heap.size) (hm : s.wait.length ≤ 100000) (hx : x ≠ zI) (ht : t.toList.isEmpty = false) (hl : (t.size : Int) ≤ 65536) (s2 : St) (code : Int) (hres : addS s x t = (s2, code)) : Calls Tryd.prog 14 #[vR r, vA (x, t)] w (RefP F ch s2 code w) := by
  have hdx : decide (x = zI) = false := decide_eq_false hx
  have HX := Lib.hid (And.intro h (And.intro hF hm))
  have HA0 : ∀ b : Bool, crL t = b → (s2, code) = if b = true then (s, 6) else if hasS s x = true then (s, 7) else if 1024 ≤ s.wait.length then (s, 9) else ({ s with wait := s.wait ++ [(x, t)] }, 0) := by
    intro b hb
    rw [← hres]
    unfold addS
    rw [if_neg (by rw [ht]; simp [hx]), if_neg (by omega), hb]
  have HA := Lib.hid HA0
  clear h hF hx HA0 hres
  go_enter Tryd.func14, Tryd.ntmps14
  go_wp2
  have HW : Below w.heap.size w (((w.alloc (.cells (aR r) 32)).alloc (.cells (aA (x, t)) 28)).alloc (.cells (aR zR) 32)) := Below.step (below_alloc _ _) (Below.step (below_alloc _ _) (below_alloc _ _))
  have hM : AddW r x t w.heap.size (w.heap.size + 1) (w.heap.size + 1 + 1) (((w.alloc (.cells (aR r) 32)).alloc (.cells (aA (x, t)) 28)).alloc (.cells (aR zR) 32)) := by
    have h2 := Row.new w (cR r) 32
    have h3 := Row.new (w.alloc (.cells (aR r) 32)) (cA (x, t)) 28
    have h4 := Row.new ((w.alloc (.cells (aR r) 32)).alloc (.cells (aA (x, t)) 28)) (cR zR) 32
    rw [show (w.alloc (.cells (aR r) 32)).heap.size = w.heap.size + 1 by simp] at h3
    rw [show ((w.alloc (.cells (aR r) 32)).alloc (.cells (aA (x, t)) 28)).heap.size = w.heap.size + 1 + 1 by simp] at h4
    exact ⟨(h2.keep (below_alloc _ _)).keep (below_alloc _ _), h3.keep (below_alloc _ _), h4, by omega, by omega⟩
  have hmb : w.heap.size ≤ w.heap.size + 1 + 1 := by omega
  change Code.wp _ _ _ _ (((w.alloc (.cells (aR r) 32)).alloc (.cells (aA (x, t)) 28)).alloc (.cells (aR zR) 32))
  generalize (((w.alloc (.cells (aR r) 32)).alloc (.cells (aA (x, t)) 28)).alloc (.cells (aR zR) 32)) = W1 at HW hM ⊢
  obtain ⟨b3, hb3⟩ : ∃ b3, b3 = w.heap.size + 1 := ⟨_, rfl⟩
  obtain ⟨b4, hb4⟩ : ∃ b4, b4 = w.heap.size + 1 + 1 := ⟨_, rfl⟩
  obtain ⟨b2, hb2⟩ : ∃ b2, b2 = w.heap.size := ⟨_, rfl⟩
  rw [← hb4, ← hb3] at hM ⊢
  rw [← hb4] at hmb
  have hmw := Lib.hid (And.intro hmb (Nat.le_of_eq hb2.symm))
  have hM' : AddW r x t b2 b3 b4 W1 := by rw [hb2]; exact hM
  rw [← hb2]
  obtain ⟨m1, ⟨m2, m2'⟩, m3, ⟨m4, m4'⟩, ⟨m5, m5'⟩, m6, ⟨m7, m7'⟩, m8⟩ := hM'.facts
  have HM := Lib.hid (And.intro hM' HW)
  clear hM hM' hb2 hb3 hb4 hmb HW m7 m7'
  go_loopw [6] (fun i wr => ∃ k : Nat, k ≤ t.size ∧ i = .int .i64 k ∧ (∀ j, (hj : j < t.size) → j < k → ((t[j].toNat : Int) == 13) = false) ∧ W1 = wr) (fun i _ => t.size - (intOf i).toNat)
  case atStart => exact ⟨0, Nat.zero_le _, rfl, fun j _ h => by omega, rfl⟩
  case round =>
    obtain ⟨k, hk, rfl, hno, rfl⟩ := hrel
    have HN := Lib.hid hno
    clear hno
    by_cases hlt : k < t.size
    · have hlk : (k : Int) < (t.size : Int) := by omega
      obtain ⟨c, hc⟩ : ∃ c, ((t[k].toNat : Int) == 13) = c := ⟨_, rfl⟩
      have HC := Lib.hid hc
      cases c with
      | true =>
        go_wp2
        have hr := HM.out.1.ret w.heap.size w HM.out.2 hmw.out.1
        have e := HA.out true (crL_at t k hlt HC.out)
        rw [if_pos rfl] at e
        obtain ⟨rfl, rfl⟩ := Prod.mk.inj e
        exact bodyPost_ret (v := .tuple #[vR r, .int .i64 6]) (results_c2 (ad := ⟨b4, 0, none⟩) rfl rfl (load_R hr.1) rfl) rfl ⟨r, rfl, HX.out.1.keep hr.2, hr.2⟩
      | false =>
        go_wp2
        go_roundw
        case rel =>
          refine ⟨k + 1, hlt, by go_num, fun j hj hjk => ?_, trivial⟩
          by_cases e : j = k
          · subst e; exact HC.out
          · exact HN.out j hj (by omega)
        case measure => simp [intOf] <;> omega
    · have hkn : k = t.size := by omega
      subst hkn
      have hcr := crL_none t fun j hj => HN.out j hj hj
      have e := HA.out false hcr
      rw [if_neg (by decide)] at e
      have HA2 := Lib.hid e
      clear e hcr HN HA
      obtain ⟨st, hst⟩ : ∃ st, s.state = st := ⟨_, rfl⟩
      obtain ⟨⟨A, n, c⟩, hrw⟩ : ∃ v, r.w = v := ⟨_, rfl⟩
      have hsl := HX.out.1.ws
      rw [hrw] at hsl m3
      obtain ⟨hsl1, hsl2, hsl3, _⟩ := hsl
      simp only at hsl1 hsl2 hsl3
      have HRW := Lib.hid hrw
      have hm3 := m3
      have hnb : n ≤ 100000 := by omega
      have HSL := Lib.hid (And.intro hsl1 (And.intro (hsl3.keep HM.out.2) hsl2))
      have hlt3 := HM.out.1.r3.lt
      have HM2 := Lib.hid (And.intro hm3 (And.intro m5 (And.intro m5' hlt3)))
      rw [HX.out.1.st, hst] at m1
      rw [HX.out.1.cur] at m2'
      have HS : Hid (hasS s x = ((decide (st ≠ 0) && decide (s.cur.1 = x)) || hasL x s.wait)) := Lib.hid (by rw [← hst]; rfl)
      clear hrw hsl1 hsl2 hsl3 hm3 hst
      by_cases h0 : st = 0
      · have HKN : Hid ((false || hasL x s.wait) = hasS s x) := Lib.hid (by rw [HS.out, h0]; rfl)
        subst h0
        go_wp2
        go_loopw [7, 8] (fun v i wr => ∃ k : Nat, k ≤ n ∧ i = .int .i64 k ∧ v = .bool (false || hasL x (s.wait.take k)) ∧ Below W1.heap.size W1 wr) (fun _ i _ => n - (intOf i).toNat)
        case atStart => exact ⟨0, Nat.zero_le _, rfl, by simp [hasL], Below.refl _ _⟩
        case round =>
          obtain ⟨k, hk, rfl, rfl, hb⟩ := hrel
          have r3 := cell_below HM2.out.1 hb
          have r5 := okA_below HM2.out.2.1 HM2.out.2.2.2 hb
          rw [HM2.out.2.2.1] at r5
          obtain ⟨r5, r5'⟩ := r5
          by_cases hlt : k < n
          · obtain ⟨ad, rfl, hok, hrd⟩ := Sl.artId (HSL.out.2.1.keep hb) (show k < s.wait.length by rw [HSL.out.1]; exact hlt)
            have HT := Lib.hid (hasL_take x s.wait k (by rw [HSL.out.1]; exact hlt))
            have hlk : (k : Int) < (n : Int) := by omega
            generalize (s.wait[k]'(by rw [HSL.out.1]; exact hlt)).1 = y at hok hrd HT
            have HB2 := Lib.hid hb
            clear hb
            obtain ⟨kb, hkb⟩ : ∃ kb, (false || hasL x (s.wait.take k)) = kb := ⟨_, rfl⟩
            rw [hkb]
            have HK := Lib.hid hkb
            clear hkb
            cases kb with
            | true =>
              go_wp2
              go_quiet (fail)
              go_wp2
              go_roundw
              case rel => exact ⟨k + 1, hlt, by go_num, by rw [HT.out, ← Bool.or_assoc, HK.out, Bool.true_or], Below.step HB2.out (below_drewN _ _)⟩
              case measure => simp [intOf] <;> omega
            | false =>
              go_wp2
              go_quiet (fail)
              go_wp2
              go_roundw
              case rel => exact ⟨k + 1, hlt, by go_num, by rw [HT.out, ← Bool.or_assoc, HK.out, Bool.false_or], Below.step HB2.out (below_drewN _ _)⟩
              case measure => simp [intOf] <;> omega
          · have hkn2 : k = n := by omega
            subst hkn2
            have HB2 := Lib.hid hb
            have HMw := HM.out.1.keep hb
            have HMb := Below.step HM.out.2 hb
            rw [List.take_of_length_le (by rw [HSL.out.1]; exact Nat.le_refl _), HKN.out]
            obtain ⟨_, _, q3, ⟨q4, q4'⟩, _, _, ⟨q7, q7'⟩, q8⟩ := HMw.facts
            rw [HRW.out] at q3
            have HP := Lib.hid (And.intro q3 (And.intro q7 (And.intro q7' (And.intro HMw.r3.lt HMw))))
            have HMM := Lib.hid (And.intro HMw HMb)
            clear hb HMw HMb q7 q7'
            have hA3 := HA2.out
            obtain ⟨hs, hhs⟩ : ∃ hs, hasS s x = hs := ⟨_, rfl⟩
            rw [hhs] at hA3 ⊢
            have HA4 := Lib.hid hA3
            clear hA3
            cases hs with
            | true =>
              have e := HA4.out
              rw [if_pos rfl] at e
              obtain ⟨rfl, rfl⟩ := Prod.mk.inj e
              clear e HA4
              go_wp2
              have hr := HMM.out.1.ret w.heap.size w HMM.out.2 hmw.out.1
              exact bodyPost_ret (v := .tuple #[vR r, .int .i64 7]) (results_c2 (ad := ⟨b4, 0, none⟩) rfl rfl (load_R hr.1) rfl) rfl ⟨r, rfl, HX.out.1.keep hr.2, hr.2⟩
            | false =>
              by_cases hlim : 1024 ≤ s.wait.length
              · have hlim2 : (1024 : Int) ≤ (k : Int) := by have := HSL.out.1; omega
                have e := HA4.out
                rw [if_neg (by decide), if_pos hlim] at e
                obtain ⟨rfl, rfl⟩ := Prod.mk.inj e
                clear e HA4
                go_wp2
                have hr := HMM.out.1.ret w.heap.size w HMM.out.2 hmw.out.1
                exact bodyPost_ret (v := .tuple #[vR r, .int .i64 9]) (results_c2 (ad := ⟨b4, 0, none⟩) rfl rfl (load_R hr.1) rfl) rfl ⟨r, rfl, HX.out.1.keep hr.2, hr.2⟩
              · have hlim2 : (k : Int) < 1024 := by have := HSL.out.1; omega
                have e := HA4.out
                rw [if_neg (by decide), if_neg hlim] at e
                obtain ⟨rfl, rfl⟩ := Prod.mk.inj e
                clear e HA4
                go_wp2
                refine AnyO.wp_any_tail 6 (by kernel_rfl) (by kernel_rfl) (by kernel_rfl) (by kernel_rfl) (by kernel_rfl) (by kernel_rfl) (pstP [isOwn0G (α := Art) wr.heap.size 28 33 cA, isV (.pointer (some ⟨b2, 36, none⟩)), isV (.slice A k c), isOwnG wr.heap.size 28 33 cA s.wait, isV (vA (x, t)), isOne cA (x, t)]) (MonoL.cons (Mono.own0G _ _ _ _) (MonoL.cons (Mono.v _) (MonoL.cons (Mono.v _) (MonoL.cons (Mono.ownG _ _ _ _ _) (MonoL.cons (Mono.v _) (MonoL.cons (Mono.one _ _) MonoL.nil)))))) ?_ ?_
                · intro i hi
                  have hi2 : i = 0 ∨ i = 1 ∨ i = 2 ∨ i = 3 ∨ i = 4 ∨ i = 5 := by omega
                  clear hi
                  rcases hi2 with rfl | rfl | rfl | rfl | rfl | rfl
                  · -- 0: Op.buildSlice 29 0 #[]
                    refine AnyO.Step.mk rfl [] (by kernel_rfl) ?_
                    intro vs u hE hp ac hb K hK
                    rw [if_pos (AnyO.wanted_none rfl)]
                    clear hb hp
                    go_simp
                    exact hK _ _ (below_alloc _ _) ⟨_, rfl, Own.new0 u wr.heap.size 28 33 cA cA_length hE.size⟩
                  · -- 1: Op.fieldAddr 32 (Operand.tmp 2) 4
                    refine AnyO.Step.mk rfl [] (by kernel_rfl) ?_
                    intro vs u hE hp ac hb K hK
                    have s2 : ac.tmps[2]?.getD undef = .pointer (some ⟨b2, 0, none⟩) := by rw [hb]; kernel_rfl
                    rw [if_pos (AnyO.wanted_none rfl)]
                    clear hb hp
                    go_simp
                    exact hK _ _ (Below.refl _ _) rfl
                  · -- 2: Op.load 29 (Operand.tmp 75)
                    refine AnyO.Step.mk rfl [1] (by kernel_rfl) ?_
                    intro vs u hE hp ac hb K hK
                    have s75 : ac.tmps[75]?.getD undef = .pointer (some ⟨b2, 36, none⟩) := by rw [hb]; exact (show _ = vs 1 by kernel_rfl).trans (hp 1 (by decide))
                    rw [if_pos (AnyO.wanted_none rfl)]
                    clear hb hp
                    have rr := cell_below HP.out.1 (Below.step (below_drew _) hE)
                    go_simp
                    exact hK _ _ (Below.refl _ _) rfl
                  · -- 3: Op.call { callee := Callee.builtin Builtin.append, args := #
                    refine AnyO.Step.mk rfl [0, 2] (by kernel_rfl) ?_
                    intro vs u hE hp ac hb K hK
                    obtain ⟨g74, e74, h74⟩ := hp 0 (by decide)
                    have s74 : ac.tmps[74]?.getD undef = .slice (some ⟨g74, 0, none⟩) 0 0 := by rw [hb]; exact (show _ = vs 0 by kernel_rfl).trans e74
                    clear e74
                    have s76 : ac.tmps[76]?.getD undef = .slice A k c := by rw [hb]; exact (show _ = vs 2 by kernel_rfl).trans (hp 2 (by decide))
                    rw [if_pos (AnyO.wanted_none rfl)]
                    clear hb hp
                    refine wp_append_fresh u (.tmp 74) (.tmp 76) 29 rfl wr.heap.size 28 33 48 cA Tryd.underlying29 row28 (by decide) cA_length g74 (ev_tmp s74) h74 A k c s.wait HSL.out.1 (ev_tmp s76) ((HSL.out.2.1.keep HB2.out).keep (Below.step (below_drew _) hE)) (by have := HSL.out.1; omega) (by have := HSL.out.1; omega) hE.size ?_
                    exact fun v w2 h1 h2 => hK _ _ h2 h1
                  · -- 4: Op.load 28 (Operand.tmp 3)
                    refine AnyO.Step.mk rfl [] (by kernel_rfl) ?_
                    intro vs u hE hp ac hb K hK
                    have s3 : ac.tmps[3]?.getD undef = .pointer (some ⟨b3, 0, none⟩) := by rw [hb]; kernel_rfl
                    rw [if_pos (AnyO.wanted_none rfl)]
                    clear hb hp
                    have rr := okA_below HP.out.2.1 HP.out.2.2.2.1 (Below.step (below_drew _) hE)
                    rw [HP.out.2.2.1] at rr
                    obtain ⟨rr1, rr2⟩ := rr
                    go_simp
                    exact hK _ _ (Below.refl _ _) rfl
                  · -- 5: Op.buildSlice 29 1 #[(0, Operand.tmp 78)]
                    refine AnyO.Step.mk rfl [4] (by kernel_rfl) ?_
                    intro vs u hE hp ac hb K hK
                    have s78 : ac.tmps[78]?.getD undef = vA (x, t) := by rw [hb]; exact (show _ = vs 4 by kernel_rfl).trans (hp 4 (by decide))
                    rw [if_pos (AnyO.wanted_none rfl)]
                    clear hb hp
                    go_simp
                    exact hK _ _ (below_alloc _ _) (isOne.A u _ _)
                · intro vs u hE hp
                  obtain ⟨g_0, e0, h_0⟩ := show isOwn0G (α := Art) wr.heap.size 28 33 cA (vs 0) u from hp 0 (by decide)
                  have e1 : vs 1 = .pointer (some ⟨b2, 36, none⟩) := hp 1 (by decide)
                  have e2 : vs 2 = .slice A k c := hp 2 (by decide)
                  have f3 : isOwnG wr.heap.size 28 33 cA s.wait (vs 3) u := hp 3 (by decide)
                  have e4 : vs 4 = vA (x, t) := hp 4 (by decide)
                  obtain ⟨g_5, e5, h_5⟩ := show isOne cA (x, t) (vs 5) u from hp 5 (by decide)
                  clear hp
                  have HF := Lib.hid (And.intro f3 (And.intro h_5 hE))
                  clear f3 h_5 hE
                  rw [puts_range [some 74, some 75, some 76, some 77, some 78, some 79] (by kernel_rfl)]
                  simp only [putL, Nat.reduceAdd, List.drop_succ_cons, List.drop_zero, e0, e1, e2, e4, e5]
                  clear e0 e1 e2 e4 e5
                  go_simp
                  go_wp2_with (at_builtin; refine wpList_append_sl u rfl (.tmp 77) (.tmp 79) 29 rfl wr.heap.size 28 33 48 cA Tryd.underlying29 row28 (by decide) cA_length cA_one (vs 3) s.wait rfl HF.out.1 (some ⟨g_5, 0, none⟩) 1 1 [(x, t)] rfl rfl HF.out.2.1 (by have := HSL.out.1; omega) (by have := HSL.out.1; omega) HF.out.2.2.size ?_)
                  intro v2 w2 ho hg
                  have hb2 := Own.grew HF.out.1 hg HF.out.2.2 (Nat.le_refl _) HF.out.2.2.size
                  obtain ⟨A2, n2, c2, rfl⟩ : ∃ A2 n2 c2, v2 = .slice A2 n2 c2 := by obtain ⟨A2, c2, e, _⟩ := ho.sl; exact ⟨A2, _, c2, e⟩
                  have hw2 := HP.out.2.2.2.2.keep hb2
                  have r36 := (hw2.r2.cell 36).trans (cR_hi r 1)
                  have f36 := hw2.r2.fz 36
                  have hset := hw2.r2.set 36 (.slice A2 n2 c2)
                  rw [cR_setw] at hset
                  have hres2 := hw2.r4.same (heap_set_other w2 b2 36 (.slice A2 n2 c2) b4 (by have := hw2.n23; have := hw2.n34; omega))
                  obtain ⟨q1, q1'⟩ := (row_R hset).2.2.2.2.2.2.2.2.1
                  have q2 := hres2.rok (cR_length zR)
                  have hsb := HMM.out.2.trans (hb2.mono HMM.out.2.size)
                  have hs9 := Below.setCell' hsb hmw.out.2 36 (.slice A2 n2 c2)
                  have hq9 : ∀ j, j ≠ b2 → (w2.setCell ⟨b2, 36, none⟩ (.slice A2 n2 c2)).heap[j]? = w2.heap[j]? := fun j hj => heap_set_other w2 b2 36 _ j hj
                  have HZ := Lib.hid (And.intro ho (And.intro hs9 (And.intro hset (And.intro hres2 hq9))))
                  clear ho hg hb2 hw2 hset hres2 hsb hs9 hq9
                  go_wp2
                  generalize w2.setCell ⟨b2, 36, none⟩ (.slice A2 n2 c2) = W9 at q1 q1' q2 HZ
                  have hf := Below.setRow' HZ.out.2.1 hmw.out.1 (aR { r with w := (A2, n2, c2) })
                  have hX := HX.out.1.keep hf
                  have ho2 := HZ.out.1
                  have hl2 := HMM.out.1.r2.lt
                  have hl4 := HMM.out.1.r4.lt
                  have ho3 := Own.same (w' := W9.setRow b4 (aR { r with w := (A2, n2, c2) })) ho2 fun j e => (heap_setRow_other W9 b4 j _ (by have := (ho2.lt j e).1; omega)).trans (HZ.out.2.2.2.2 j (by have := (ho2.lt j e).1; omega))
                  exact bodyPost_ret (v := .tuple #[vR { r with w := (A2, n2, c2) }, .int .i64 0]) (results_c2 (ad := ⟨b4, 0, none⟩) rfl rfl (load_R HZ.out.2.2.2.1.setRow) rfl) rfl ⟨_, rfl, ⟨hX.ch, hX.st, hX.cur, hX.at_, SlF.own ho3 (fun j hj => Nat.lt_of_lt_of_le (HX.out.2.1 j hj) HMM.out.2.size), hX.os⟩, hf⟩
      · have h0' : (st != 0) = true := by simpa using h0
        have HS2 : Hid (hasS s x = (decide (s.cur.1 = x) || hasL x s.wait)) := Lib.hid (by rw [HS.out, decide_eq_true h0]; rfl)
        obtain ⟨ci, hci⟩ : ∃ ci, decide (s.cur.1 = x) = ci := ⟨_, rfl⟩
        have HKN : Hid ((ci || hasL x s.wait) = hasS s x) := Lib.hid (by rw [HS2.out, hci])
        go_wp2
        go_loopw [7, 8] (fun v i wr => ∃ k : Nat, k ≤ n ∧ i = .int .i64 k ∧ v = .bool (ci || hasL x (s.wait.take k)) ∧ Below W1.heap.size W1 wr) (fun _ i _ => n - (intOf i).toNat)
        case atStart => exact ⟨0, Nat.zero_le _, rfl, by simp [hasL], Below.refl _ _⟩
        case round =>
          obtain ⟨k, hk, rfl, rfl, hb⟩ := hrel
          have r3 := cell_below HM2.out.1 hb
          have r5 := okA_below HM2.out.2.1 HM2.out.2.2.2 hb
          rw [HM2.out.2.2.1] at r5
          obtain ⟨r5, r5'⟩ := r5
          by_cases hlt : k < n
          · obtain ⟨ad, rfl, hok, hrd⟩ := Sl.artId (HSL.out.2.1.keep hb) (show k < s.wait.length by rw [HSL.out.1]; exact hlt)
            have HT := Lib.hid (hasL_take x s.wait k (by rw [HSL.out.1]; exact hlt))
            have hlk : (k : Int) < (n : Int) := by omega
            generalize (s.wait[k]'(by rw [HSL.out.1]; exact hlt)).1 = y at hok hrd HT
            have HB2 := Lib.hid hb
            clear hb
            obtain ⟨kb, hkb⟩ : ∃ kb, (ci || hasL x (s.wait.take k)) = kb := ⟨_, rfl⟩
            rw [hkb]
            have HK := Lib.hid hkb
            clear hkb
            cases kb with
            | true =>
              go_wp2
              go_quiet (fail)
              go_wp2
              go_roundw
              case rel => exact ⟨k + 1, hlt, by go_num, by rw [HT.out, ← Bool.or_assoc, HK.out, Bool.true_or], Below.step HB2.out (below_drewN _ _)⟩
              case measure => simp [intOf] <;> omega
            | false =>
              go_wp2
              go_quiet (fail)
              go_wp2
              go_roundw
              case rel => exact ⟨k + 1, hlt, by go_num, by rw [HT.out, ← Bool.or_assoc, HK.out, Bool.false_or], Below.step HB2.out (below_drewN _ _)⟩
              case measure => simp [intOf] <;> omega
          · have hkn2 : k = n := by omega
            subst hkn2
            have HB2 := Lib.hid hb
            have HMw := HM.out.1.keep hb
            have HMb := Below.step HM.out.2 hb
            rw [List.take_of_length_le (by rw [HSL.out.1]; exact Nat.le_refl _), HKN.out]
            obtain ⟨_, _, q3, ⟨q4, q4'⟩, _, _, ⟨q7, q7'⟩, q8⟩ := HMw.facts
            rw [HRW.out] at q3
            have HP := Lib.hid (And.intro q3 (And.intro q7 (And.intro q7' (And.intro HMw.r3.lt HMw))))
            have HMM := Lib.hid (And.intro HMw HMb)
            clear hb HMw HMb q7 q7'
            have hA3 := HA2.out
            obtain ⟨hs, hhs⟩ : ∃ hs, hasS s x = hs := ⟨_, rfl⟩
            rw [hhs] at hA3 ⊢
            have HA4 := Lib.hid hA3
            clear hA3
            cases hs with
            | true =>
              have e := HA4.out
              rw [if_pos rfl] at e
              obtain ⟨rfl, rfl⟩ := Prod.mk.inj e
              clear e HA4
              go_wp2
              have hr := HMM.out.1.ret w.heap.size w HMM.out.2 hmw.out.1
              exact bodyPost_ret (v := .tuple #[vR r, .int .i64 7]) (results_c2 (ad := ⟨b4, 0, none⟩) rfl rfl (load_R hr.1) rfl) rfl ⟨r, rfl, HX.out.1.keep hr.2, hr.2⟩
            | false =>
              by_cases hlim : 1024 ≤ s.wait.length
              · have hlim2 : (1024 : Int) ≤ (k : Int) := by have := HSL.out.1; omega
                have e := HA4.out
                rw [if_neg (by decide), if_pos hlim] at e
                obtain ⟨rfl, rfl⟩ := Prod.mk.inj e
                clear e HA4
                go_wp2
                have hr := HMM.out.1.ret w.heap.size w HMM.out.2 hmw.out.1
                exact bodyPost_ret (v := .tuple #[vR r, .int .i64 9]) (results_c2 (ad := ⟨b4, 0, none⟩) rfl rfl (load_R hr.1) rfl) rfl ⟨r, rfl, HX.out.1.keep hr.2, hr.2⟩
              · have hlim2 : (k : Int) < 1024 := by have := HSL.out.1; omega
                have e := HA4.out
                rw [if_neg (by decide), if_neg hlim] at e
                obtain ⟨rfl, rfl⟩ := Prod.mk.inj e
                clear e HA4
                go_wp2
                refine AnyO.wp_any_tail 6 (by kernel_rfl) (by kernel_rfl) (by kernel_rfl) (by kernel_rfl) (by kernel_rfl) (by kernel_rfl) (pstP [isOwn0G (α := Art) wr.heap.size 28 33 cA, isV (.pointer (some ⟨b2, 36, none⟩)), isV (.slice A k c), isOwnG wr.heap.size 28 33 cA s.wait, isV (vA (x, t)), isOne cA (x, t)]) (MonoL.cons (Mono.own0G _ _ _ _) (MonoL.cons (Mono.v _) (MonoL.cons (Mono.v _) (MonoL.cons (Mono.ownG _ _ _ _ _) (MonoL.cons (Mono.v _) (MonoL.cons (Mono.one _ _) MonoL.nil)))))) ?_ ?_
                · intro i hi
                  have hi2 : i = 0 ∨ i = 1 ∨ i = 2 ∨ i = 3 ∨ i = 4 ∨ i = 5 := by omega
                  clear hi
                  rcases hi2 with rfl | rfl | rfl | rfl | rfl | rfl
                  · -- 0: Op.buildSlice 29 0 #[]
                    refine AnyO.Step.mk rfl [] (by kernel_rfl) ?_
                    intro vs u hE hp ac hb K hK
                    rw [if_pos (AnyO.wanted_none rfl)]
                    clear hb hp
                    go_simp
                    exact hK _ _ (below_alloc _ _) ⟨_, rfl, Own.new0 u wr.heap.size 28 33 cA cA_length hE.size⟩
                  · -- 1: Op.fieldAddr 32 (Operand.tmp 2) 4
                    refine AnyO.Step.mk rfl [] (by kernel_rfl) ?_
                    intro vs u hE hp ac hb K hK
                    have s2 : ac.tmps[2]?.getD undef = .pointer (some ⟨b2, 0, none⟩) := by rw [hb]; kernel_rfl
                    rw [if_pos (AnyO.wanted_none rfl)]
                    clear hb hp
                    go_simp
                    exact hK _ _ (Below.refl _ _) rfl
                  · -- 2: Op.load 29 (Operand.tmp 75)
                    refine AnyO.Step.mk rfl [1] (by kernel_rfl) ?_
                    intro vs u hE hp ac hb K hK
                    have s75 : ac.tmps[75]?.getD undef = .pointer (some ⟨b2, 36, none⟩) := by rw [hb]; exact (show _ = vs 1 by kernel_rfl).trans (hp 1 (by decide))
                    rw [if_pos (AnyO.wanted_none rfl)]
                    clear hb hp
                    have rr := cell_below HP.out.1 (Below.step (below_drew _) hE)
                    go_simp
                    exact hK _ _ (Below.refl _ _) rfl
                  · -- 3: Op.call { callee := Callee.builtin Builtin.append, args := #
                    refine AnyO.Step.mk rfl [0, 2] (by kernel_rfl) ?_
                    intro vs u hE hp ac hb K hK
                    obtain ⟨g74, e74, h74⟩ := hp 0 (by decide)
                    have s74 : ac.tmps[74]?.getD undef = .slice (some ⟨g74, 0, none⟩) 0 0 := by rw [hb]; exact (show _ = vs 0 by kernel_rfl).trans e74
                    clear e74
                    have s76 : ac.tmps[76]?.getD undef = .slice A k c := by rw [hb]; exact (show _ = vs 2 by kernel_rfl).trans (hp 2 (by decide))
                    rw [if_pos (AnyO.wanted_none rfl)]
                    clear hb hp
                    refine wp_append_fresh u (.tmp 74) (.tmp 76) 29 rfl wr.heap.size 28 33 48 cA Tryd.underlying29 row28 (by decide) cA_length g74 (ev_tmp s74) h74 A k c s.wait HSL.out.1 (ev_tmp s76) ((HSL.out.2.1.keep HB2.out).keep (Below.step (below_drew _) hE)) (by have := HSL.out.1; omega) (by have := HSL.out.1; omega) hE.size ?_
                    exact fun v w2 h1 h2 => hK _ _ h2 h1
                  · -- 4: Op.load 28 (Operand.tmp 3)
                    refine AnyO.Step.mk rfl [] (by kernel_rfl) ?_
                    intro vs u hE hp ac hb K hK
                    have s3 : ac.tmps[3]?.getD undef = .pointer (some ⟨b3, 0, none⟩) := by rw [hb]; kernel_rfl
                    rw [if_pos (AnyO.wanted_none rfl)]
                    clear hb hp
                    have rr := okA_below HP.out.2.1 HP.out.2.2.2.1 (Below.step (below_drew _) hE)
                    rw [HP.out.2.2.1] at rr
                    obtain ⟨rr1, rr2⟩ := rr
                    go_simp
                    exact hK _ _ (Below.refl _ _) rfl
                  · -- 5: Op.buildSlice 29 1 #[(0, Operand.tmp 78)]
                    refine AnyO.Step.mk rfl [4] (by kernel_rfl) ?_
                    intro vs u hE hp ac hb K hK
                    have s78 : ac.tmps[78]?.getD undef = vA (x, t) := by rw [hb]; exact (show _ = vs 4 by kernel_rfl).trans (hp 4 (by decide))
                    rw [if_pos (AnyO.wanted_none rfl)]
                    clear hb hp
                    go_simp
                    exact hK _ _ (below_alloc _ _) (isOne.A u _ _)
                · intro vs u hE hp
                  obtain ⟨g_0, e0, h_0⟩ := show isOwn0G (α := Art) wr.heap.size 28 33 cA (vs 0) u from hp 0 (by decide)
                  have e1 : vs 1 = .pointer (some ⟨b2, 36, none⟩) := hp 1 (by decide)
                  have e2 : vs 2 = .slice A k c := hp 2 (by decide)
                  have f3 : isOwnG wr.heap.size 28 33 cA s.wait (vs 3) u := hp 3 (by decide)
                  have e4 : vs 4 = vA (x, t) := hp 4 (by decide)
                  obtain ⟨g_5, e5, h_5⟩ := show isOne cA (x, t) (vs 5) u from hp 5 (by decide)
                  clear hp
                  have HF := Lib.hid (And.intro f3 (And.intro h_5 hE))
                  clear f3 h_5 hE
                  rw [puts_range [some 74, some 75, some 76, some 77, some 78, some 79] (by kernel_rfl)]
                  simp only [putL, Nat.reduceAdd, List.drop_succ_cons, List.drop_zero, e0, e1, e2, e4, e5]
                  clear e0 e1 e2 e4 e5
                  go_simp
                  go_wp2_with (at_builtin; refine wpList_append_sl u rfl (.tmp 77) (.tmp 79) 29 rfl wr.heap.size 28 33 48 cA Tryd.underlying29 row28 (by decide) cA_length cA_one (vs 3) s.wait rfl HF.out.1 (some ⟨g_5, 0, none⟩) 1 1 [(x, t)] rfl rfl HF.out.2.1 (by have := HSL.out.1; omega) (by have := HSL.out.1; omega) HF.out.2.2.size ?_)
                  intro v2 w2 ho hg
                  have hb2 := Own.grew HF.out.1 hg HF.out.2.2 (Nat.le_refl _) HF.out.2.2.size
                  obtain ⟨A2, n2, c2, rfl⟩ : ∃ A2 n2 c2, v2 = .slice A2 n2 c2 := by obtain ⟨A2, c2, e, _⟩ := ho.sl; exact ⟨A2, _, c2, e⟩
                  have hw2 := HP.out.2.2.2.2.keep hb2
                  have r36 := (hw2.r2.cell 36).trans (cR_hi r 1)
                  have f36 := hw2.r2.fz 36
                  have hset := hw2.r2.set 36 (.slice A2 n2 c2)
                  rw [cR_setw] at hset
                  have hres2 := hw2.r4.same (heap_set_other w2 b2 36 (.slice A2 n2 c2) b4 (by have := hw2.n23; have := hw2.n34; omega))
                  obtain ⟨q1, q1'⟩ := (row_R hset).2.2.2.2.2.2.2.2.1
                  have q2 := hres2.rok (cR_length zR)
                  have hsb := HMM.out.2.trans (hb2.mono HMM.out.2.size)
                  have hs9 := Below.setCell' hsb hmw.out.2 36 (.slice A2 n2 c2)
                  have hq9 : ∀ j, j ≠ b2 → (w2.setCell ⟨b2, 36, none⟩ (.slice A2 n2 c2)).heap[j]? = w2.heap[j]? := fun j hj => heap_set_other w2 b2 36 _ j hj
                  have HZ := Lib.hid (And.intro ho (And.intro hs9 (And.intro hset (And.intro hres2 hq9))))
                  clear ho hg hb2 hw2 hset hres2 hsb hs9 hq9
                  go_wp2
                  generalize w2.setCell ⟨b2, 36, none⟩ (.slice A2 n2 c2) = W9 at q1 q1' q2 HZ
                  have hf := Below.setRow' HZ.out.2.1 hmw.out.1 (aR { r with w := (A2, n2, c2) })
                  have hX := HX.out.1.keep hf
                  have ho2 := HZ.out.1
                  have hl2 := HMM.out.1.r2.lt
                  have hl4 := HMM.out.1.r4.lt
                  have ho3 := Own.same (w' := W9.setRow b4 (aR { r with w := (A2, n2, c2) })) ho2 fun j e => (heap_setRow_other W9 b4 j _ (by have := (ho2.lt j e).1; omega)).trans (HZ.out.2.2.2.2 j (by have := (ho2.lt j e).1; omega))
                  exact bodyPost_ret (v := .tuple #[vR { r with w := (A2, n2, c2) }, .int .i64 0]) (results_c2 (ad := ⟨b4, 0, none⟩) rfl rfl (load_R HZ.out.2.2.2.1.setRow) rfl) rfl ⟨_, rfl, ⟨hX.ch, hX.st, hX.cur, hX.at_, SlF.own ho3 (fun j hj => Nat.lt_of_lt_of_le (HX.out.2.1 j hj) HMM.out.2.size), hX.os⟩, hf⟩
/-- Add of the reference. -/
theorem refAdd14 (F : List Nat) (ch : Int) (s : St) (r : Rs) (x : Id) (t : ByteArray) (w : World) (h : RefAt F ch s r w) (hF : ∀ k ∈ F, k < w.heap.size) (hm : s.wait.length ≤ 100000) :
    Calls Tryd.prog 14 #[vR r, vA (x, t)] w (RefP F ch (addS s x t).1 (addS s x t).2 w) := by
  by_cases hx : x = zI
  · have e : addS s x t = (s, 1) := by unfold addS; rw [if_pos (Or.inl hx)]
    rw [e]
    exact refadd_zero F ch s r x t w h hF hm hx
  · cases ht : t.toList.isEmpty with
    | true =>
      have e : addS s x t = (s, 1) := by unfold addS; rw [if_pos (Or.inr ht)]
      rw [e]
      exact refadd_empty F ch s r x t w h hF hm hx ht
    | false =>
      by_cases hl : 65536 < t.size
      · have e : addS s x t = (s, 5) := by unfold addS; rw [if_neg (by rw [ht]; simp [hx]), if_pos hl]
        rw [e]
        exact refadd_long F ch s r x t w h hF hm hx ht (by omega)
      · exact refadd_main F ch s r x t w h hF hm hx ht (by omega) _ _ rfl
end Go.Proofs.YtlelecnafdddhaaDoor
