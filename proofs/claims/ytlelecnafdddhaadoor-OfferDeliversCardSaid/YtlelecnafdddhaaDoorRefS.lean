/- The reference's Say. -/
import Derived.Test.YtlelecnafdddhaaDoorInvR
import Derived.Test.YtlelecnafdddhaaDoorAnyI
namespace Go.Proofs.YtlelecnafdddhaaDoor
open Go.RowKit
theorem results_cct {P : Program} {fn : Func} {tmps : Array Value} {w : World} {a b p : Tmp} {t t2 : TypeId} {ad ad2 : Addr} {v v2 x : Value} (hres : fn.results = #[.cell a t, .cell b t2, .tmp p]) (h1 : tmps[a]?.getD undef = .pointer (some ad)) (h2 : (loadVar t ad).run P w = .ok v w)
    (h3 : tmps[b]?.getD undef = .pointer (some ad2)) (h4 : (loadVar t2 ad2).run P w = .ok v2 w) (h5 : tmps[p]?.getD undef = x) :
    (results fn tmps).run P w = .ok (.tuple #[v, v2, x]) w := by
  simp [results, hres, h1, h2, h3, h4, h5, asAddr]
theorem AnyO.InvS.below {PV : Nat → Value → Prop} {w0 w1 : World} {S : List AnyO.Sto} {D : Nat → Bool} {vs : Nat → Value} {u : World} {B : Nat} (h : AnyO.InvS PV w1 S D vs u) (hb : ∀ x ∈ S, B ≤ x.2.1) (hs : B ≤ w1.heap.size) (h0 : Below B w0 w1) : Below B w0 u := by
  obtain ⟨_, ⟨h1, h2, h3, h4⟩, h5, _⟩ := h
  exact ⟨h1.trans h0.os, h2.trans h0.tape, h3.trans h0.output, Nat.le_trans h0.size h4, fun k hk => (h5 k (Nat.lt_of_lt_of_le hk hs) (fun x hx e => by have := hb x hx; omega)).trans (h0.block k hk)⟩
def RSayP (F : List Nat) (ch : Int) (s' : St) (c : Rc) (b : Bool) (w : World) : Ending → World → Prop := fun e w' => ∃ r', e = .returned (.tuple #[vR r', vK c, .bool b]) ∧ RefAt F ch s' r' w' ∧ Below w.heap.size w w'
set_option maxRecDepth 100000 in
set_option maxHeartbeats 3200000 in
theorem refSay23_none (F : List Nat) (ch : Int) (s : St) (r : Rs) (w : World) (h : RefAt F ch s r w) (hst : s.state ≠ 2) (hw : s.state = 0 → s.wait = []) : Calls Tryd.prog 23 #[vR r] w (RSayP F ch s zK false w) := by
  obtain ⟨rst, hrst⟩ : ∃ rst, r.st = rst := ⟨_, rfl⟩
  have hs : rst = s.state := hrst.symm.trans h.st
  rw [← hs] at hst hw
  obtain ⟨A, n, c, hws⟩ : ∃ A n c, r.w = (A, n, c) := ⟨_, _, _, rfl⟩
  have hwn : rst = 0 → (n : Int) = 0 := fun e => by
    have := h.ws.1
    rw [hws, hw e] at this
    have h3 : 0 = n := this
    omega
  have HX := Lib.hid h
  have HW3 : Below w.heap.size w (((w.alloc (.cells (aR r) 32)).alloc (.cells (aR zR) 32)).alloc (.cells (aK zK) 55)) := Below.step (Below.step (below_alloc w _) (below_alloc _ _)) (below_alloc _ _)
  have R1 : Row (((w.alloc (.cells (aR r) 32)).alloc (.cells (aR zR) 32)).alloc (.cells (aK zK) 55)) w.heap.size (cR r) 32 := ((Row.new w (cR r) 32).keep (below_alloc _ _)).keep (below_alloc _ _)
  have R2 : Row (((w.alloc (.cells (aR r) 32)).alloc (.cells (aR zR) 32)).alloc (.cells (aK zK) 55)) (w.heap.size + 1) (cR zR) 32 := by
    have h := (Row.new (w.alloc (.cells (aR r) 32)) (cR zR) 32).keep (below_alloc _ (.cells (aK zK) 55))
    rwa [show (w.alloc (.cells (aR r) 32)).heap.size = w.heap.size + 1 by simp] at h
  have R3 : Row (((w.alloc (.cells (aR r) 32)).alloc (.cells (aR zR) 32)).alloc (.cells (aK zK) 55)) (w.heap.size + 1 + 1) (cK zK) 55 := by
    have h := Row.new ((w.alloc (.cells (aR r) 32)).alloc (.cells (aR zR) 32)) (cK zK) 55
    rwa [show ((w.alloc (.cells (aR r) 32)).alloc (.cells (aR zR) 32)).heap.size = w.heap.size + 1 + 1 by simp] at h
  obtain ⟨W3, hW⟩ : ∃ W3, ((w.alloc (.cells (aR r) 32)).alloc (.cells (aR zR) 32)).alloc (.cells (aK zK) 55) = W3 := ⟨_, rfl⟩
  rw [hW] at HW3 R1 R2 R3
  obtain ⟨_, r1, _, _, _, _, r36, _, ⟨r38, r38'⟩, hlt⟩ := row_R R1
  rw [hrst] at r1
  rw [hws] at r36
  dsimp only at r36
  have j2 := R2.rok (cR_length zR)
  have R2' := (R2.setRow (ds := cR r))
  have R3' : Row (W3.setRow (w.heap.size + 1) (aR r)) (w.heap.size + 1 + 1) (cK zK) 55 := R3.same (heap_setRow_other W3 _ _ _ (by omega))
  have j3 := R3'.rok (cK_length zK)
  have HR := Lib.hid (And.intro HW3 (And.intro R2' R3'))
  clear h hs hrst hws hw R1 R2 R3 HW3 R2' R3'
  have fin : ∀ W : World, W = (W3.setRow (w.heap.size + 1) (aR r)).setRow (w.heap.size + 1 + 1) (aK zK) → Row W (w.heap.size + 1) (cR r) 32 ∧ Row W (w.heap.size + 1 + 1) (cK zK) 55 ∧ Below w.heap.size w W := fun W e => by
    rw [e]
    exact ⟨HR.out.2.1.same (heap_setRow_other _ _ _ _ (by omega)), HR.out.2.2.setRow, Below.setRow' (Below.setRow' HR.out.1 (by omega) _) (by omega) _⟩
  have HF := Lib.hid fin
  clear fin
  by_cases h0 : rst = 0
  · have hn1 : ¬ (n : Int) > 0 := by have := hwn h0; omega
    subst h0
    clear hwn hst
    go_enter Tryd.func23, Tryd.ntmps23
    go_wp2
    obtain ⟨q2, q3, hb⟩ := HF.out _ rfl
    exact bodyPost_ret (v := .tuple #[vR r, vK zK, .bool false]) (results_cct (ad := ⟨w.heap.size + 1, 0, none⟩) (ad2 := ⟨w.heap.size + 1 + 1, 0, none⟩) rfl rfl (load_R q2) rfl (load_K q3) rfl) rfl ⟨r, rfl, HX.out.keep hb, hb⟩
  · have g0 : (rst == 0) = false := by simpa using h0
    have g2 : (rst == 2) = false := by simpa using hst
    clear hwn hst h0
    go_enter Tryd.func23, Tryd.ntmps23
    go_wp2
    obtain ⟨q2, q3, hb⟩ := HF.out _ rfl
    exact bodyPost_ret (v := .tuple #[vR r, vK zK, .bool false]) (results_cct (ad := ⟨w.heap.size + 1, 0, none⟩) (ad2 := ⟨w.heap.size + 1 + 1, 0, none⟩) rfl rfl (load_R q2) rfl (load_K q3) rfl) rfl ⟨r, rfl, HX.out.keep hb, hb⟩
set_option maxRecDepth 100000 in
set_option maxHeartbeats 3200000 in
theorem refSay23_done (F : List Nat) (ch : Int) (s : St) (r : Rs) (w : World) (h : RefAt F ch s r w) (hst : s.state = 2) (hsn : s.snd = some ((s.cur.2.size : Int), false)) : Calls Tryd.prog 23 #[vR r] w (RSayP F ch { s with state := 3, snd := some ((s.cur.2.size : Int), true) } ⟨8, 0, 0, 0, s.cur.1, ⟨#[]⟩⟩ true w) := by
  have hrst : r.st = 2 := h.st.trans hst
  have hat : r.at_ = (s.cur.2.size : Int) := by rw [h.at_, hsn]; rfl
  have hcur := h.cur
  obtain ⟨⟨x, t⟩, hxt⟩ : ∃ a : Art, s.cur = a := ⟨_, rfl⟩
  rw [hxt] at hcur hat ⊢
  have HX := Lib.hid (And.intro h hxt)
  have HW3 : Below w.heap.size w (((w.alloc (.cells (aR r) 32)).alloc (.cells (aR zR) 32)).alloc (.cells (aK zK) 55)) := Below.step (Below.step (below_alloc w _) (below_alloc _ _)) (below_alloc _ _)
  have R1 : Row (((w.alloc (.cells (aR r) 32)).alloc (.cells (aR zR) 32)).alloc (.cells (aK zK) 55)) w.heap.size (cR r) 32 := ((Row.new w (cR r) 32).keep (below_alloc _ _)).keep (below_alloc _ _)
  have R2 : Row (((w.alloc (.cells (aR r) 32)).alloc (.cells (aR zR) 32)).alloc (.cells (aK zK) 55)) (w.heap.size + 1) (cR zR) 32 := by
    have h := (Row.new (w.alloc (.cells (aR r) 32)) (cR zR) 32).keep (below_alloc _ (.cells (aK zK) 55))
    rwa [show (w.alloc (.cells (aR r) 32)).heap.size = w.heap.size + 1 by simp] at h
  have R3 : Row (((w.alloc (.cells (aR r) 32)).alloc (.cells (aR zR) 32)).alloc (.cells (aK zK) 55)) (w.heap.size + 1 + 1) (cK zK) 55 := by
    have h := Row.new ((w.alloc (.cells (aR r) 32)).alloc (.cells (aR zR) 32)) (cK zK) 55
    rwa [show ((w.alloc (.cells (aR r) 32)).alloc (.cells (aR zR) 32)).heap.size = w.heap.size + 1 + 1 by simp] at h
  obtain ⟨W3, hW⟩ : ∃ W3, ((w.alloc (.cells (aR r) 32)).alloc (.cells (aR zR) 32)).alloc (.cells (aK zK) 55) = W3 := ⟨_, rfl⟩
  rw [hW] at HW3 R1 R2 R3
  obtain ⟨_, c1, c2, _, _, c35, _, _, _, hlt⟩ := row_R R1
  rw [hrst] at c1
  rw [hat] at c2
  rw [hcur] at c35
  dsimp only at c2 c35
  have f1 := R1.fz 1
  have R1' : Row (W3.setCell ⟨w.heap.size, 1, none⟩ (.int .i64 3)) w.heap.size (cR { r with st := 3 }) 32 := by rw [← cR_set1]; exact R1.set 1 _
  have ho : ∀ k, k ≠ w.heap.size → (W3.setCell ⟨w.heap.size, 1, none⟩ (.int .i64 3)).heap[k]? = W3.heap[k]? := fun k hk => heap_set_other W3 w.heap.size 1 _ k hk
  have hU : Below w.heap.size w (W3.setCell ⟨w.heap.size, 1, none⟩ (.int .i64 3)) := Below.setCell' HW3 (Nat.le_refl _) 1 _
  have HR := Lib.hid (And.intro R1' (And.intro (R2.same (ho (w.heap.size + 1) (by omega))) (And.intro (R3.same (ho (w.heap.size + 1 + 1) (by omega))) hU)))
  clear h hst hrst hsn hxt R1 R2 R3 HW3 R1' ho hU
  go_enter Tryd.func23, Tryd.ntmps23
  go_wp2
  generalize W3.setCell ⟨w.heap.size, 1, none⟩ (.int .i64 3) = U at HR ⊢
  clear c1 c2 c35 f1 hW hlt
  obtain ⟨r1, hr1⟩ : ∃ r1 : Rs, { r with st := 3 } = r1 := ⟨_, rfl⟩
  rw [hr1] at HR
  have HXI := Lib.hid (show r1.cur.1 = x by rw [← hr1]; exact congrArg Prod.fst hcur)
  obtain ⟨b3, hb3⟩ : ∃ b3, b3 = w.heap.size + 1 + 1 := ⟨_, rfl⟩
  obtain ⟨b2, hb2⟩ : ∃ b2, b2 = w.heap.size + 1 := ⟨_, rfl⟩
  have hB2 : w.heap.size < b2 := by omega
  have hB3 : b2 < b3 := by omega
  rw [← hb3, ← hb2] at HR ⊢
  clear hb2 hb3
  obtain ⟨S, hS⟩ : ∃ S : List AnyO.Sto, S = [(5, b2, 32, cR zR, cR r1), (6, b3, 55, cK zK, cK ⟨8, 0, 0, 0, x, ⟨#[]⟩⟩)] := ⟨_, rfl⟩
  have hm5 : ((5, b2, 32, cR zR, cR r1) : AnyO.Sto) ∈ S := by rw [hS]; simp
  have hm6 : ((6, b3, 55, cK zK, cK ⟨8, 0, 0, 0, x, ⟨#[]⟩⟩) : AnyO.Sto) ∈ S := by rw [hS]; simp
  have hst : ∀ x ∈ S, Row U x.2.1 x.2.2.2.1 x.2.2.1 := fun x hx => by rw [hS] at hx; simp only [List.mem_cons, List.not_mem_nil, or_false] at hx; rcases hx with rfl | rfl <;> first | exact HR.out.2.1 | exact HR.out.2.2.1
  have hbs : ∀ x ∈ S, w.heap.size ≤ x.2.1 := fun x hx => by rw [hS] at hx; simp only [List.mem_cons, List.not_mem_nil, or_false] at hx; rcases hx with rfl | rfl <;> (dsimp only; omega)
  have hne : ∀ i, i ≠ 5 ∧ i ≠ 6 → ∀ x ∈ S, x.1 ≠ i := fun i hi x hx => by rw [hS] at hx; simp only [List.mem_cons, List.not_mem_nil, or_false] at hx; rcases hx with rfl | rfl <;> (dsimp only; omega)
  have hd5 : ∀ y ∈ S, y ≠ (5, b2, 32, cR zR, cR r1) → y.2.1 ≠ b2 ∧ y.1 ≠ 5 := fun y hy hn => by rw [hS] at hy; simp only [List.mem_cons, List.not_mem_nil, or_false] at hy; rcases hy with rfl | rfl <;> first | exact absurd rfl hn | exact ⟨by dsimp only; omega, by dsimp only; omega⟩
  have hd6 : ∀ y ∈ S, y ≠ (6, b3, 55, cK zK, cK ⟨8, 0, 0, 0, x, ⟨#[]⟩⟩) → y.2.1 ≠ b3 ∧ y.1 ≠ 6 := fun y hy hn => by rw [hS] at hy; simp only [List.mem_cons, List.not_mem_nil, or_false] at hy; rcases hy with rfl | rfl <;> first | exact absurd rfl hn | exact ⟨by dsimp only; omega, by dsimp only; omega⟩
  have hr0 : ∀ x ∈ S, w.heap.size ≠ x.2.1 := fun x hx => by rw [hS] at hx; simp only [List.mem_cons, List.not_mem_nil, or_false] at hx; rcases hx with rfl | rfl <;> (dsimp only; omega)
  have Hm5 := Lib.hid hm5
  have Hm6 := Lib.hid hm6
  have Hd5 := Lib.hid hd5
  have Hd6 := Lib.hid hd6
  have Hne := Lib.hid hne
  have Hbs := Lib.hid hbs
  have Hst := Lib.hid hst
  have Hr0 := Lib.hid hr0
  clear hS hm5 hm6 hd5 hd6 hne hbs hst hr0
  refine AnyO.wp_anyI (by kernel_rfl) (by kernel_rfl) (AnyO.InvS (AnyO.pvL [some (vR r1), some (.pointer (some ⟨w.heap.size, 3, none⟩)), some (.pointer (some ⟨w.heap.size, 3, none⟩)), some (vI x), some (vK ⟨8, 0, 0, 0, x, ⟨#[]⟩⟩), none, none, some (Value.bool true)]) U S) (AnyO.InvS.start Hst.out) ?_ ?_
  · intro i hi
    have hi2 : i = 0 ∨ i = 1 ∨ i = 2 ∨ i = 3 ∨ i = 4 ∨ i = 5 ∨ i = 6 ∨ i = 7 := by simp only [List.size_toArray, List.length_cons, List.length_nil] at hi; omega
    clear hi
    rcases hi2 with rfl | rfl | rfl | rfl | rfl | rfl | rfl | rfl
    · -- 0: Op.load 32 (Operand.tmp 1)
      refine AnyO.StepI.mk rfl [] (by kernel_rfl) ?_
      intro D vs u hI h0 hC hp ac hb K hK
      have s1 : ac.tmps[1]?.getD undef = .pointer (some ⟨w.heap.size, 0, none⟩) := by rw [hb]; kernel_rfl
      rw [if_pos (AnyO.wanted_none rfl)]
      clear hb hp hC
      have RR := AnyO.InvS.row hI HR.out.1 Hr0.out
      obtain ⟨rr1, rr2⟩ := RR.okw (cR_length _)
      change rdA _ _ _ = vR r1 at rr2
      clear RR
      clear h0
      go_simp
      exact hK _ _ (AnyO.InvS.pure hI (Hne.out 0 (by decide)) rfl (Below.refl _ _))
    · -- 1: Op.fieldAddr 32 (Operand.tmp 1) 3
      refine AnyO.StepI.mk rfl [] (by kernel_rfl) ?_
      intro D vs u hI h0 hC hp ac hb K hK
      have s1 : ac.tmps[1]?.getD undef = .pointer (some ⟨w.heap.size, 0, none⟩) := by rw [hb]; kernel_rfl
      rw [if_pos (AnyO.wanted_none rfl)]
      clear hb hp hC
      clear h0
      go_simp
      exact hK _ _ (AnyO.InvS.pure hI (Hne.out 1 (by decide)) rfl (Below.refl _ _))
    · -- 2: Op.fieldAddr 28 (Operand.tmp 53) 0
      refine AnyO.StepI.mk rfl [1] (by kernel_rfl) ?_
      intro D vs u hI h0 hC hp ac hb K hK
      have s53 : ac.tmps[53]?.getD undef = .pointer (some ⟨w.heap.size, 3, none⟩) := by rw [hb]; exact (show _ = vs 1 by kernel_rfl).trans (show vs 1 = .pointer (some ⟨w.heap.size, 3, none⟩) from hI.1 1 (hp 1 (by decide)))
      rw [if_pos (AnyO.wanted_none rfl)]
      clear hb hp hC
      clear h0
      go_simp
      exact hK _ _ (AnyO.InvS.pure hI (Hne.out 2 (by decide)) rfl (Below.refl _ _))
    · -- 3: Op.load 22 (Operand.tmp 54)
      refine AnyO.StepI.mk rfl [2] (by kernel_rfl) ?_
      intro D vs u hI h0 hC hp ac hb K hK
      have s54 : ac.tmps[54]?.getD undef = .pointer (some ⟨w.heap.size, 3, none⟩) := by rw [hb]; exact (show _ = vs 2 by kernel_rfl).trans (show vs 2 = .pointer (some ⟨w.heap.size, 3, none⟩) from hI.1 2 (hp 2 (by decide)))
      rw [if_pos (AnyO.wanted_none rfl)]
      clear hb hp hC
      have RR := AnyO.InvS.row hI HR.out.1 Hr0.out
      obtain ⟨_, _, _, ⟨rr1, rr2⟩, _⟩ := row_R RR
      rw [HXI.out] at rr2
      clear RR
      clear h0
      go_simp
      exact hK _ _ (AnyO.InvS.pure hI (Hne.out 3 (by decide)) rfl (Below.refl _ _))
    · -- 4: Op.build 55 #[(0, Operand.const (Value.int IntKind.i64 8)), 
      refine AnyO.StepI.mk rfl [3] (by kernel_rfl) ?_
      intro D vs u hI h0 hC hp ac hb K hK
      have s55 : ac.tmps[55]?.getD undef = vI x := by rw [hb]; exact (show _ = vs 3 by kernel_rfl).trans (show vs 3 = vI x from hI.1 3 (hp 3 (by decide)))
      rw [if_pos (AnyO.wanted_none rfl)]
      clear hb hp hC
      clear h0
      go_simp
      exact hK _ _ (AnyO.InvS.pure hI (Hne.out 4 (by decide)) rfl (Below.refl _ _))
    · -- 5: Op.store 32 (Operand.tmp 2) (Operand.tmp 52)
      refine AnyO.StepI.mk rfl [0, 0] (by kernel_rfl) ?_
      intro D vs u hI h0 hC hp ac hb K hK
      have s2 : ac.tmps[2]?.getD undef = .pointer (some ⟨b2, 0, none⟩) := by rw [hb]; kernel_rfl
      have s52 : ac.tmps[52]?.getD undef = vR r1 := by rw [hb]; exact (show _ = vs 0 by kernel_rfl).trans (show vs 0 = vR r1 from hI.1 0 (hp 0 (by decide)))
      rw [if_pos (AnyO.wanted_none rfl)]
      clear hb hp hC
      have rr0 : Row u (b2) (cR zR) 32 := by have := hI.2.2.2 _ Hm5.out; simpa [h0] using this
      have rr := rr0.rok (cR_length zR)
      clear h0
      go_simp
      refine hK undef _ ?_
      refine AnyO.InvS.store hI Hm5.out rfl trivial ?_ ?_ ?_ ?_
      · exact rr0.setRow
      · exact (fun k hk => heap_setRow_other u _ k _ hk)
      · exact ⟨rfl, rfl, rfl, Nat.le_of_eq (by simp [World.setRow])⟩
      · exact Hd5.out
    · -- 6: Op.store 55 (Operand.tmp 3) (Operand.tmp 56)
      refine AnyO.StepI.mk rfl [4, 5, 0, 1, 2, 3, 4, 5] (by kernel_rfl) ?_
      intro D vs u hI h0 hC hp ac hb K hK
      have s3 : ac.tmps[3]?.getD undef = .pointer (some ⟨b3, 0, none⟩) := by rw [hb]; kernel_rfl
      have s56 : ac.tmps[56]?.getD undef = vK ⟨8, 0, 0, 0, x, ⟨#[]⟩⟩ := by rw [hb]; exact (show _ = vs 4 by kernel_rfl).trans (show vs 4 = vK ⟨8, 0, 0, 0, x, ⟨#[]⟩⟩ from hI.1 4 (hp 4 (by decide)))
      rw [if_pos (AnyO.wanted_none rfl)]
      clear hb hp hC
      have rr0 : Row u (b3) (cK zK) 55 := by have := hI.2.2.2 _ Hm6.out; simpa [h0] using this
      have rr := rr0.rok (cK_length zK)
      clear h0
      go_simp
      refine hK undef _ ?_
      refine AnyO.InvS.store hI Hm6.out rfl trivial ?_ ?_ ?_ ?_
      · exact rr0.setRow
      · exact (fun k hk => heap_setRow_other u _ k _ hk)
      · exact ⟨rfl, rfl, rfl, Nat.le_of_eq (by simp [World.setRow])⟩
      · exact Hd6.out
    · -- 7: Op.assign (Operand.const (Value.bool true))
      refine AnyO.StepI.mk rfl [6, 0, 1, 2, 3, 4, 5, 6] (by kernel_rfl) ?_
      intro D vs u hI h0 hC hp ac hb K hK
      rw [if_pos (AnyO.wanted_none rfl)]
      clear hb hp hC
      clear h0
      go_simp
      exact hK _ _ (AnyO.InvS.pure hI (Hne.out 7 (by decide)) rfl (Below.refl _ _))
  · intro D vs u hI hD
    have e0 : vs 0 = vR r1 := hI.1 0 (hD 0 (by decide))
    have e1 : vs 1 = .pointer (some ⟨w.heap.size, 3, none⟩) := hI.1 1 (hD 1 (by decide))
    have e2 : vs 2 = .pointer (some ⟨w.heap.size, 3, none⟩) := hI.1 2 (hD 2 (by decide))
    have e3 : vs 3 = vI x := hI.1 3 (hD 3 (by decide))
    have e4 : vs 4 = vK ⟨8, 0, 0, 0, x, ⟨#[]⟩⟩ := hI.1 4 (hD 4 (by decide))
    have e7 : vs 7 = Value.bool true := hI.1 7 (hD 7 (by decide))
    have q5 : Row u (b2) (cR r1) 32 := by have := hI.2.2.2 _ Hm5.out; simpa [hD 5 (by decide)] using this
    have q6 : Row u (b3) (cK ⟨8, 0, 0, 0, x, ⟨#[]⟩⟩) 55 := by have := hI.2.2.2 _ Hm6.out; simpa [hD 6 (by decide)] using this
    have HI := Lib.hid hI
    clear hI hD
    rw [puts_range [some 52, some 53, some 54, some 55, some 56, none, none, some 4] (by kernel_rfl)]
    simp only [putL, Nat.reduceAdd, e0, e1, e2, e3, e4, e7]
    clear e0 e1 e2 e3 e4 e7
    go_simp
    go_wp2
    have hbw := AnyO.InvS.below HI.out Hbs.out (Nat.le_of_lt HR.out.1.lt) HR.out.2.2.2
    have hX := HX.out.1.keep hbw
    have hra : RefAt F ch { s with state := 3, cur := (x, t), snd := some ((t.size : Int), true) } r1 u := by
      subst hr1
      refine ⟨hX.ch, rfl, hcur, ?_, hX.ws, hX.os⟩
      show r.at_ = (t.size : Int)
      exact hat
    clear hX hat hcur hr1
    exact bodyPost_ret (v := .tuple #[vR r1, vK ⟨8, 0, 0, 0, x, ⟨#[]⟩⟩, .bool true]) (results_cct (ad := ⟨b2, 0, none⟩) (ad2 := ⟨b3, 0, none⟩) rfl rfl (load_R q5) rfl (load_K q6) rfl) rfl ⟨r1, rfl, hra, hbw⟩

set_option maxRecDepth 100000 in
set_option maxHeartbeats 3200000 in
theorem refSay23_data (F : List Nat) (ch : Int) (s : St) (r : Rs) (w : World) (an nn : Nat) (h : RefAt F ch s r w) (hst : s.state = 2) (hsn : s.snd = some ((an : Int), false)) (h1 : an < s.cur.2.size) (hnn : min ((an : Int) + ch) (s.cur.2.size : Int) = (nn : Int)) (hc1 : 1 ≤ ch) (hc2 : ch ≤ 4096) (hsz : s.cur.2.size ≤ 65536) :
    Calls Tryd.prog 23 #[vR r] w (RSayP F ch { s with snd := some ((nn : Int), false) } ⟨7, 0, (an : Int), 0, s.cur.1, s.cur.2.extract an nn⟩ true w) := by
  have hrst : r.st = 2 := h.st.trans hst
  have hat : r.at_ = (an : Int) := by rw [h.at_, hsn]; rfl
  have hcur := h.cur
  have hrch := h.ch
  obtain ⟨⟨x, t⟩, hxt⟩ : ∃ a : Art, s.cur = a := ⟨_, rfl⟩
  rw [hxt] at hcur h1 hnn hsz ⊢
  dsimp only at h1 hnn hsz ⊢
  obtain ⟨cc, hcc⟩ : ∃ cc, t.extract an nn = cc := ⟨_, rfl⟩
  rw [hcc]
  have HCC := Lib.hid (And.intro hcc (And.intro (show an ≤ nn by omega) (show nn ≤ t.size by omega)))
  have g1 : ((an : Int) == (t.size : Int)) = false := by simp; omega
  have g2 : min (t.size : Int) ((an : Int) + ch) = (nn : Int) := by omega
  have g3 : IntKind.i64.wrap ((an : Int) + ch) = (an : Int) + ch := IntWalk.i64_in _ (by omega)
  have g4 : (if (an : Int) + ch < (t.size : Int) then (an : Int) + ch else (t.size : Int)) = (nn : Int) := by split <;> omega
  have g5 : (if (t.size : Int) < (an : Int) + ch then (t.size : Int) else (an : Int) + ch) = (nn : Int) := by split <;> omega
  have HX := Lib.hid (And.intro h hxt)
  have HW3 : Below w.heap.size w (((w.alloc (.cells (aR r) 32)).alloc (.cells (aR zR) 32)).alloc (.cells (aK zK) 55)) := Below.step (Below.step (below_alloc w _) (below_alloc _ _)) (below_alloc _ _)
  have R1 : Row (((w.alloc (.cells (aR r) 32)).alloc (.cells (aR zR) 32)).alloc (.cells (aK zK) 55)) w.heap.size (cR r) 32 := ((Row.new w (cR r) 32).keep (below_alloc _ _)).keep (below_alloc _ _)
  have R2 : Row (((w.alloc (.cells (aR r) 32)).alloc (.cells (aR zR) 32)).alloc (.cells (aK zK) 55)) (w.heap.size + 1) (cR zR) 32 := by
    have h := (Row.new (w.alloc (.cells (aR r) 32)) (cR zR) 32).keep (below_alloc _ (.cells (aK zK) 55))
    rwa [show (w.alloc (.cells (aR r) 32)).heap.size = w.heap.size + 1 by simp] at h
  have R3 : Row (((w.alloc (.cells (aR r) 32)).alloc (.cells (aR zR) 32)).alloc (.cells (aK zK) 55)) (w.heap.size + 1 + 1) (cK zK) 55 := by
    have h := Row.new ((w.alloc (.cells (aR r) 32)).alloc (.cells (aR zR) 32)) (cK zK) 55
    rwa [show ((w.alloc (.cells (aR r) 32)).alloc (.cells (aR zR) 32)).heap.size = w.heap.size + 1 + 1 by simp] at h
  obtain ⟨W3, hW⟩ : ∃ W3, ((w.alloc (.cells (aR r) 32)).alloc (.cells (aR zR) 32)).alloc (.cells (aK zK) 55) = W3 := ⟨_, rfl⟩
  rw [hW] at HW3 R1 R2 R3
  obtain ⟨c0, c1, c2, _, _, c35, _, _, _, hlt⟩ := row_R R1
  rw [hrst] at c1
  rw [hat] at c2
  rw [hcur] at c35
  rw [hrch] at c0
  dsimp only at c35
  have f2 := R1.fz 2
  have R1' : Row (W3.setCell ⟨w.heap.size, 2, none⟩ (.int .i64 (nn : Int))) w.heap.size (cR { r with at_ := (nn : Int) }) 32 := by rw [← cR_set2]; exact R1.set 2 _
  have ho : ∀ k, k ≠ w.heap.size → (W3.setCell ⟨w.heap.size, 2, none⟩ (.int .i64 (nn : Int))).heap[k]? = W3.heap[k]? := fun k hk => heap_set_other W3 w.heap.size 2 _ k hk
  have hU : Below w.heap.size w (W3.setCell ⟨w.heap.size, 2, none⟩ (.int .i64 (nn : Int))) := Below.setCell' HW3 (Nat.le_refl _) 2 _
  have HR := Lib.hid (And.intro R1' (And.intro (R2.same (ho (w.heap.size + 1) (by omega))) (And.intro (R3.same (ho (w.heap.size + 1 + 1) (by omega))) hU)))
  clear h hst hrst hsn hat hxt R1 R2 R3 HW3 R1' ho hU hrch hnn hcc
  go_enter Tryd.func23, Tryd.ntmps23
  go_wp2
  generalize W3.setCell ⟨w.heap.size, 2, none⟩ (.int .i64 (nn : Int)) = U at HR ⊢
  clear c0 c1 c2 c35 f2 hW hlt g1 g2 g3 g4 g5
  obtain ⟨r1, hr1⟩ : ∃ r1 : Rs, { r with at_ := (nn : Int) } = r1 := ⟨_, rfl⟩
  rw [hr1] at HR
  have HXI := Lib.hid (And.intro (show r1.cur.1 = x by rw [← hr1]; exact congrArg Prod.fst hcur) (And.intro (show r1.cur.2 = t by rw [← hr1]; exact congrArg Prod.snd hcur) (show r1.at_ = (nn : Int) by rw [← hr1])))
  obtain ⟨b3, hb3⟩ : ∃ b3, b3 = w.heap.size + 1 + 1 := ⟨_, rfl⟩
  obtain ⟨b2, hb2⟩ : ∃ b2, b2 = w.heap.size + 1 := ⟨_, rfl⟩
  have hB2 : w.heap.size < b2 := by omega
  have hB3 : b2 < b3 := by omega
  rw [← hb3, ← hb2] at HR ⊢
  clear hb2 hb3
  obtain ⟨S, hS⟩ : ∃ S : List AnyO.Sto, S = [(13, b2, 32, cR zR, cR r1), (14, b3, 55, cK zK, cK ⟨7, 0, (an : Int), 0, x, cc⟩)] := ⟨_, rfl⟩
  have hm13 : ((13, b2, 32, cR zR, cR r1) : AnyO.Sto) ∈ S := by rw [hS]; simp
  have hm14 : ((14, b3, 55, cK zK, cK ⟨7, 0, (an : Int), 0, x, cc⟩) : AnyO.Sto) ∈ S := by rw [hS]; simp
  have hst : ∀ x ∈ S, Row U x.2.1 x.2.2.2.1 x.2.2.1 := fun x hx => by rw [hS] at hx; simp only [List.mem_cons, List.not_mem_nil, or_false] at hx; rcases hx with rfl | rfl <;> first | exact HR.out.2.1 | exact HR.out.2.2.1
  have hbs : ∀ x ∈ S, w.heap.size ≤ x.2.1 := fun x hx => by rw [hS] at hx; simp only [List.mem_cons, List.not_mem_nil, or_false] at hx; rcases hx with rfl | rfl <;> (dsimp only; omega)
  have hne : ∀ i, i ≠ 13 ∧ i ≠ 14 → ∀ x ∈ S, x.1 ≠ i := fun i hi x hx => by rw [hS] at hx; simp only [List.mem_cons, List.not_mem_nil, or_false] at hx; rcases hx with rfl | rfl <;> (dsimp only; omega)
  have hd13 : ∀ y ∈ S, y ≠ (13, b2, 32, cR zR, cR r1) → y.2.1 ≠ b2 ∧ y.1 ≠ 13 := fun y hy hn => by rw [hS] at hy; simp only [List.mem_cons, List.not_mem_nil, or_false] at hy; rcases hy with rfl | rfl <;> first | exact absurd rfl hn | exact ⟨by dsimp only; omega, by dsimp only; omega⟩
  have hd14 : ∀ y ∈ S, y ≠ (14, b3, 55, cK zK, cK ⟨7, 0, (an : Int), 0, x, cc⟩) → y.2.1 ≠ b3 ∧ y.1 ≠ 14 := fun y hy hn => by rw [hS] at hy; simp only [List.mem_cons, List.not_mem_nil, or_false] at hy; rcases hy with rfl | rfl <;> first | exact absurd rfl hn | exact ⟨by dsimp only; omega, by dsimp only; omega⟩
  have hr0 : ∀ x ∈ S, w.heap.size ≠ x.2.1 := fun x hx => by rw [hS] at hx; simp only [List.mem_cons, List.not_mem_nil, or_false] at hx; rcases hx with rfl | rfl <;> (dsimp only; omega)
  have Hm13 := Lib.hid hm13
  have Hm14 := Lib.hid hm14
  have Hd13 := Lib.hid hd13
  have Hd14 := Lib.hid hd14
  have Hne := Lib.hid hne
  have Hbs := Lib.hid hbs
  have Hst := Lib.hid hst
  have Hr0 := Lib.hid hr0
  clear hS hm13 hm14 hd13 hd14 hne hbs hst hr0
  refine AnyO.wp_anyI (by kernel_rfl) (by kernel_rfl) (AnyO.InvS (AnyO.pvL [some (vR r1), some (.pointer (some ⟨w.heap.size, 3, none⟩)), some (.pointer (some ⟨w.heap.size, 3, none⟩)), some (vI x), some (.int .i64 (an : Int)), some (.pointer (some ⟨w.heap.size, 3, none⟩)), some (.pointer (some ⟨w.heap.size, 35, none⟩)), some (.string t), some (.int .i64 (an : Int)), some (.pointer (some ⟨w.heap.size, 2, none⟩)), some (.int .i64 (nn : Int)), some (.string cc), some (vK ⟨7, 0, (an : Int), 0, x, cc⟩), none, none, some (Value.bool true)]) U S) (AnyO.InvS.start Hst.out) ?_ ?_
  · intro i hi
    have hi2 : i = 0 ∨ i = 1 ∨ i = 2 ∨ i = 3 ∨ i = 4 ∨ i = 5 ∨ i = 6 ∨ i = 7 ∨ i = 8 ∨ i = 9 ∨ i = 10 ∨ i = 11 ∨ i = 12 ∨ i = 13 ∨ i = 14 ∨ i = 15 := by simp only [List.size_toArray, List.length_cons, List.length_nil] at hi; omega
    clear hi
    rcases hi2 with rfl | rfl | rfl | rfl | rfl | rfl | rfl | rfl | rfl | rfl | rfl | rfl | rfl | rfl | rfl | rfl
    · -- 0: Op.load 32 (Operand.tmp 1)
      refine AnyO.StepI.mk rfl [] (by kernel_rfl) ?_
      intro D vs u hI h0 hC hp ac hb K hK
      have s1 : ac.tmps[1]?.getD undef = .pointer (some ⟨w.heap.size, 0, none⟩) := by rw [hb]; kernel_rfl
      rw [if_pos (AnyO.wanted_none rfl)]
      clear hb hp hC
      have RR := AnyO.InvS.row hI HR.out.1 Hr0.out
      obtain ⟨rr1, rr2⟩ := RR.okw (cR_length _)
      change rdA _ _ _ = vR r1 at rr2
      clear RR
      clear h0
      go_simp
      exact hK _ _ (AnyO.InvS.pure hI (Hne.out 0 (by decide)) rfl (Below.refl _ _))
    · -- 1: Op.fieldAddr 32 (Operand.tmp 1) 3
      refine AnyO.StepI.mk rfl [] (by kernel_rfl) ?_
      intro D vs u hI h0 hC hp ac hb K hK
      have s1 : ac.tmps[1]?.getD undef = .pointer (some ⟨w.heap.size, 0, none⟩) := by rw [hb]; kernel_rfl
      rw [if_pos (AnyO.wanted_none rfl)]
      clear hb hp hC
      clear h0
      go_simp
      exact hK _ _ (AnyO.InvS.pure hI (Hne.out 1 (by decide)) rfl (Below.refl _ _))
    · -- 2: Op.fieldAddr 28 (Operand.tmp 74) 0
      refine AnyO.StepI.mk rfl [1] (by kernel_rfl) ?_
      intro D vs u hI h0 hC hp ac hb K hK
      have s74 : ac.tmps[74]?.getD undef = .pointer (some ⟨w.heap.size, 3, none⟩) := by rw [hb]; exact (show _ = vs 1 by kernel_rfl).trans (show vs 1 = .pointer (some ⟨w.heap.size, 3, none⟩) from hI.1 1 (hp 1 (by decide)))
      rw [if_pos (AnyO.wanted_none rfl)]
      clear hb hp hC
      clear h0
      go_simp
      exact hK _ _ (AnyO.InvS.pure hI (Hne.out 2 (by decide)) rfl (Below.refl _ _))
    · -- 3: Op.load 22 (Operand.tmp 75)
      refine AnyO.StepI.mk rfl [2] (by kernel_rfl) ?_
      intro D vs u hI h0 hC hp ac hb K hK
      have s75 : ac.tmps[75]?.getD undef = .pointer (some ⟨w.heap.size, 3, none⟩) := by rw [hb]; exact (show _ = vs 2 by kernel_rfl).trans (show vs 2 = .pointer (some ⟨w.heap.size, 3, none⟩) from hI.1 2 (hp 2 (by decide)))
      rw [if_pos (AnyO.wanted_none rfl)]
      clear hb hp hC
      have RR := AnyO.InvS.row hI HR.out.1 Hr0.out
      obtain ⟨_, _, _, ⟨rr1, rr2⟩, _⟩ := row_R RR
      rw [HXI.out.1] at rr2
      clear RR
      clear h0
      go_simp
      exact hK _ _ (AnyO.InvS.pure hI (Hne.out 3 (by decide)) rfl (Below.refl _ _))
    · -- 4: Op.move (Operand.tmp 5)
      refine AnyO.StepI.mk rfl [] (by kernel_rfl) ?_
      intro D vs u hI h0 hC hp ac hb K hK
      have s5 : ac.tmps[5]?.getD undef = .int .i64 (an : Int) := by rw [hb]; kernel_rfl
      rw [if_pos (AnyO.wanted_none rfl)]
      clear hb hp hC
      clear h0
      go_simp
      exact hK _ _ (AnyO.InvS.pure hI (Hne.out 4 (by decide)) rfl (Below.refl _ _))
    · -- 5: Op.fieldAddr 32 (Operand.tmp 1) 3
      refine AnyO.StepI.mk rfl [] (by kernel_rfl) ?_
      intro D vs u hI h0 hC hp ac hb K hK
      have s1 : ac.tmps[1]?.getD undef = .pointer (some ⟨w.heap.size, 0, none⟩) := by rw [hb]; kernel_rfl
      rw [if_pos (AnyO.wanted_none rfl)]
      clear hb hp hC
      clear h0
      go_simp
      exact hK _ _ (AnyO.InvS.pure hI (Hne.out 5 (by decide)) rfl (Below.refl _ _))
    · -- 6: Op.fieldAddr 28 (Operand.tmp 78) 1
      refine AnyO.StepI.mk rfl [5] (by kernel_rfl) ?_
      intro D vs u hI h0 hC hp ac hb K hK
      have s78 : ac.tmps[78]?.getD undef = .pointer (some ⟨w.heap.size, 3, none⟩) := by rw [hb]; exact (show _ = vs 5 by kernel_rfl).trans (show vs 5 = .pointer (some ⟨w.heap.size, 3, none⟩) from hI.1 5 (hp 5 (by decide)))
      rw [if_pos (AnyO.wanted_none rfl)]
      clear hb hp hC
      clear h0
      go_simp
      exact hK _ _ (AnyO.InvS.pure hI (Hne.out 6 (by decide)) rfl (Below.refl _ _))
    · -- 7: Op.load 9 (Operand.tmp 79)
      refine AnyO.StepI.mk rfl [6] (by kernel_rfl) ?_
      intro D vs u hI h0 hC hp ac hb K hK
      have s79 : ac.tmps[79]?.getD undef = .pointer (some ⟨w.heap.size, 35, none⟩) := by rw [hb]; exact (show _ = vs 6 by kernel_rfl).trans (show vs 6 = .pointer (some ⟨w.heap.size, 35, none⟩) from hI.1 6 (hp 6 (by decide)))
      rw [if_pos (AnyO.wanted_none rfl)]
      clear hb hp hC
      have RR := AnyO.InvS.row hI HR.out.1 Hr0.out
      obtain ⟨_, _, _, _, _, rr1, _⟩ := row_R RR
      rw [HXI.out.2.1] at rr1
      clear RR
      clear h0
      go_simp
      exact hK _ _ (AnyO.InvS.pure hI (Hne.out 7 (by decide)) rfl (Below.refl _ _))
    · -- 8: Op.move (Operand.tmp 5)
      refine AnyO.StepI.mk rfl [] (by kernel_rfl) ?_
      intro D vs u hI h0 hC hp ac hb K hK
      have s5 : ac.tmps[5]?.getD undef = .int .i64 (an : Int) := by rw [hb]; kernel_rfl
      rw [if_pos (AnyO.wanted_none rfl)]
      clear hb hp hC
      clear h0
      go_simp
      exact hK _ _ (AnyO.InvS.pure hI (Hne.out 8 (by decide)) rfl (Below.refl _ _))
    · -- 9: Op.fieldAddr 32 (Operand.tmp 1) 2
      refine AnyO.StepI.mk rfl [] (by kernel_rfl) ?_
      intro D vs u hI h0 hC hp ac hb K hK
      have s1 : ac.tmps[1]?.getD undef = .pointer (some ⟨w.heap.size, 0, none⟩) := by rw [hb]; kernel_rfl
      rw [if_pos (AnyO.wanted_none rfl)]
      clear hb hp hC
      clear h0
      go_simp
      exact hK _ _ (AnyO.InvS.pure hI (Hne.out 9 (by decide)) rfl (Below.refl _ _))
    · -- 10: Op.load 3 (Operand.tmp 82)
      refine AnyO.StepI.mk rfl [9] (by kernel_rfl) ?_
      intro D vs u hI h0 hC hp ac hb K hK
      have s82 : ac.tmps[82]?.getD undef = .pointer (some ⟨w.heap.size, 2, none⟩) := by rw [hb]; exact (show _ = vs 9 by kernel_rfl).trans (show vs 9 = .pointer (some ⟨w.heap.size, 2, none⟩) from hI.1 9 (hp 9 (by decide)))
      rw [if_pos (AnyO.wanted_none rfl)]
      clear hb hp hC
      have RR := AnyO.InvS.row hI HR.out.1 Hr0.out
      obtain ⟨_, _, rr1, _⟩ := row_R RR
      rw [HXI.out.2.2] at rr1
      clear RR
      clear h0
      go_simp
      exact hK _ _ (AnyO.InvS.pure hI (Hne.out 10 (by decide)) rfl (Below.refl _ _))
    · -- 11: Op.slice 9 (Operand.tmp 80) (some (Operand.tmp 81)) (some (O
      refine AnyO.StepI.mk rfl [7, 8, 10] (by kernel_rfl) ?_
      intro D vs u hI h0 hC hp ac hb K hK
      have s80 : ac.tmps[80]?.getD undef = .string t := by rw [hb]; exact (show _ = vs 7 by kernel_rfl).trans (show vs 7 = .string t from hI.1 7 (hp 7 (by decide)))
      have s81 : ac.tmps[81]?.getD undef = .int .i64 (an : Int) := by rw [hb]; exact (show _ = vs 8 by kernel_rfl).trans (show vs 8 = .int .i64 (an : Int) from hI.1 8 (hp 8 (by decide)))
      have s83 : ac.tmps[83]?.getD undef = .int .i64 (nn : Int) := by rw [hb]; exact (show _ = vs 10 by kernel_rfl).trans (show vs 10 = .int .i64 (nn : Int) from hI.1 10 (hp 10 (by decide)))
      rw [if_pos (AnyO.wanted_none rfl)]
      clear hb hp hC
      have rr1 := HCC.out.1
      have rr2 : (an : Int) ≤ (nn : Int) := by have := HCC.out.2.1; omega
      have rr3 : (nn : Int) ≤ (t.size : Int) := by have := HCC.out.2.2; omega
      have rr4 := HCC.out.2.1
      have rr5 := HCC.out.2.2
      clear h0
      go_simp
      exact hK _ _ (AnyO.InvS.pure hI (Hne.out 11 (by decide)) rfl (Below.refl _ _))
    · -- 12: Op.build 55 #[(0, Operand.const (Value.int IntKind.i64 7)), 
      refine AnyO.StepI.mk rfl [3, 4, 11] (by kernel_rfl) ?_
      intro D vs u hI h0 hC hp ac hb K hK
      have s76 : ac.tmps[76]?.getD undef = vI x := by rw [hb]; exact (show _ = vs 3 by kernel_rfl).trans (show vs 3 = vI x from hI.1 3 (hp 3 (by decide)))
      have s77 : ac.tmps[77]?.getD undef = .int .i64 (an : Int) := by rw [hb]; exact (show _ = vs 4 by kernel_rfl).trans (show vs 4 = .int .i64 (an : Int) from hI.1 4 (hp 4 (by decide)))
      have s84 : ac.tmps[84]?.getD undef = .string cc := by rw [hb]; exact (show _ = vs 11 by kernel_rfl).trans (show vs 11 = .string cc from hI.1 11 (hp 11 (by decide)))
      rw [if_pos (AnyO.wanted_none rfl)]
      clear hb hp hC
      clear h0
      go_simp
      exact hK _ _ (AnyO.InvS.pure hI (Hne.out 12 (by decide)) rfl (Below.refl _ _))
    · -- 13: Op.store 32 (Operand.tmp 2) (Operand.tmp 73)
      refine AnyO.StepI.mk rfl [0, 0] (by kernel_rfl) ?_
      intro D vs u hI h0 hC hp ac hb K hK
      have s2 : ac.tmps[2]?.getD undef = .pointer (some ⟨b2, 0, none⟩) := by rw [hb]; kernel_rfl
      have s73 : ac.tmps[73]?.getD undef = vR r1 := by rw [hb]; exact (show _ = vs 0 by kernel_rfl).trans (show vs 0 = vR r1 from hI.1 0 (hp 0 (by decide)))
      rw [if_pos (AnyO.wanted_none rfl)]
      clear hb hp hC
      have rr0 : Row u (b2) (cR zR) 32 := by have := hI.2.2.2 _ Hm13.out; simpa [h0] using this
      have rr := rr0.rok (cR_length zR)
      clear h0
      go_simp
      refine hK undef _ ?_
      refine AnyO.InvS.store hI Hm13.out rfl trivial ?_ ?_ ?_ ?_
      · exact rr0.setRow
      · exact (fun k hk => heap_setRow_other u _ k _ hk)
      · exact ⟨rfl, rfl, rfl, Nat.le_of_eq (by simp [World.setRow])⟩
      · exact Hd13.out
    · -- 14: Op.store 55 (Operand.tmp 3) (Operand.tmp 85)
      refine AnyO.StepI.mk rfl [12, 13, 0, 1, 2, 3, 4, 5, 6, 7, 8, 9, 10, 11, 12, 13] (by kernel_rfl) ?_
      intro D vs u hI h0 hC hp ac hb K hK
      have s3 : ac.tmps[3]?.getD undef = .pointer (some ⟨b3, 0, none⟩) := by rw [hb]; kernel_rfl
      have s85 : ac.tmps[85]?.getD undef = vK ⟨7, 0, (an : Int), 0, x, cc⟩ := by rw [hb]; exact (show _ = vs 12 by kernel_rfl).trans (show vs 12 = vK ⟨7, 0, (an : Int), 0, x, cc⟩ from hI.1 12 (hp 12 (by decide)))
      rw [if_pos (AnyO.wanted_none rfl)]
      clear hb hp hC
      have rr0 : Row u (b3) (cK zK) 55 := by have := hI.2.2.2 _ Hm14.out; simpa [h0] using this
      have rr := rr0.rok (cK_length zK)
      clear h0
      go_simp
      refine hK undef _ ?_
      refine AnyO.InvS.store hI Hm14.out rfl trivial ?_ ?_ ?_ ?_
      · exact rr0.setRow
      · exact (fun k hk => heap_setRow_other u _ k _ hk)
      · exact ⟨rfl, rfl, rfl, Nat.le_of_eq (by simp [World.setRow])⟩
      · exact Hd14.out
    · -- 15: Op.assign (Operand.const (Value.bool true))
      refine AnyO.StepI.mk rfl [14, 0, 1, 2, 3, 4, 5, 6, 7, 8, 9, 10, 11, 12, 13, 14] (by kernel_rfl) ?_
      intro D vs u hI h0 hC hp ac hb K hK
      rw [if_pos (AnyO.wanted_none rfl)]
      clear hb hp hC
      clear h0
      go_simp
      exact hK _ _ (AnyO.InvS.pure hI (Hne.out 15 (by decide)) rfl (Below.refl _ _))
  · intro D vs u hI hD
    have e0 : vs 0 = vR r1 := hI.1 0 (hD 0 (by decide))
    have e1 : vs 1 = .pointer (some ⟨w.heap.size, 3, none⟩) := hI.1 1 (hD 1 (by decide))
    have e2 : vs 2 = .pointer (some ⟨w.heap.size, 3, none⟩) := hI.1 2 (hD 2 (by decide))
    have e3 : vs 3 = vI x := hI.1 3 (hD 3 (by decide))
    have e4 : vs 4 = .int .i64 (an : Int) := hI.1 4 (hD 4 (by decide))
    have e5 : vs 5 = .pointer (some ⟨w.heap.size, 3, none⟩) := hI.1 5 (hD 5 (by decide))
    have e6 : vs 6 = .pointer (some ⟨w.heap.size, 35, none⟩) := hI.1 6 (hD 6 (by decide))
    have e7 : vs 7 = .string t := hI.1 7 (hD 7 (by decide))
    have e8 : vs 8 = .int .i64 (an : Int) := hI.1 8 (hD 8 (by decide))
    have e9 : vs 9 = .pointer (some ⟨w.heap.size, 2, none⟩) := hI.1 9 (hD 9 (by decide))
    have e10 : vs 10 = .int .i64 (nn : Int) := hI.1 10 (hD 10 (by decide))
    have e11 : vs 11 = .string cc := hI.1 11 (hD 11 (by decide))
    have e12 : vs 12 = vK ⟨7, 0, (an : Int), 0, x, cc⟩ := hI.1 12 (hD 12 (by decide))
    have e15 : vs 15 = Value.bool true := hI.1 15 (hD 15 (by decide))
    have q13 : Row u (b2) (cR r1) 32 := by have := hI.2.2.2 _ Hm13.out; simpa [hD 13 (by decide)] using this
    have q14 : Row u (b3) (cK ⟨7, 0, (an : Int), 0, x, cc⟩) 55 := by have := hI.2.2.2 _ Hm14.out; simpa [hD 14 (by decide)] using this
    have HI := Lib.hid hI
    clear hI hD
    rw [puts_range [some 73, some 74, some 75, some 76, some 77, some 78, some 79, some 80, some 81, some 82, some 83, some 84, some 85, none, none, some 4] (by kernel_rfl)]
    simp only [putL, Nat.reduceAdd, e0, e1, e2, e3, e4, e5, e6, e7, e8, e9, e10, e11, e12, e15]
    clear e0 e1 e2 e3 e4 e5 e6 e7 e8 e9 e10 e11 e12 e15
    go_simp
    go_wp2
    have hbw := AnyO.InvS.below HI.out Hbs.out (Nat.le_of_lt HR.out.1.lt) HR.out.2.2.2
    have hX := HX.out.1.keep hbw
    have hra : RefAt F ch { s with cur := (x, t), snd := some ((nn : Int), false) } r1 u := by
      subst hr1
      exact ⟨hX.ch, hX.st, hcur, rfl, hX.ws, hX.os⟩
    clear hX hcur hr1
    exact bodyPost_ret (v := .tuple #[vR r1, vK ⟨7, 0, (an : Int), 0, x, cc⟩, .bool true]) (results_cct (ad := ⟨b2, 0, none⟩) (ad2 := ⟨b3, 0, none⟩) rfl rfl (load_R q13) rfl (load_K q14) rfl) rfl ⟨r1, rfl, hra, hbw⟩

end Go.Proofs.YtlelecnafdddhaaDoor
