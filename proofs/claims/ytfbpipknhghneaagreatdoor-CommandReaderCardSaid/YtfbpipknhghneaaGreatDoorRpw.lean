/- The reference's parse. -/
import Derived.Test.YtfbpipknhghneaaGreatDoorRpp
import Derived.Test.YtfbpipknhghneaaGreatDoorRpa
import Derived.Test.YtfbpipknhghneaaGreatDoorRchk
namespace Go.Proofs.YtfbpipknhghneaaGreatDoor
open Go.RowKit
def RparP (s : ByteArray) (w : World) : Ending → World → Prop := fun e w' => ∃ c b, e = .returned (.tuple #[vC c, .bool b]) ∧ Agree c b (parseL (bl s)) ∧ Below w.heap.size w w'
/-- The result's cell, the command's row, the words. -/
structure PI (r gs g : Nat) (ps : List ByteArray) (c : Cm) (w W : World) : Prop where
  res : Row W r (cC zC) 49
  out : Row W g (cC c) 49
  ws : ∀ (j : Nat) x, ps[j]? = some x → W.cell? ⟨gs, j, none⟩ = some (.string x)
  bel : Below r w W
  lt1 : r < gs
  lt2 : gs < g
section
variable {r gs g gx : Nat} {ps : List ByteArray} {c c' x : Cm} {w W W' : World}
theorem PI.one (h : PI r gs g ps c w W) (ho : One g W W') (hr : Row W' g (cC c') 49) : PI r gs g ps c' w W' :=
  have h1 := h.lt1
  have h2 := h.lt2
  ⟨ho.row h.res (by omega), hr, fun j x hx => (World.cell?_of_block (ho.out gs (Nat.lt_trans h2 h.out.lt) (by omega))).trans (h.ws j x hx), Below.trans h.bel (ho.below (by omega) (Nat.le_of_lt h.res.lt)), h1, h2⟩
theorem PI.set (h : PI r gs g ps c w W) (k : Nat) (v : Value) (e : (cC c).set k v = cC c') : PI r gs g ps c' w (W.setCell ⟨g, k, none⟩ v) := h.one (One.set k v) (e ▸ h.out.set k v)
theorem PI.stI (h : PI r gs g ps c w W) (x : Id) : PI r gs g ps { c with id := x } w (stD W g 2 (cI x)) :=
  h.one (One.stD 2 _) (cC_setid c x ▸ h.out.stD 2 (cI x) (by rw [cI_length, cC_length]; omega))
theorem PI.keep (h : PI r gs g ps c w W) (hb : Below W.heap.size W W') : PI r gs g ps c w W' := h.one (One.of_below hb) (h.out.keep hb)
theorem PI.fail (h : PI r gs g ps c w W) : rowOk W r 39 = true ∧ Row (W.setRow r (aC zC)) r (cC zC) 49 ∧ Below r w (W.setRow r (aC zC)) :=
  ⟨Row.rowOk' h.res (cC_length zC), Row.setRow h.res (cC zC), Below.trans h.bel ((One.setRow r _).below (Nat.le_refl _) (Nat.le_of_lt h.res.lt))⟩
structure RI (r g gx : Nat) (c x d : Cm) (w W : World) : Prop where
  out : Row W g (cC c) 49
  txt : Row W gx (cC x) 49
  res : Row W r (cC d) 49
  bel : Below r w W
  ne1 : r ≠ g
  ne2 : r ≠ gx
theorem RI.keep {d : Cm} (h : RI r g gx c x d w W) (hb : Below W.heap.size W W') : RI r g gx c x d w W' := ⟨h.out.keep hb, h.txt.keep hb, h.res.keep hb, Below.trans h.bel (hb.mono (Nat.le_of_lt h.res.lt)), h.ne1, h.ne2⟩
theorem RI.put {d d' : Cm} (h : RI r g gx c x d w W) : RI r g gx c x d' w (W.setRow r (aC d')) :=
  ⟨(One.setRow r _).row h.out (fun e => h.ne1 e.symm), (One.setRow r _).row h.txt (fun e => h.ne2 e.symm), Row.setRow h.res (cC d'), Below.trans h.bel ((One.setRow r _).below (Nat.le_refl _) (Nat.le_of_lt h.res.lt)), h.ne1, h.ne2⟩
end
theorem vb_step (s : ByteArray) (k : Nat) (hk : k < 11) : vb s (k + 1) = if nmB ((k : Int) + 1) = s then k + 1 else vb s k := by
  have e : nmB ((k : Int) + 1) = (formsL[k + 1]?.getD (⟨#[]⟩, 0, 0)).1 := by
    unfold nmB
    rw [if_neg (by omega), show ((k : Int) + 1).toNat = k + 1 by omega]
  rw [vb, e]
  by_cases h : (formsL[k + 1]?.getD (⟨#[]⟩, 0, 0)).1 = s
  · rw [if_pos h, if_pos (congrArg bl h)]
  · rw [if_neg h, if_neg (fun e => h (bl_inj e))]
theorem parse_ne (ps : List ByteArray) (v : Nat) (hv : vb (ps.headD ⟨#[]⟩) 11 = v) (h : v = 0 ∨ ps.length ≠ wantN v) : (parseW ps).2 = false := by
  rw [Bool.eq_false_iff]
  intro e
  have h1 := parseW_want ps v hv e
  rcases h with h | h
  · exact h1.1 h
  · exact h h1.2
theorem len1 {α : Type} (l : List α) (h : l.length = 1) : ∃ a, l = [a] := by
  match l, h with
  | [a], _ => exact ⟨a, rfl⟩
theorem len2 {α : Type} (l : List α) (h : l.length = 2) : ∃ a b, l = [a, b] := by
  match l, h with
  | [a, b], _ => exact ⟨a, b, rfl⟩
theorem len3 {α : Type} (l : List α) (h : l.length = 3) : ∃ a b c, l = [a, b, c] := by
  match l, h with
  | [a, b, c], _ => exact ⟨a, b, c, rfl⟩
set_option maxRecDepth 100000 in
set_option maxHeartbeats 12800000 in
theorem refParse31 (s : ByteArray) (w : World) (hs : s.size ≤ 1000000) : Calls Tryz.prog 30 #[.string s] w (RparP s w) := by
  obtain ⟨r, hr⟩ : ∃ r, w.heap.size = r := ⟨_, rfl⟩
  have HRR := Lib.hid hr
  obtain ⟨ps, hps⟩ : ∃ ps, (splitGo 32 [] (bl s)).map mkB = ps := ⟨_, rfl⟩
  have hpne : ps ≠ [] := by rw [← hps]; exact fun e => splitGo_ne 32 [] (bl s) (List.map_eq_nil_iff.1 e)
  have HPL := Lib.hid (show parseL (bl s) = parseW ps by rw [← hps]; rfl)
  have hpsz : ∀ p ∈ ps, p.size ≤ 1000000 := fun p hp => by
    rw [← hps] at hp
    obtain ⟨l, hl, rfl⟩ := List.mem_map.1 hp
    have := splitGo_mem 32 (bl s) [] l hl
    rw [bl_length, List.length_nil] at this
    have e := bl_length (mkB l)
    rw [bl_mkB] at e
    omega
  have hplen : ps.length ≤ 1000001 := by
    have := splitGo_len2 32 (bl s) []
    rw [bl_length] at this
    rw [← hps, List.length_map]
    omega
  obtain ⟨w0, ps1, hw0⟩ : ∃ w0 ps1, ps = w0 :: ps1 := by
    cases hq : ps with
    | nil => exact absurd hq hpne
    | cons a b => exact ⟨a, b, rfl⟩
  have HHD := Lib.hid (show ps.headD ⟨#[]⟩ = w0 by rw [hw0]; rfl)
  have HW0 := Lib.hid (show ps[0]? = some w0 by rw [hw0]; rfl)
  have H63 := Lib.hid (fun w1 => words63 s w1 hs)
  rw [hps] at H63
  have HPZ := Lib.hid (And.intro hpsz hplen)
  obtain ⟨W1, hW1⟩ : ∃ W1, w.alloc (.cells (aC zC) 49) = W1 := ⟨_, rfl⟩
  have HB1 := Lib.hid (And.intro (show Below r w W1 by rw [← hW1, ← hr]; exact below_alloc w _) (show Row W1 r (cC zC) 49 by rw [← hW1, ← hr]; exact Row.new w (cC zC) 49))
  have HS1 := Lib.hid (show W1.heap.size = r + 1 by rw [← hW1, ← hr]; simp)
  clear hps hpne hpsz hplen hw0
  go_enter Tryz.func30, Tryz.ntmps30
  go_wp2_with (go_at_call 56; refine (H63.out _).mono ?_; rintro e w2 ⟨v, rfl, ho, hb2⟩; have HOB := Lib.hid (And.intro ho hb2); clear ho hb2)
  rcases own_str HOB.out.1 with ⟨_, he⟩ | ⟨gs, cc, rfl, hcc, hgs, hcells⟩
  · exact absurd (HW0.out.symm.trans (by rw [he])) (by simp)
  obtain ⟨N, hN⟩ : ∃ N, ps.length = N := ⟨_, rfl⟩
  rw [hN] at hcc ⊢
  obtain ⟨g, hg⟩ : ∃ g, w2.heap.size = g := ⟨_, rfl⟩
  obtain ⟨W3, hW3⟩ : ∃ W3, w2.alloc (.cells (aC zC) 49) = W3 := ⟨_, rfl⟩
  have HP3 := Lib.hid (show PI r gs g ps zC w W3 by
    have h1 := (HOB.out.1.lt gs rfl).1
    have h2 := HS1.out
    rw [← hW3]
    refine ⟨(HB1.out.2.keep HOB.out.2).keep (below_alloc _ _), by rw [← hg]; exact Row.new w2 (cC zC) 49, fun j x hx => ?_, Below.trans HB1.out.1 ((Below.step HOB.out.2 (below_alloc _ _)).mono (by omega)), by omega, by omega⟩
    have := hcells j x hx
    rw [Nat.zero_add] at this
    exact cell_below this (below_alloc _ _))
  have HN1 := Lib.hid (show 0 < N by rw [← hN]; have := List.getElem?_eq_some_iff.1 HW0.out; obtain ⟨h, _⟩ := this; omega)
  have HNL := Lib.hid hN
  clear hcc hgs hcells hN
  rw [hW3, hg]
  clear hW3 hg hW1
  go_loopw [6] (fun i wr => ∃ k : Nat, k ≤ 11 ∧ i = .int .i64 ((k : Int) + 1) ∧ PI r gs g ps { zC with verb := ((vb w0 k : Nat) : Int) } w wr) (fun i _ => 13 - (intOf i).toNat)
  case atStart => exact ⟨0, by omega, rfl, HP3.out⟩
  case round =>
    obtain ⟨k, hk, rfl, hpi⟩ := hrel
    have HI := Lib.hid hpi
    clear hpi
    by_cases hlt : k < 11
    · have q1 : (k : Int) + 1 ≤ 11 := by omega
      obtain ⟨nm, hnm⟩ : ∃ nm, nmB ((k : Int) + 1) = nm := ⟨_, rfl⟩
      have HNM := Lib.hid (fun w1 => name24 ((k : Int) + 1) w1)
      rw [hnm] at HNM
      have HP := Lib.hid (And.intro True.intro (show ∀ u, Below wr.heap.size wr u → u.cell? ⟨gs, 0, none⟩ = some (.string w0) from fun u hu => (HI.out.keep hu).ws 0 w0 HW0.out))
      have HVB := Lib.hid (vb_step w0 k hlt)
      rw [hnm] at HVB
      obtain ⟨bb, hbb⟩ : ∃ bb, decide (nm = w0) = bb := ⟨_, rfl⟩
      have HBB := Lib.hid (show (nm.toList == w0.toList) = bb by rw [beqL, hbb])
      have HBD := Lib.hid hbb
      clear hnm hbb
      go_wp2
      refine AnyO.wp_any (by kernel_rfl) (by kernel_rfl) (pstP [isV (.int .i64 ((k : Int) + 1)), isV (.string nm), isV (.slice (some ⟨gs, 0, none⟩) N cc), isV (.pointer (some ⟨gs, 0, none⟩)), isV (.string w0), isV (.bool bb)]) (MonoL.cons (Mono.v _) (MonoL.cons (Mono.v _) (MonoL.cons (Mono.v _) (MonoL.cons (Mono.v _) (MonoL.cons (Mono.v _) (MonoL.cons (Mono.v _) MonoL.nil)))))) ?_ ?_
      · intro i hi
        have hi2 : i = 0 ∨ i = 1 ∨ i = 2 ∨ i = 3 ∨ i = 4 ∨ i = 5 := by simp only [List.size_toArray, List.length_cons, List.length_nil] at hi; omega
        clear hi
        rcases hi2 with rfl | rfl | rfl | rfl | rfl | rfl
        · -- 0: Op.move (Operand.tmp 6)
          refine AnyO.Step.mk rfl [] (by kernel_rfl) ?_
          intro vs u hE hp ac hb K hK
          have s6 : ac.tmps[6]?.getD undef = .int .i64 ((k : Int) + 1) := by rw [hb]; kernel_rfl
          rw [if_pos (AnyO.wanted_none rfl)]
          clear hb hp
          go_simp
          exact hK _ _ (Below.refl _ _) rfl
        · -- 1: Op.call { callee := Callee.value (Operand.func 24), args := 
          refine AnyO.Step.mk rfl [0] (by kernel_rfl) ?_
          intro vs u hE hp ac hb K hK
          have s20 : ac.tmps[20]?.getD undef = .int .i64 ((k : Int) + 1) := by rw [hb]; exact (show _ = vs 0 by kernel_rfl).trans (hp 0 (by decide))
          rw [if_pos (AnyO.wanted_none rfl)]
          clear hb hp
          go_simp
          go_at_call 57
          refine (HNM.out u).mono ?_
          rintro e w2 ⟨rfl, hb2⟩
          exact hK _ _ hb2 rfl
        · -- 2: Op.move (Operand.tmp 4)
          refine AnyO.Step.mk rfl [] (by kernel_rfl) ?_
          intro vs u hE hp ac hb K hK
          have s4 : ac.tmps[4]?.getD undef = .slice (some ⟨gs, 0, none⟩) N cc := by rw [hb]; kernel_rfl
          rw [if_pos (AnyO.wanted_none rfl)]
          clear hb hp
          go_simp
          exact hK _ _ (Below.refl _ _) rfl
        · -- 3: Op.indexAddr 72 (Operand.tmp 22) (Operand.const (Value.int I
          refine AnyO.Step.mk rfl [2] (by kernel_rfl) ?_
          intro vs u hE hp ac hb K hK
          have s22 : ac.tmps[22]?.getD undef = .slice (some ⟨gs, 0, none⟩) N cc := by rw [hb]; exact (show _ = vs 2 by kernel_rfl).trans (hp 2 (by decide))
          rw [if_pos (AnyO.wanted_none rfl)]
          clear hb hp
          have z1 := HN1.out
          go_simp
          exact hK _ _ (Below.refl _ _) rfl
        · -- 4: Op.load 9 (Operand.tmp 23)
          refine AnyO.Step.mk rfl [3] (by kernel_rfl) ?_
          intro vs u hE hp ac hb K hK
          have s23 : ac.tmps[23]?.getD undef = .pointer (some ⟨gs, 0, none⟩) := by rw [hb]; exact (show _ = vs 3 by kernel_rfl).trans (hp 3 (by decide))
          rw [if_pos (AnyO.wanted_none rfl)]
          clear hb hp
          have rr := HP.out.2 u (Below.step (below_drew _) hE)
          go_simp
          exact hK _ _ (Below.refl _ _) rfl
        · -- 5: Op.binOp BinOp.eql 9 (Operand.tmp 21) (Operand.tmp 24) 9
          refine AnyO.Step.mk rfl [1, 4] (by kernel_rfl) ?_
          intro vs u hE hp ac hb K hK
          have s21 : ac.tmps[21]?.getD undef = .string nm := by rw [hb]; exact (show _ = vs 1 by kernel_rfl).trans (hp 1 (by decide))
          have s24 : ac.tmps[24]?.getD undef = .string w0 := by rw [hb]; exact (show _ = vs 4 by kernel_rfl).trans (hp 4 (by decide))
          rw [if_pos (AnyO.wanted_none rfl)]
          clear hb hp
          have z1 := HBB.out
          go_simp
          exact hK _ _ (Below.refl _ _) rfl
      · intro vs u hE hp
        have e0 : vs 0 = .int .i64 ((k : Int) + 1) := hp 0 (by decide)
        have e1 : vs 1 = .string nm := hp 1 (by decide)
        have e2 : vs 2 = .slice (some ⟨gs, 0, none⟩) N cc := hp 2 (by decide)
        have e3 : vs 3 = .pointer (some ⟨gs, 0, none⟩) := hp 3 (by decide)
        have e4 : vs 4 = .string w0 := hp 4 (by decide)
        have e5 : vs 5 = .bool bb := hp 5 (by decide)
        clear hp
        have HE := Lib.hid hE
        clear hE
        rw [puts_range [some 20, some 21, some 22, some 23, some 24, some 25] (by kernel_rfl)]
        simp only [putL, Nat.reduceAdd, e0, e1, e2, e3, e4, e5]
        clear e0 e1 e2 e3 e4 e5
        go_simp
        have HIU := Lib.hid (HI.out.keep HE.out)
        cases bb with
        | true =>
          have HV1 := Lib.hid (show vb w0 (k + 1) = k + 1 by rw [HVB.out, if_pos (of_decide_eq_true HBD.out)])
          have c0 : u.cell? ⟨g, 0, none⟩ = some (.int .i64 ((vb w0 k : Nat) : Int)) := HIU.out.out.cell 0
          have f0 := HIU.out.out.fz 0
          have HI2 := Lib.hid (HIU.out.set 0 (.int .i64 ((k : Int) + 1)) (cC_set0 _ _))
          go_wp2
          go_roundw
          case rel => exact ⟨k + 1, by omega, by go_num, by rw [HV1.out]; exact HI2.out⟩
          case measure => simp [intOf] <;> omega
        | false =>
          have HV1 := Lib.hid (show vb w0 (k + 1) = vb w0 k by rw [HVB.out, if_neg (of_decide_eq_false HBD.out)])
          go_wp2
          go_roundw
          case rel => exact ⟨k + 1, by omega, by go_num, by rw [HV1.out]; exact HIU.out⟩
          case measure => simp [intOf] <;> omega
    · obtain rfl : k = 11 := by omega
      have h11 := vb_le w0 11
      obtain ⟨v, hv⟩ : ∃ v, vb w0 11 = v := ⟨_, rfl⟩
      rw [hv] at HI h11
      have HVV := Lib.hid hv
      have HVH := Lib.hid (show vb (ps.headD ⟨#[]⟩) 11 = v by rw [HHD.out, hv])
      clear hv
      have hcs : v = 0 ∨ v = 1 ∨ v = 2 ∨ v = 3 ∨ v = 4 ∨ v = 5 ∨ v = 6 ∨ v = 7 ∨ v = 8 ∨ v = 9 ∨ v = 10 ∨ v = 11 := by omega
      clear h11
      rcases hcs with rfl | rfl | rfl | rfl | rfl | rfl | rfl | rfl | rfl | rfl | rfl | rfl
      · have c0 : wr.cell? ⟨g, 0, none⟩ = some (.int .i64 0) := HI.out.out.cell 0
        obtain ⟨rk, hf1, hf2⟩ := HI.out.fail
        have HF := Lib.hid (And.intro hf1 hf2)
        clear hf1 hf2
        go_wp2
        exact bodyPost_ret (v := .tuple #[vC zC, .bool false]) (results_c2 (ad := ⟨r, 0, none⟩) rfl rfl (ld_row31 zC HF.out.1) rfl) rfl ⟨zC, false, rfl, by rw [HPL.out]; exact Agree.no (parse_ne ps 0 HVH.out (Or.inl rfl)), by rw [HRR.out]; exact HF.out.2⟩
      · have c0 : wr.cell? ⟨g, 0, none⟩ = some (.int .i64 1) := HI.out.out.cell 0
        by_cases hwant : N = 3
        case neg =>
          have q1 : ((N : Int) != 3) = true := by rw [bne_iff_ne]; omega
          obtain ⟨rk, hf1, hf2⟩ := HI.out.fail
          have HF := Lib.hid (And.intro hf1 hf2)
          clear hf1 hf2
          go_wp2
          exact bodyPost_ret (v := .tuple #[vC zC, .bool false]) (results_c2 (ad := ⟨r, 0, none⟩) rfl rfl (ld_row31 zC HF.out.1) rfl) rfl ⟨zC, false, rfl, by rw [HPL.out]; exact Agree.no (parse_ne ps 1 HVH.out (Or.inr (fun e => hwant (HNL.out.symm.trans e)))), by rw [HRR.out]; exact HF.out.2⟩
        subst hwant
        obtain ⟨a0, w1, w2, hpq⟩ := len3 ps HNL.out
        have HPQ := Lib.hid hpq
        obtain rfl : w0 = a0 := by have h := HW0.out; rw [hpq] at h; exact (Option.some.inj h).symm
        have HZ1 := Lib.hid (HPZ.out.1 w1 (by rw [hpq]; simp))
        have HX1 := Lib.hid (show ps[1]? = some w1 by rw [hpq]; rfl)
        have HZ2 := Lib.hid (HPZ.out.1 w2 (by rw [hpq]; simp))
        have HX2 := Lib.hid (show ps[2]? = some w2 by rw [hpq]; rfl)
        clear hpq
        have O3 : PI r gs g ps ⟨1, ⟨#[]⟩, zI, 0, 0, 0, 0, ⟨#[]⟩⟩ w wr := HI.out
        have p2 : wr.cell? ⟨gs, 2, none⟩ = some (.string w2) := O3.ws 2 w2 HX2.out
        have H64 := Lib.hid (fun w1 => number64 w2 w1 HZ2.out)
        obtain ⟨n, hn⟩ : ∃ n, numN (bl w2) = n := ⟨_, rfl⟩
        rw [hn] at H64
        have HNN := Lib.hid hn
        clear hn
        by_cases hneg : n < 0
        case pos =>
          obtain ⟨rk, hf1, hf2⟩ := O3.fail
          have HF := Lib.hid (And.intro hf1 hf2)
          clear hf1 hf2
          clear O3
          go_wp2_with (go_at_call 58; refine (H64.out _).mono ?_; rintro e w5 ⟨rfl, rfl⟩)
          exact bodyPost_ret (v := .tuple #[vC zC, .bool false]) (results_c2 (ad := ⟨r, 0, none⟩) rfl rfl (ld_row31 zC HF.out.1) rfl) rfl ⟨zC, false, rfl, by rw [HPL.out]; exact Agree.no (by rw [HPQ.out]; exact nonum_v1 w0 w1 w2 HVV.out (by rw [HNN.out]; exact hneg)), by rw [HRR.out]; exact HF.out.2⟩
        have p1 : wr.cell? ⟨gs, 1, none⟩ = some (.string w1) := O3.ws 1 w1 HX1.out
        have g3 : wr.cell? ⟨g, 1, none⟩ = some (.string ⟨#[]⟩) := O3.out.cell 1
        have f3 := O3.out.fz 1
        have O4 : PI r gs g ps ⟨1, w1, zI, 0, 0, 0, 0, ⟨#[]⟩⟩ w (wr.setCell ⟨g, 1, none⟩ (.string w1)) := O3.set 1 _ (cC_set1 _ _)
        obtain ⟨W4, hW4⟩ : ∃ W4, wr.setCell ⟨g, 1, none⟩ (.string w1) = W4 := ⟨_, rfl⟩
        rw [hW4] at O4
        have g4 : W4.cell? ⟨g, 36, none⟩ = some (.int .i64 0) := (O4.out.cell 36).trans (cC_at (aC_36 _))
        have f4 := O4.out.fz 36
        have O5 : PI r gs g ps ⟨1, w1, zI, 0, 0, n, 0, ⟨#[]⟩⟩ w (W4.setCell ⟨g, 36, none⟩ (.int .i64 n)) := O4.set 36 _ (cC_set36 _ _)
        obtain ⟨W5, hW5⟩ : ∃ W5, W4.setCell ⟨g, 36, none⟩ (.int .i64 n) = W5 := ⟨_, rfl⟩
        rw [hW5] at O5
        have v5 : W5.cell? ⟨g, 0, none⟩ = some (.int .i64 1) := O5.out.cell 0
        have HO := Lib.hid O5
        clear O3 O4 O5
        have HAG0 := Lib.hid (agree_v1 w0 w1 w2 HVV.out)
        rw [HNN.out] at HAG0
        rw [← HPQ.out] at HAG0
        obtain ⟨cF, hcF⟩ : ∃ cF : Cm, ⟨1, w1, zI, 0, 0, n, 0, ⟨#[]⟩⟩ = cF := ⟨_, rfl⟩
        obtain ⟨xF, hxF⟩ : ∃ xF : Cm, cF = xF := ⟨_, rfl⟩
        have H22 := Lib.hid (fun w1a => refCheck22 xF w1a (by rw [← hxF, ← hcF]; exact HZ1.out) (by rw [← hxF, ← hcF]; exact Nat.zero_le _))
        unfold RchkP at H22
        obtain ⟨q, hq⟩ : ∃ q, chk xF = q := ⟨_, rfl⟩
        rw [hq] at H22
        have HAG := Lib.hid (show Agree cF (q == 0) (parseW ps) by rw [← hq, ← hxF, ← hcF]; exact HAG0.out)
        have HCF := Lib.hid hcF
        have HXF := Lib.hid hxF
        clear hq hcF hxF
        have HOF := Lib.hid (show PI r gs g ps cF w W5 by rw [← HCF.out]; exact HO.out)
        obtain ⟨ok5, rd5⟩ : okA W5 ⟨g, 0, none⟩ 39 = true ∧ rdA W5 ⟨g, 0, none⟩ 39 = vC cF := ⟨okC HOF.out.out, rdC HOF.out.out⟩
        obtain ⟨gx, hgx⟩ : ∃ gx, W5.heap.size = gx := ⟨_, rfl⟩
        obtain ⟨W7, hW7⟩ : ∃ W7, W5.alloc (.cells (aC cF) 49) = W7 := ⟨_, rfl⟩
        have P7 : PI r gs g ps cF w W7 := by rw [← hW7]; exact HOF.out.keep (below_alloc _ _)
        have X7 : Row W7 gx (cC cF) 49 := by rw [← hW7, ← hgx]; exact Row.new W5 (cC cF) 49
        have hlx : g < gx := by rw [← hgx]; exact HOF.out.out.lt
        have v7 : W7.cell? ⟨g, 0, none⟩ = some (.int .i64 1) := (P7.out.cell 0).trans (by rw [← HCF.out]; rfl)
        have HRI := Lib.hid (show RI r g gx cF xF zC w W7 from ⟨P7.out, by rw [← HXF.out]; exact X7, P7.res, P7.bel, by have := P7.lt1; have := P7.lt2; omega, by have := P7.lt1; have := P7.lt2; omega⟩)
        clear P7 X7 hlx
        go_wp2_with (go_at_call 58; refine (H64.out _).mono ?_; rintro e w5 ⟨rfl, rfl⟩)
        clear hgx hW7
        refine AnyO.wp_anyI (by kernel_rfl) (by kernel_rfl) (AnyO.InvG (σ := Unit) (fun σ => AnyO.pvL [some (vC cF), some (vC xF), some (.int .i64 q), some (.bool (q == 0)), none, some (.bool (q == 0))]) (fun _ D u => RI r g gx cF xF (bif D 4 then cF else zC) w u)) (AnyO.InvG.start (g := ()) (by show RI r g gx cF xF zC w _; exact HRI.out.keep (below_drew _))) ?_ ?_
        · intro i hi
          have hi2 : i = 0 ∨ i = 1 ∨ i = 2 ∨ i = 3 ∨ i = 4 ∨ i = 5 := by simp only [List.size_toArray, List.length_cons, List.length_nil] at hi; omega
          clear hi
          rcases hi2 with rfl | rfl | rfl | rfl | rfl | rfl
          · -- 0: Op.load 31 (Operand.tmp 5)
            refine AnyO.StepI.mk rfl [] (by kernel_rfl) ?_
            intro D vs u hI h0 hC hp ac hb K hK
            obtain ⟨σ, hP, hW⟩ := hI
            have s5 : ac.tmps[5]?.getD undef = .pointer (some ⟨g, 0, none⟩) := by rw [hb]; kernel_rfl
            rw [if_pos (AnyO.wanted_none rfl)]
            clear hb hp
            have rr1 := okC hW.out
            have rr2 := rdC hW.out
            clear hC
            clear h0
            have HP := Lib.hid hP
            have HWq := Lib.hid hW
            clear hP hW
            go_simp
            have hP := HP.out
            have hW := HWq.out
            clear HP HWq
            exact hK _ _ (AnyO.InvG.step (g := σ) hP rfl hW)
          · -- 1: Op.load 31 (Operand.tmp 12)
            refine AnyO.StepI.mk rfl [] (by kernel_rfl) ?_
            intro D vs u hI h0 hC hp ac hb K hK
            obtain ⟨σ, hP, hW⟩ := hI
            have s12 : ac.tmps[12]?.getD undef = .pointer (some ⟨gx, 0, none⟩) := by rw [hb]; kernel_rfl
            rw [if_pos (AnyO.wanted_none rfl)]
            clear hb hp
            have rr1 := okC hW.txt
            have rr2 := rdC hW.txt
            clear hC
            clear h0
            have HP := Lib.hid hP
            have HWq := Lib.hid hW
            clear hP hW
            go_simp
            have hP := HP.out
            have hW := HWq.out
            clear HP HWq
            exact hK _ _ (AnyO.InvG.step (g := σ) hP rfl hW)
          · -- 2: Op.call { callee := Callee.value (Operand.func 22), args := 
            refine AnyO.StepI.mk rfl [1] (by kernel_rfl) ?_
            intro D vs u hI h0 hC hp ac hb K hK
            obtain ⟨σ, hP, hW⟩ := hI
            have s110 : ac.tmps[110]?.getD undef = vC xF := by rw [hb]; exact (show _ = vs 1 by kernel_rfl).trans (show vs 1 = vC xF from hP 1 (hp 1 (by decide)))
            rw [if_pos (AnyO.wanted_none rfl)]
            clear hb hp
            clear hC
            clear h0
            have HP := Lib.hid hP
            have HWq := Lib.hid hW
            clear hP hW
            go_simp
            have hP := HP.out
            have hW := HWq.out
            clear HP HWq
            go_at_call 32
            refine (H22.out u).mono ?_
            rintro e w2 ⟨rfl, hb2⟩
            exact hK _ _ (AnyO.InvG.step (g := σ) hP rfl (hW.keep hb2))
          · -- 3: Op.binOp BinOp.eql 3 (Operand.tmp 111) (Operand.const (Value
            refine AnyO.StepI.mk rfl [2] (by kernel_rfl) ?_
            intro D vs u hI h0 hC hp ac hb K hK
            obtain ⟨σ, hP, hW⟩ := hI
            have s111 : ac.tmps[111]?.getD undef = .int .i64 q := by rw [hb]; exact (show _ = vs 2 by kernel_rfl).trans (show vs 2 = .int .i64 q from hP 2 (hp 2 (by decide)))
            rw [if_pos (AnyO.wanted_none rfl)]
            clear hb hp
            clear hC
            clear h0
            have HP := Lib.hid hP
            have HWq := Lib.hid hW
            clear hP hW
            go_simp
            have hP := HP.out
            have hW := HWq.out
            clear HP HWq
            exact hK _ _ (AnyO.InvG.step (g := σ) hP rfl hW)
          · -- 4: Op.store 31 (Operand.tmp 2) (Operand.tmp 109)
            refine AnyO.StepI.mk rfl [0, 2, 0] (by kernel_rfl) ?_
            intro D vs u hI h0 hC hp ac hb K hK
            obtain ⟨σ, hP, hW⟩ := hI
            have s2 : ac.tmps[2]?.getD undef = .pointer (some ⟨r, 0, none⟩) := by rw [hb]; kernel_rfl
            have s109 : ac.tmps[109]?.getD undef = vC cF := by rw [hb]; exact (show _ = vs 0 by kernel_rfl).trans (show vs 0 = vC cF from hP 0 (hp 0 (by decide)))
            rw [if_pos (AnyO.wanted_none rfl)]
            clear hb hp
            have rr1 := Row.rowOk' hW.res (cC_length _)
            clear hC
            have HP := Lib.hid hP
            have HWq := Lib.hid hW
            clear hP hW
            go_simp
            have hP := HP.out
            have hW := HWq.out
            clear HP HWq
            refine hK undef _ (AnyO.InvG.step (g := σ) hP trivial ?_)
            show RI r g gx cF xF cF w _
            exact hW.put
          · -- 5: Op.assign (Operand.tmp 112)
            refine AnyO.StepI.mk rfl [3, 4, 0, 1, 2, 3, 4] (by kernel_rfl) ?_
            intro D vs u hI h0 hC hp ac hb K hK
            obtain ⟨σ, hP, hW⟩ := hI
            have s112 : ac.tmps[112]?.getD undef = .bool (q == 0) := by rw [hb]; exact (show _ = vs 3 by kernel_rfl).trans (show vs 3 = .bool (q == 0) from hP 3 (hp 3 (by decide)))
            rw [if_pos (AnyO.wanted_none rfl)]
            clear hb hp
            clear hC
            clear h0
            have HP := Lib.hid hP
            have HWq := Lib.hid hW
            clear hP hW
            go_simp
            have hP := HP.out
            have hW := HWq.out
            clear HP HWq
            exact hK _ _ (AnyO.InvG.step (g := σ) hP rfl hW)
        · intro D vs u hI hD
          obtain ⟨σ, hP, hW⟩ := hI
          have e0 : vs 0 = vC cF := hP 0 (hD 0 (by decide))
          have e1 : vs 1 = vC xF := hP 1 (hD 1 (by decide))
          have e2 : vs 2 = .int .i64 q := hP 2 (hD 2 (by decide))
          have e3 : vs 3 = .bool (q == 0) := hP 3 (hD 3 (by decide))
          have e5 : vs 5 = .bool (q == 0) := hP 5 (hD 5 (by decide))
          rw [hD 4 (by decide)] at hW
          change RI r g gx cF xF cF w u at hW
          have HW := Lib.hid hW
          clear hW hP hD
          rw [puts_range [some 109, some 110, some 111, some 112, none, some 3] (by kernel_rfl)]
          simp only [putL, Nat.reduceAdd, e0, e1, e2, e3, e5]
          clear e0 e1 e2 e3 e5
          go_simp
          go_wp2
          exact bodyPost_ret (v := .tuple #[vC cF, .bool (q == 0)]) (results_c2 (ad := ⟨r, 0, none⟩) rfl rfl (ld_row31 cF HW.out.res) rfl) rfl ⟨cF, q == 0, rfl, by rw [HPL.out]; exact HAG.out, by rw [HRR.out]; exact HW.out.bel⟩
      · have c0 : wr.cell? ⟨g, 0, none⟩ = some (.int .i64 2) := HI.out.out.cell 0
        by_cases hwant : N = 3
        case neg =>
          have q1 : ((N : Int) != 3) = true := by rw [bne_iff_ne]; omega
          obtain ⟨rk, hf1, hf2⟩ := HI.out.fail
          have HF := Lib.hid (And.intro hf1 hf2)
          clear hf1 hf2
          go_wp2
          exact bodyPost_ret (v := .tuple #[vC zC, .bool false]) (results_c2 (ad := ⟨r, 0, none⟩) rfl rfl (ld_row31 zC HF.out.1) rfl) rfl ⟨zC, false, rfl, by rw [HPL.out]; exact Agree.no (parse_ne ps 2 HVH.out (Or.inr (fun e => hwant (HNL.out.symm.trans e)))), by rw [HRR.out]; exact HF.out.2⟩
        subst hwant
        obtain ⟨a0, w1, w2, hpq⟩ := len3 ps HNL.out
        have HPQ := Lib.hid hpq
        obtain rfl : w0 = a0 := by have h := HW0.out; rw [hpq] at h; exact (Option.some.inj h).symm
        have HZ1 := Lib.hid (HPZ.out.1 w1 (by rw [hpq]; simp))
        have HX1 := Lib.hid (show ps[1]? = some w1 by rw [hpq]; rfl)
        have HZ2 := Lib.hid (HPZ.out.1 w2 (by rw [hpq]; simp))
        have HX2 := Lib.hid (show ps[2]? = some w2 by rw [hpq]; rfl)
        clear hpq
        have O3 : PI r gs g ps ⟨2, ⟨#[]⟩, zI, 0, 0, 0, 0, ⟨#[]⟩⟩ w wr := HI.out
        have p2 : wr.cell? ⟨gs, 2, none⟩ = some (.string w2) := O3.ws 2 w2 HX2.out
        have H64 := Lib.hid (fun w1 => number64 w2 w1 HZ2.out)
        obtain ⟨n, hn⟩ : ∃ n, numN (bl w2) = n := ⟨_, rfl⟩
        rw [hn] at H64
        have HNN := Lib.hid hn
        clear hn
        by_cases hneg : n < 0
        case pos =>
          obtain ⟨rk, hf1, hf2⟩ := O3.fail
          have HF := Lib.hid (And.intro hf1 hf2)
          clear hf1 hf2
          clear O3
          go_wp2_with (go_at_call 58; refine (H64.out _).mono ?_; rintro e w5 ⟨rfl, rfl⟩)
          exact bodyPost_ret (v := .tuple #[vC zC, .bool false]) (results_c2 (ad := ⟨r, 0, none⟩) rfl rfl (ld_row31 zC HF.out.1) rfl) rfl ⟨zC, false, rfl, by rw [HPL.out]; exact Agree.no (by rw [HPQ.out]; exact nonum_v2 w0 w1 w2 HVV.out (by rw [HNN.out]; exact hneg)), by rw [HRR.out]; exact HF.out.2⟩
        have g3 : wr.cell? ⟨g, 34, none⟩ = some (.int .i64 0) := (O3.out.cell 34).trans (cC_at (aC_34 _))
        have f3 := O3.out.fz 34
        have O4 : PI r gs g ps ⟨2, ⟨#[]⟩, zI, n, 0, 0, 0, ⟨#[]⟩⟩ w (wr.setCell ⟨g, 34, none⟩ (.int .i64 n)) := O3.set 34 _ (cC_set34 _ _)
        obtain ⟨W4, hW4⟩ : ∃ W4, wr.setCell ⟨g, 34, none⟩ (.int .i64 n) = W4 := ⟨_, rfl⟩
        rw [hW4] at O4
        have v4 : W4.cell? ⟨g, 0, none⟩ = some (.int .i64 2) := O4.out.cell 0
        have p1 : W4.cell? ⟨gs, 1, none⟩ = some (.string w1) := O4.ws 1 w1 HX1.out
        have H65 := Lib.hid (fun w1a => refParse65 w1 w1a HZ1.out)
        unfold RpaP at H65
        have HO := Lib.hid O4
        clear O3 O4
        cases hid : identB (bl w1) with
        | false =>
          rw [hid] at H65
          have HID := Lib.hid hid
          clear hid
          go_wp2_with (first | (go_at_call 58; refine (H64.out _).mono ?_; rintro e w5 ⟨rfl, rfl⟩) | (go_at_call 59; refine (H65.out _).mono ?_; rintro e w5 ⟨a, m, rfl, hm, hb5⟩; have hm2 : (m != 0) = true := (by rw [bne_iff_ne]; exact of_decide_eq_false hm); obtain ⟨rk, hf1, hf2⟩ := (HO.out.keep (Below.step hb5 (below_alloc w5 (.cells (aI zI) 104)))).fail; have HF := Lib.hid (And.intro hf1 hf2); clear hm hb5 hf1 hf2))
          exact bodyPost_ret (v := .tuple #[vC zC, .bool false]) (results_c2 (ad := ⟨r, 0, none⟩) rfl rfl (ld_row31 zC HF.out.1) rfl) rfl ⟨zC, false, rfl, by rw [HPL.out]; exact Agree.no (by rw [HPQ.out]; exact noid_v2 w0 w1 w2 HVV.out HID.out), by rw [HRR.out]; exact HF.out.2⟩
        | true =>
          rw [hid, if_pos rfl] at H65
          obtain ⟨x, hx⟩ : ∃ x, midL (bl w1) = x := ⟨_, rfl⟩
          rw [hx] at H65
          have HID := Lib.hid (And.intro hid hx)
          clear hid hx
          have HAG0 := Lib.hid (agree_v2 w0 w1 w2 HVV.out HID.out.1)
          rw [HNN.out] at HAG0
          rw [HID.out.2] at HAG0
          rw [← HPQ.out] at HAG0
          obtain ⟨cF, hcF⟩ : ∃ cF : Cm, ⟨2, ⟨#[]⟩, x, n, 0, 0, 0, ⟨#[]⟩⟩ = cF := ⟨_, rfl⟩
          obtain ⟨xF, hxF⟩ : ∃ xF : Cm, cF = xF := ⟨_, rfl⟩
          have H22 := Lib.hid (fun w1a => refCheck22 xF w1a (by rw [← hxF, ← hcF]; exact Nat.zero_le _) (by rw [← hxF, ← hcF]; exact Nat.zero_le _))
          unfold RchkP at H22
          obtain ⟨q, hq⟩ : ∃ q, chk xF = q := ⟨_, rfl⟩
          rw [hq] at H22
          have HAG := Lib.hid (show Agree cF (q == 0) (parseW ps) by rw [← hq, ← hxF, ← hcF]; exact HAG0.out)
          have HCF := Lib.hid hcF
          have HXF := Lib.hid hxF
          clear hq hcF hxF
          go_wp2_with (first | (go_at_call 58; refine (H64.out _).mono ?_; rintro e w5 ⟨rfl, rfl⟩) | (go_at_call 59; refine (H65.out _).mono ?_; rintro e w5 ⟨a, m, rfl, hm, hb5⟩; have hm2 : (m != 0) = false := (by rw [bne_eq_false_iff_eq]; exact of_decide_eq_true hm); have P5 := HO.out.keep (Below.step hb5 (below_alloc w5 (.cells (aI x) 104))); have st5 : stOk (w5.alloc (.cells (aI x) 104)) g 2 32 = true := P5.out.ok _ 2 32 (by rw [cC_length]; omega); obtain ⟨W6, hW6⟩ : ∃ W6, stD (w5.alloc (.cells (aI x) 104)) g 2 (cI x) = W6 := ⟨_, rfl⟩; have P6 : PI r gs g ps cF w W6 := (by rw [← hW6, ← HCF.out]; exact P5.stI x); obtain ⟨ok5, rd5⟩ : okA W6 ⟨g, 0, none⟩ 39 = true ∧ rdA W6 ⟨g, 0, none⟩ 39 = vC cF := ⟨okC P6.out, rdC P6.out⟩; obtain ⟨gx, hgx⟩ : ∃ gx, W6.heap.size = gx := ⟨_, rfl⟩; obtain ⟨W7, hW7⟩ : ∃ W7, W6.alloc (.cells (aC cF) 49) = W7 := ⟨_, rfl⟩; have P7 : PI r gs g ps cF w W7 := (by rw [← hW7]; exact P6.keep (below_alloc _ _)); have X7 : Row W7 gx (cC cF) 49 := (by rw [← hW7, ← hgx]; exact Row.new W6 (cC cF) 49); have hlx : g < gx := (by rw [← hgx]; exact P6.out.lt); have v7 : W7.cell? ⟨g, 0, none⟩ = some (.int .i64 2) := (P7.out.cell 0).trans (by rw [← HCF.out]; rfl); have HRI := Lib.hid (show RI r g gx cF xF zC w W7 from ⟨P7.out, by rw [← HXF.out]; exact X7, P7.res, P7.bel, by have := P7.lt1; have := P7.lt2; omega, by have := P7.lt1; have := P7.lt2; omega⟩); clear P7 X7 hlx; clear P5 P6 hm hb5))
          clear hgx hW7
          refine AnyO.wp_anyI (by kernel_rfl) (by kernel_rfl) (AnyO.InvG (σ := Unit) (fun σ => AnyO.pvL [some (vC cF), some (vC xF), some (.int .i64 q), some (.bool (q == 0)), none, some (.bool (q == 0))]) (fun _ D u => RI r g gx cF xF (bif D 4 then cF else zC) w u)) (AnyO.InvG.start (g := ()) (by show RI r g gx cF xF zC w _; exact HRI.out.keep (below_drew _))) ?_ ?_
          · intro i hi
            have hi2 : i = 0 ∨ i = 1 ∨ i = 2 ∨ i = 3 ∨ i = 4 ∨ i = 5 := by simp only [List.size_toArray, List.length_cons, List.length_nil] at hi; omega
            clear hi
            rcases hi2 with rfl | rfl | rfl | rfl | rfl | rfl
            · -- 0: Op.load 31 (Operand.tmp 5)
              refine AnyO.StepI.mk rfl [] (by kernel_rfl) ?_
              intro D vs u hI h0 hC hp ac hb K hK
              obtain ⟨σ, hP, hW⟩ := hI
              have s5 : ac.tmps[5]?.getD undef = .pointer (some ⟨g, 0, none⟩) := by rw [hb]; kernel_rfl
              rw [if_pos (AnyO.wanted_none rfl)]
              clear hb hp
              have rr1 := okC hW.out
              have rr2 := rdC hW.out
              clear hC
              clear h0
              have HP := Lib.hid hP
              have HWq := Lib.hid hW
              clear hP hW
              go_simp
              have hP := HP.out
              have hW := HWq.out
              clear HP HWq
              exact hK _ _ (AnyO.InvG.step (g := σ) hP rfl hW)
            · -- 1: Op.load 31 (Operand.tmp 12)
              refine AnyO.StepI.mk rfl [] (by kernel_rfl) ?_
              intro D vs u hI h0 hC hp ac hb K hK
              obtain ⟨σ, hP, hW⟩ := hI
              have s12 : ac.tmps[12]?.getD undef = .pointer (some ⟨gx, 0, none⟩) := by rw [hb]; kernel_rfl
              rw [if_pos (AnyO.wanted_none rfl)]
              clear hb hp
              have rr1 := okC hW.txt
              have rr2 := rdC hW.txt
              clear hC
              clear h0
              have HP := Lib.hid hP
              have HWq := Lib.hid hW
              clear hP hW
              go_simp
              have hP := HP.out
              have hW := HWq.out
              clear HP HWq
              exact hK _ _ (AnyO.InvG.step (g := σ) hP rfl hW)
            · -- 2: Op.call { callee := Callee.value (Operand.func 22), args := 
              refine AnyO.StepI.mk rfl [1] (by kernel_rfl) ?_
              intro D vs u hI h0 hC hp ac hb K hK
              obtain ⟨σ, hP, hW⟩ := hI
              have s110 : ac.tmps[110]?.getD undef = vC xF := by rw [hb]; exact (show _ = vs 1 by kernel_rfl).trans (show vs 1 = vC xF from hP 1 (hp 1 (by decide)))
              rw [if_pos (AnyO.wanted_none rfl)]
              clear hb hp
              clear hC
              clear h0
              have HP := Lib.hid hP
              have HWq := Lib.hid hW
              clear hP hW
              go_simp
              have hP := HP.out
              have hW := HWq.out
              clear HP HWq
              go_at_call 32
              refine (H22.out u).mono ?_
              rintro e w2 ⟨rfl, hb2⟩
              exact hK _ _ (AnyO.InvG.step (g := σ) hP rfl (hW.keep hb2))
            · -- 3: Op.binOp BinOp.eql 3 (Operand.tmp 111) (Operand.const (Value
              refine AnyO.StepI.mk rfl [2] (by kernel_rfl) ?_
              intro D vs u hI h0 hC hp ac hb K hK
              obtain ⟨σ, hP, hW⟩ := hI
              have s111 : ac.tmps[111]?.getD undef = .int .i64 q := by rw [hb]; exact (show _ = vs 2 by kernel_rfl).trans (show vs 2 = .int .i64 q from hP 2 (hp 2 (by decide)))
              rw [if_pos (AnyO.wanted_none rfl)]
              clear hb hp
              clear hC
              clear h0
              have HP := Lib.hid hP
              have HWq := Lib.hid hW
              clear hP hW
              go_simp
              have hP := HP.out
              have hW := HWq.out
              clear HP HWq
              exact hK _ _ (AnyO.InvG.step (g := σ) hP rfl hW)
            · -- 4: Op.store 31 (Operand.tmp 2) (Operand.tmp 109)
              refine AnyO.StepI.mk rfl [0, 2, 0] (by kernel_rfl) ?_
              intro D vs u hI h0 hC hp ac hb K hK
              obtain ⟨σ, hP, hW⟩ := hI
              have s2 : ac.tmps[2]?.getD undef = .pointer (some ⟨r, 0, none⟩) := by rw [hb]; kernel_rfl
              have s109 : ac.tmps[109]?.getD undef = vC cF := by rw [hb]; exact (show _ = vs 0 by kernel_rfl).trans (show vs 0 = vC cF from hP 0 (hp 0 (by decide)))
              rw [if_pos (AnyO.wanted_none rfl)]
              clear hb hp
              have rr1 := Row.rowOk' hW.res (cC_length _)
              clear hC
              have HP := Lib.hid hP
              have HWq := Lib.hid hW
              clear hP hW
              go_simp
              have hP := HP.out
              have hW := HWq.out
              clear HP HWq
              refine hK undef _ (AnyO.InvG.step (g := σ) hP trivial ?_)
              show RI r g gx cF xF cF w _
              exact hW.put
            · -- 5: Op.assign (Operand.tmp 112)
              refine AnyO.StepI.mk rfl [3, 4, 0, 1, 2, 3, 4] (by kernel_rfl) ?_
              intro D vs u hI h0 hC hp ac hb K hK
              obtain ⟨σ, hP, hW⟩ := hI
              have s112 : ac.tmps[112]?.getD undef = .bool (q == 0) := by rw [hb]; exact (show _ = vs 3 by kernel_rfl).trans (show vs 3 = .bool (q == 0) from hP 3 (hp 3 (by decide)))
              rw [if_pos (AnyO.wanted_none rfl)]
              clear hb hp
              clear hC
              clear h0
              have HP := Lib.hid hP
              have HWq := Lib.hid hW
              clear hP hW
              go_simp
              have hP := HP.out
              have hW := HWq.out
              clear HP HWq
              exact hK _ _ (AnyO.InvG.step (g := σ) hP rfl hW)
          · intro D vs u hI hD
            obtain ⟨σ, hP, hW⟩ := hI
            have e0 : vs 0 = vC cF := hP 0 (hD 0 (by decide))
            have e1 : vs 1 = vC xF := hP 1 (hD 1 (by decide))
            have e2 : vs 2 = .int .i64 q := hP 2 (hD 2 (by decide))
            have e3 : vs 3 = .bool (q == 0) := hP 3 (hD 3 (by decide))
            have e5 : vs 5 = .bool (q == 0) := hP 5 (hD 5 (by decide))
            rw [hD 4 (by decide)] at hW
            change RI r g gx cF xF cF w u at hW
            have HW := Lib.hid hW
            clear hW hP hD
            rw [puts_range [some 109, some 110, some 111, some 112, none, some 3] (by kernel_rfl)]
            simp only [putL, Nat.reduceAdd, e0, e1, e2, e3, e5]
            clear e0 e1 e2 e3 e5
            go_simp
            go_wp2
            exact bodyPost_ret (v := .tuple #[vC cF, .bool (q == 0)]) (results_c2 (ad := ⟨r, 0, none⟩) rfl rfl (ld_row31 cF HW.out.res) rfl) rfl ⟨cF, q == 0, rfl, by rw [HPL.out]; exact HAG.out, by rw [HRR.out]; exact HW.out.bel⟩
      · have c0 : wr.cell? ⟨g, 0, none⟩ = some (.int .i64 3) := HI.out.out.cell 0
        by_cases hwant : N = 3
        case neg =>
          have q1 : ((N : Int) != 3) = true := by rw [bne_iff_ne]; omega
          obtain ⟨rk, hf1, hf2⟩ := HI.out.fail
          have HF := Lib.hid (And.intro hf1 hf2)
          clear hf1 hf2
          go_wp2
          exact bodyPost_ret (v := .tuple #[vC zC, .bool false]) (results_c2 (ad := ⟨r, 0, none⟩) rfl rfl (ld_row31 zC HF.out.1) rfl) rfl ⟨zC, false, rfl, by rw [HPL.out]; exact Agree.no (parse_ne ps 3 HVH.out (Or.inr (fun e => hwant (HNL.out.symm.trans e)))), by rw [HRR.out]; exact HF.out.2⟩
        subst hwant
        obtain ⟨a0, w1, w2, hpq⟩ := len3 ps HNL.out
        have HPQ := Lib.hid hpq
        obtain rfl : w0 = a0 := by have h := HW0.out; rw [hpq] at h; exact (Option.some.inj h).symm
        have HZ1 := Lib.hid (HPZ.out.1 w1 (by rw [hpq]; simp))
        have HX1 := Lib.hid (show ps[1]? = some w1 by rw [hpq]; rfl)
        have HZ2 := Lib.hid (HPZ.out.1 w2 (by rw [hpq]; simp))
        have HX2 := Lib.hid (show ps[2]? = some w2 by rw [hpq]; rfl)
        clear hpq
        have O3 : PI r gs g ps ⟨3, ⟨#[]⟩, zI, 0, 0, 0, 0, ⟨#[]⟩⟩ w wr := HI.out
        have p2 : wr.cell? ⟨gs, 2, none⟩ = some (.string w2) := O3.ws 2 w2 HX2.out
        have H64 := Lib.hid (fun w1 => number64 w2 w1 HZ2.out)
        obtain ⟨n, hn⟩ : ∃ n, numN (bl w2) = n := ⟨_, rfl⟩
        rw [hn] at H64
        have HNN := Lib.hid hn
        clear hn
        by_cases hneg : n < 0
        case pos =>
          obtain ⟨rk, hf1, hf2⟩ := O3.fail
          have HF := Lib.hid (And.intro hf1 hf2)
          clear hf1 hf2
          clear O3
          go_wp2_with (go_at_call 58; refine (H64.out _).mono ?_; rintro e w5 ⟨rfl, rfl⟩)
          exact bodyPost_ret (v := .tuple #[vC zC, .bool false]) (results_c2 (ad := ⟨r, 0, none⟩) rfl rfl (ld_row31 zC HF.out.1) rfl) rfl ⟨zC, false, rfl, by rw [HPL.out]; exact Agree.no (by rw [HPQ.out]; exact nonum_v3 w0 w1 w2 HVV.out (by rw [HNN.out]; exact hneg)), by rw [HRR.out]; exact HF.out.2⟩
        have g3 : wr.cell? ⟨g, 35, none⟩ = some (.int .i64 0) := (O3.out.cell 35).trans (cC_at (aC_35 _))
        have f3 := O3.out.fz 35
        have O4 : PI r gs g ps ⟨3, ⟨#[]⟩, zI, 0, n, 0, 0, ⟨#[]⟩⟩ w (wr.setCell ⟨g, 35, none⟩ (.int .i64 n)) := O3.set 35 _ (cC_set35 _ _)
        obtain ⟨W4, hW4⟩ : ∃ W4, wr.setCell ⟨g, 35, none⟩ (.int .i64 n) = W4 := ⟨_, rfl⟩
        rw [hW4] at O4
        have v4 : W4.cell? ⟨g, 0, none⟩ = some (.int .i64 3) := O4.out.cell 0
        have p1 : W4.cell? ⟨gs, 1, none⟩ = some (.string w1) := O4.ws 1 w1 HX1.out
        have H65 := Lib.hid (fun w1a => refParse65 w1 w1a HZ1.out)
        unfold RpaP at H65
        have HO := Lib.hid O4
        clear O3 O4
        cases hid : identB (bl w1) with
        | false =>
          rw [hid] at H65
          have HID := Lib.hid hid
          clear hid
          go_wp2_with (first | (go_at_call 58; refine (H64.out _).mono ?_; rintro e w5 ⟨rfl, rfl⟩) | (go_at_call 59; refine (H65.out _).mono ?_; rintro e w5 ⟨a, m, rfl, hm, hb5⟩; have hm2 : (m != 0) = true := (by rw [bne_iff_ne]; exact of_decide_eq_false hm); obtain ⟨rk, hf1, hf2⟩ := (HO.out.keep (Below.step hb5 (below_alloc w5 (.cells (aI zI) 104)))).fail; have HF := Lib.hid (And.intro hf1 hf2); clear hm hb5 hf1 hf2))
          exact bodyPost_ret (v := .tuple #[vC zC, .bool false]) (results_c2 (ad := ⟨r, 0, none⟩) rfl rfl (ld_row31 zC HF.out.1) rfl) rfl ⟨zC, false, rfl, by rw [HPL.out]; exact Agree.no (by rw [HPQ.out]; exact noid_v3 w0 w1 w2 HVV.out HID.out), by rw [HRR.out]; exact HF.out.2⟩
        | true =>
          rw [hid, if_pos rfl] at H65
          obtain ⟨x, hx⟩ : ∃ x, midL (bl w1) = x := ⟨_, rfl⟩
          rw [hx] at H65
          have HID := Lib.hid (And.intro hid hx)
          clear hid hx
          have HAG0 := Lib.hid (agree_v3 w0 w1 w2 HVV.out HID.out.1)
          rw [HNN.out] at HAG0
          rw [HID.out.2] at HAG0
          rw [← HPQ.out] at HAG0
          obtain ⟨cF, hcF⟩ : ∃ cF : Cm, ⟨3, ⟨#[]⟩, x, 0, n, 0, 0, ⟨#[]⟩⟩ = cF := ⟨_, rfl⟩
          obtain ⟨xF, hxF⟩ : ∃ xF : Cm, cF = xF := ⟨_, rfl⟩
          have H22 := Lib.hid (fun w1a => refCheck22 xF w1a (by rw [← hxF, ← hcF]; exact Nat.zero_le _) (by rw [← hxF, ← hcF]; exact Nat.zero_le _))
          unfold RchkP at H22
          obtain ⟨q, hq⟩ : ∃ q, chk xF = q := ⟨_, rfl⟩
          rw [hq] at H22
          have HAG := Lib.hid (show Agree cF (q == 0) (parseW ps) by rw [← hq, ← hxF, ← hcF]; exact HAG0.out)
          have HCF := Lib.hid hcF
          have HXF := Lib.hid hxF
          clear hq hcF hxF
          go_wp2_with (first | (go_at_call 58; refine (H64.out _).mono ?_; rintro e w5 ⟨rfl, rfl⟩) | (go_at_call 59; refine (H65.out _).mono ?_; rintro e w5 ⟨a, m, rfl, hm, hb5⟩; have hm2 : (m != 0) = false := (by rw [bne_eq_false_iff_eq]; exact of_decide_eq_true hm); have P5 := HO.out.keep (Below.step hb5 (below_alloc w5 (.cells (aI x) 104))); have st5 : stOk (w5.alloc (.cells (aI x) 104)) g 2 32 = true := P5.out.ok _ 2 32 (by rw [cC_length]; omega); obtain ⟨W6, hW6⟩ : ∃ W6, stD (w5.alloc (.cells (aI x) 104)) g 2 (cI x) = W6 := ⟨_, rfl⟩; have P6 : PI r gs g ps cF w W6 := (by rw [← hW6, ← HCF.out]; exact P5.stI x); obtain ⟨ok5, rd5⟩ : okA W6 ⟨g, 0, none⟩ 39 = true ∧ rdA W6 ⟨g, 0, none⟩ 39 = vC cF := ⟨okC P6.out, rdC P6.out⟩; obtain ⟨gx, hgx⟩ : ∃ gx, W6.heap.size = gx := ⟨_, rfl⟩; obtain ⟨W7, hW7⟩ : ∃ W7, W6.alloc (.cells (aC cF) 49) = W7 := ⟨_, rfl⟩; have P7 : PI r gs g ps cF w W7 := (by rw [← hW7]; exact P6.keep (below_alloc _ _)); have X7 : Row W7 gx (cC cF) 49 := (by rw [← hW7, ← hgx]; exact Row.new W6 (cC cF) 49); have hlx : g < gx := (by rw [← hgx]; exact P6.out.lt); have v7 : W7.cell? ⟨g, 0, none⟩ = some (.int .i64 3) := (P7.out.cell 0).trans (by rw [← HCF.out]; rfl); have HRI := Lib.hid (show RI r g gx cF xF zC w W7 from ⟨P7.out, by rw [← HXF.out]; exact X7, P7.res, P7.bel, by have := P7.lt1; have := P7.lt2; omega, by have := P7.lt1; have := P7.lt2; omega⟩); clear P7 X7 hlx; clear P5 P6 hm hb5))
          clear hgx hW7
          refine AnyO.wp_anyI (by kernel_rfl) (by kernel_rfl) (AnyO.InvG (σ := Unit) (fun σ => AnyO.pvL [some (vC cF), some (vC xF), some (.int .i64 q), some (.bool (q == 0)), none, some (.bool (q == 0))]) (fun _ D u => RI r g gx cF xF (bif D 4 then cF else zC) w u)) (AnyO.InvG.start (g := ()) (by show RI r g gx cF xF zC w _; exact HRI.out.keep (below_drew _))) ?_ ?_
          · intro i hi
            have hi2 : i = 0 ∨ i = 1 ∨ i = 2 ∨ i = 3 ∨ i = 4 ∨ i = 5 := by simp only [List.size_toArray, List.length_cons, List.length_nil] at hi; omega
            clear hi
            rcases hi2 with rfl | rfl | rfl | rfl | rfl | rfl
            · -- 0: Op.load 31 (Operand.tmp 5)
              refine AnyO.StepI.mk rfl [] (by kernel_rfl) ?_
              intro D vs u hI h0 hC hp ac hb K hK
              obtain ⟨σ, hP, hW⟩ := hI
              have s5 : ac.tmps[5]?.getD undef = .pointer (some ⟨g, 0, none⟩) := by rw [hb]; kernel_rfl
              rw [if_pos (AnyO.wanted_none rfl)]
              clear hb hp
              have rr1 := okC hW.out
              have rr2 := rdC hW.out
              clear hC
              clear h0
              have HP := Lib.hid hP
              have HWq := Lib.hid hW
              clear hP hW
              go_simp
              have hP := HP.out
              have hW := HWq.out
              clear HP HWq
              exact hK _ _ (AnyO.InvG.step (g := σ) hP rfl hW)
            · -- 1: Op.load 31 (Operand.tmp 12)
              refine AnyO.StepI.mk rfl [] (by kernel_rfl) ?_
              intro D vs u hI h0 hC hp ac hb K hK
              obtain ⟨σ, hP, hW⟩ := hI
              have s12 : ac.tmps[12]?.getD undef = .pointer (some ⟨gx, 0, none⟩) := by rw [hb]; kernel_rfl
              rw [if_pos (AnyO.wanted_none rfl)]
              clear hb hp
              have rr1 := okC hW.txt
              have rr2 := rdC hW.txt
              clear hC
              clear h0
              have HP := Lib.hid hP
              have HWq := Lib.hid hW
              clear hP hW
              go_simp
              have hP := HP.out
              have hW := HWq.out
              clear HP HWq
              exact hK _ _ (AnyO.InvG.step (g := σ) hP rfl hW)
            · -- 2: Op.call { callee := Callee.value (Operand.func 22), args := 
              refine AnyO.StepI.mk rfl [1] (by kernel_rfl) ?_
              intro D vs u hI h0 hC hp ac hb K hK
              obtain ⟨σ, hP, hW⟩ := hI
              have s110 : ac.tmps[110]?.getD undef = vC xF := by rw [hb]; exact (show _ = vs 1 by kernel_rfl).trans (show vs 1 = vC xF from hP 1 (hp 1 (by decide)))
              rw [if_pos (AnyO.wanted_none rfl)]
              clear hb hp
              clear hC
              clear h0
              have HP := Lib.hid hP
              have HWq := Lib.hid hW
              clear hP hW
              go_simp
              have hP := HP.out
              have hW := HWq.out
              clear HP HWq
              go_at_call 32
              refine (H22.out u).mono ?_
              rintro e w2 ⟨rfl, hb2⟩
              exact hK _ _ (AnyO.InvG.step (g := σ) hP rfl (hW.keep hb2))
            · -- 3: Op.binOp BinOp.eql 3 (Operand.tmp 111) (Operand.const (Value
              refine AnyO.StepI.mk rfl [2] (by kernel_rfl) ?_
              intro D vs u hI h0 hC hp ac hb K hK
              obtain ⟨σ, hP, hW⟩ := hI
              have s111 : ac.tmps[111]?.getD undef = .int .i64 q := by rw [hb]; exact (show _ = vs 2 by kernel_rfl).trans (show vs 2 = .int .i64 q from hP 2 (hp 2 (by decide)))
              rw [if_pos (AnyO.wanted_none rfl)]
              clear hb hp
              clear hC
              clear h0
              have HP := Lib.hid hP
              have HWq := Lib.hid hW
              clear hP hW
              go_simp
              have hP := HP.out
              have hW := HWq.out
              clear HP HWq
              exact hK _ _ (AnyO.InvG.step (g := σ) hP rfl hW)
            · -- 4: Op.store 31 (Operand.tmp 2) (Operand.tmp 109)
              refine AnyO.StepI.mk rfl [0, 2, 0] (by kernel_rfl) ?_
              intro D vs u hI h0 hC hp ac hb K hK
              obtain ⟨σ, hP, hW⟩ := hI
              have s2 : ac.tmps[2]?.getD undef = .pointer (some ⟨r, 0, none⟩) := by rw [hb]; kernel_rfl
              have s109 : ac.tmps[109]?.getD undef = vC cF := by rw [hb]; exact (show _ = vs 0 by kernel_rfl).trans (show vs 0 = vC cF from hP 0 (hp 0 (by decide)))
              rw [if_pos (AnyO.wanted_none rfl)]
              clear hb hp
              have rr1 := Row.rowOk' hW.res (cC_length _)
              clear hC
              have HP := Lib.hid hP
              have HWq := Lib.hid hW
              clear hP hW
              go_simp
              have hP := HP.out
              have hW := HWq.out
              clear HP HWq
              refine hK undef _ (AnyO.InvG.step (g := σ) hP trivial ?_)
              show RI r g gx cF xF cF w _
              exact hW.put
            · -- 5: Op.assign (Operand.tmp 112)
              refine AnyO.StepI.mk rfl [3, 4, 0, 1, 2, 3, 4] (by kernel_rfl) ?_
              intro D vs u hI h0 hC hp ac hb K hK
              obtain ⟨σ, hP, hW⟩ := hI
              have s112 : ac.tmps[112]?.getD undef = .bool (q == 0) := by rw [hb]; exact (show _ = vs 3 by kernel_rfl).trans (show vs 3 = .bool (q == 0) from hP 3 (hp 3 (by decide)))
              rw [if_pos (AnyO.wanted_none rfl)]
              clear hb hp
              clear hC
              clear h0
              have HP := Lib.hid hP
              have HWq := Lib.hid hW
              clear hP hW
              go_simp
              have hP := HP.out
              have hW := HWq.out
              clear HP HWq
              exact hK _ _ (AnyO.InvG.step (g := σ) hP rfl hW)
          · intro D vs u hI hD
            obtain ⟨σ, hP, hW⟩ := hI
            have e0 : vs 0 = vC cF := hP 0 (hD 0 (by decide))
            have e1 : vs 1 = vC xF := hP 1 (hD 1 (by decide))
            have e2 : vs 2 = .int .i64 q := hP 2 (hD 2 (by decide))
            have e3 : vs 3 = .bool (q == 0) := hP 3 (hD 3 (by decide))
            have e5 : vs 5 = .bool (q == 0) := hP 5 (hD 5 (by decide))
            rw [hD 4 (by decide)] at hW
            change RI r g gx cF xF cF w u at hW
            have HW := Lib.hid hW
            clear hW hP hD
            rw [puts_range [some 109, some 110, some 111, some 112, none, some 3] (by kernel_rfl)]
            simp only [putL, Nat.reduceAdd, e0, e1, e2, e3, e5]
            clear e0 e1 e2 e3 e5
            go_simp
            go_wp2
            exact bodyPost_ret (v := .tuple #[vC cF, .bool (q == 0)]) (results_c2 (ad := ⟨r, 0, none⟩) rfl rfl (ld_row31 cF HW.out.res) rfl) rfl ⟨cF, q == 0, rfl, by rw [HPL.out]; exact HAG.out, by rw [HRR.out]; exact HW.out.bel⟩
      · have c0 : wr.cell? ⟨g, 0, none⟩ = some (.int .i64 4) := HI.out.out.cell 0
        by_cases hwant : N = 2
        case neg =>
          have q1 : ((N : Int) != 2) = true := by rw [bne_iff_ne]; omega
          obtain ⟨rk, hf1, hf2⟩ := HI.out.fail
          have HF := Lib.hid (And.intro hf1 hf2)
          clear hf1 hf2
          go_wp2
          exact bodyPost_ret (v := .tuple #[vC zC, .bool false]) (results_c2 (ad := ⟨r, 0, none⟩) rfl rfl (ld_row31 zC HF.out.1) rfl) rfl ⟨zC, false, rfl, by rw [HPL.out]; exact Agree.no (parse_ne ps 4 HVH.out (Or.inr (fun e => hwant (HNL.out.symm.trans e)))), by rw [HRR.out]; exact HF.out.2⟩
        subst hwant
        obtain ⟨a0, w1, hpq⟩ := len2 ps HNL.out
        have HPQ := Lib.hid hpq
        obtain rfl : w0 = a0 := by have h := HW0.out; rw [hpq] at h; exact (Option.some.inj h).symm
        have HZ1 := Lib.hid (HPZ.out.1 w1 (by rw [hpq]; simp))
        have HX1 := Lib.hid (show ps[1]? = some w1 by rw [hpq]; rfl)
        clear hpq
        have O3 : PI r gs g ps ⟨4, ⟨#[]⟩, zI, 0, 0, 0, 0, ⟨#[]⟩⟩ w wr := HI.out
        have v3 : wr.cell? ⟨g, 0, none⟩ = some (.int .i64 4) := O3.out.cell 0
        have p1 : wr.cell? ⟨gs, 1, none⟩ = some (.string w1) := O3.ws 1 w1 HX1.out
        have H65 := Lib.hid (fun w1a => refParse65 w1 w1a HZ1.out)
        unfold RpaP at H65
        have HO := Lib.hid O3
        clear O3
        cases hid : identB (bl w1) with
        | false =>
          rw [hid] at H65
          have HID := Lib.hid hid
          clear hid
          go_wp2_with (go_at_call 59; refine (H65.out _).mono ?_; rintro e w5 ⟨a, m, rfl, hm, hb5⟩; have hm2 : (m != 0) = true := (by rw [bne_iff_ne]; exact of_decide_eq_false hm); obtain ⟨rk, hf1, hf2⟩ := (HO.out.keep (Below.step hb5 (below_alloc w5 (.cells (aI zI) 104)))).fail; have HF := Lib.hid (And.intro hf1 hf2); clear hm hb5 hf1 hf2)
          exact bodyPost_ret (v := .tuple #[vC zC, .bool false]) (results_c2 (ad := ⟨r, 0, none⟩) rfl rfl (ld_row31 zC HF.out.1) rfl) rfl ⟨zC, false, rfl, by rw [HPL.out]; exact Agree.no (by rw [HPQ.out]; exact noid_v4 w0 w1 HVV.out HID.out), by rw [HRR.out]; exact HF.out.2⟩
        | true =>
          rw [hid, if_pos rfl] at H65
          obtain ⟨x, hx⟩ : ∃ x, midL (bl w1) = x := ⟨_, rfl⟩
          rw [hx] at H65
          have HID := Lib.hid (And.intro hid hx)
          clear hid hx
          have HAG0 := Lib.hid (agree_v4 w0 w1 HVV.out HID.out.1)
          rw [HID.out.2] at HAG0
          rw [← HPQ.out] at HAG0
          obtain ⟨cF, hcF⟩ : ∃ cF : Cm, ⟨4, ⟨#[]⟩, x, 0, 0, 0, 0, ⟨#[]⟩⟩ = cF := ⟨_, rfl⟩
          obtain ⟨xF, hxF⟩ : ∃ xF : Cm, cF = xF := ⟨_, rfl⟩
          have H22 := Lib.hid (fun w1a => refCheck22 xF w1a (by rw [← hxF, ← hcF]; exact Nat.zero_le _) (by rw [← hxF, ← hcF]; exact Nat.zero_le _))
          unfold RchkP at H22
          obtain ⟨q, hq⟩ : ∃ q, chk xF = q := ⟨_, rfl⟩
          rw [hq] at H22
          have HAG := Lib.hid (show Agree cF (q == 0) (parseW ps) by rw [← hq, ← hxF, ← hcF]; exact HAG0.out)
          have HCF := Lib.hid hcF
          have HXF := Lib.hid hxF
          clear hq hcF hxF
          go_wp2_with (go_at_call 59; refine (H65.out _).mono ?_; rintro e w5 ⟨a, m, rfl, hm, hb5⟩; have hm2 : (m != 0) = false := (by rw [bne_eq_false_iff_eq]; exact of_decide_eq_true hm); have P5 := HO.out.keep (Below.step hb5 (below_alloc w5 (.cells (aI x) 104))); have st5 : stOk (w5.alloc (.cells (aI x) 104)) g 2 32 = true := P5.out.ok _ 2 32 (by rw [cC_length]; omega); obtain ⟨W6, hW6⟩ : ∃ W6, stD (w5.alloc (.cells (aI x) 104)) g 2 (cI x) = W6 := ⟨_, rfl⟩; have P6 : PI r gs g ps cF w W6 := (by rw [← hW6, ← HCF.out]; exact P5.stI x); obtain ⟨ok5, rd5⟩ : okA W6 ⟨g, 0, none⟩ 39 = true ∧ rdA W6 ⟨g, 0, none⟩ 39 = vC cF := ⟨okC P6.out, rdC P6.out⟩; obtain ⟨gx, hgx⟩ : ∃ gx, W6.heap.size = gx := ⟨_, rfl⟩; obtain ⟨W7, hW7⟩ : ∃ W7, W6.alloc (.cells (aC cF) 49) = W7 := ⟨_, rfl⟩; have P7 : PI r gs g ps cF w W7 := (by rw [← hW7]; exact P6.keep (below_alloc _ _)); have X7 : Row W7 gx (cC cF) 49 := (by rw [← hW7, ← hgx]; exact Row.new W6 (cC cF) 49); have hlx : g < gx := (by rw [← hgx]; exact P6.out.lt); have v7 : W7.cell? ⟨g, 0, none⟩ = some (.int .i64 4) := (P7.out.cell 0).trans (by rw [← HCF.out]; rfl); have HRI := Lib.hid (show RI r g gx cF xF zC w W7 from ⟨P7.out, by rw [← HXF.out]; exact X7, P7.res, P7.bel, by have := P7.lt1; have := P7.lt2; omega, by have := P7.lt1; have := P7.lt2; omega⟩); clear P7 X7 hlx; clear P5 P6 hm hb5)
          clear hgx hW7
          refine AnyO.wp_anyI (by kernel_rfl) (by kernel_rfl) (AnyO.InvG (σ := Unit) (fun σ => AnyO.pvL [some (vC cF), some (vC xF), some (.int .i64 q), some (.bool (q == 0)), none, some (.bool (q == 0))]) (fun _ D u => RI r g gx cF xF (bif D 4 then cF else zC) w u)) (AnyO.InvG.start (g := ()) (by show RI r g gx cF xF zC w _; exact HRI.out.keep (below_drew _))) ?_ ?_
          · intro i hi
            have hi2 : i = 0 ∨ i = 1 ∨ i = 2 ∨ i = 3 ∨ i = 4 ∨ i = 5 := by simp only [List.size_toArray, List.length_cons, List.length_nil] at hi; omega
            clear hi
            rcases hi2 with rfl | rfl | rfl | rfl | rfl | rfl
            · -- 0: Op.load 31 (Operand.tmp 5)
              refine AnyO.StepI.mk rfl [] (by kernel_rfl) ?_
              intro D vs u hI h0 hC hp ac hb K hK
              obtain ⟨σ, hP, hW⟩ := hI
              have s5 : ac.tmps[5]?.getD undef = .pointer (some ⟨g, 0, none⟩) := by rw [hb]; kernel_rfl
              rw [if_pos (AnyO.wanted_none rfl)]
              clear hb hp
              have rr1 := okC hW.out
              have rr2 := rdC hW.out
              clear hC
              clear h0
              have HP := Lib.hid hP
              have HWq := Lib.hid hW
              clear hP hW
              go_simp
              have hP := HP.out
              have hW := HWq.out
              clear HP HWq
              exact hK _ _ (AnyO.InvG.step (g := σ) hP rfl hW)
            · -- 1: Op.load 31 (Operand.tmp 12)
              refine AnyO.StepI.mk rfl [] (by kernel_rfl) ?_
              intro D vs u hI h0 hC hp ac hb K hK
              obtain ⟨σ, hP, hW⟩ := hI
              have s12 : ac.tmps[12]?.getD undef = .pointer (some ⟨gx, 0, none⟩) := by rw [hb]; kernel_rfl
              rw [if_pos (AnyO.wanted_none rfl)]
              clear hb hp
              have rr1 := okC hW.txt
              have rr2 := rdC hW.txt
              clear hC
              clear h0
              have HP := Lib.hid hP
              have HWq := Lib.hid hW
              clear hP hW
              go_simp
              have hP := HP.out
              have hW := HWq.out
              clear HP HWq
              exact hK _ _ (AnyO.InvG.step (g := σ) hP rfl hW)
            · -- 2: Op.call { callee := Callee.value (Operand.func 22), args := 
              refine AnyO.StepI.mk rfl [1] (by kernel_rfl) ?_
              intro D vs u hI h0 hC hp ac hb K hK
              obtain ⟨σ, hP, hW⟩ := hI
              have s110 : ac.tmps[110]?.getD undef = vC xF := by rw [hb]; exact (show _ = vs 1 by kernel_rfl).trans (show vs 1 = vC xF from hP 1 (hp 1 (by decide)))
              rw [if_pos (AnyO.wanted_none rfl)]
              clear hb hp
              clear hC
              clear h0
              have HP := Lib.hid hP
              have HWq := Lib.hid hW
              clear hP hW
              go_simp
              have hP := HP.out
              have hW := HWq.out
              clear HP HWq
              go_at_call 32
              refine (H22.out u).mono ?_
              rintro e w2 ⟨rfl, hb2⟩
              exact hK _ _ (AnyO.InvG.step (g := σ) hP rfl (hW.keep hb2))
            · -- 3: Op.binOp BinOp.eql 3 (Operand.tmp 111) (Operand.const (Value
              refine AnyO.StepI.mk rfl [2] (by kernel_rfl) ?_
              intro D vs u hI h0 hC hp ac hb K hK
              obtain ⟨σ, hP, hW⟩ := hI
              have s111 : ac.tmps[111]?.getD undef = .int .i64 q := by rw [hb]; exact (show _ = vs 2 by kernel_rfl).trans (show vs 2 = .int .i64 q from hP 2 (hp 2 (by decide)))
              rw [if_pos (AnyO.wanted_none rfl)]
              clear hb hp
              clear hC
              clear h0
              have HP := Lib.hid hP
              have HWq := Lib.hid hW
              clear hP hW
              go_simp
              have hP := HP.out
              have hW := HWq.out
              clear HP HWq
              exact hK _ _ (AnyO.InvG.step (g := σ) hP rfl hW)
            · -- 4: Op.store 31 (Operand.tmp 2) (Operand.tmp 109)
              refine AnyO.StepI.mk rfl [0, 2, 0] (by kernel_rfl) ?_
              intro D vs u hI h0 hC hp ac hb K hK
              obtain ⟨σ, hP, hW⟩ := hI
              have s2 : ac.tmps[2]?.getD undef = .pointer (some ⟨r, 0, none⟩) := by rw [hb]; kernel_rfl
              have s109 : ac.tmps[109]?.getD undef = vC cF := by rw [hb]; exact (show _ = vs 0 by kernel_rfl).trans (show vs 0 = vC cF from hP 0 (hp 0 (by decide)))
              rw [if_pos (AnyO.wanted_none rfl)]
              clear hb hp
              have rr1 := Row.rowOk' hW.res (cC_length _)
              clear hC
              have HP := Lib.hid hP
              have HWq := Lib.hid hW
              clear hP hW
              go_simp
              have hP := HP.out
              have hW := HWq.out
              clear HP HWq
              refine hK undef _ (AnyO.InvG.step (g := σ) hP trivial ?_)
              show RI r g gx cF xF cF w _
              exact hW.put
            · -- 5: Op.assign (Operand.tmp 112)
              refine AnyO.StepI.mk rfl [3, 4, 0, 1, 2, 3, 4] (by kernel_rfl) ?_
              intro D vs u hI h0 hC hp ac hb K hK
              obtain ⟨σ, hP, hW⟩ := hI
              have s112 : ac.tmps[112]?.getD undef = .bool (q == 0) := by rw [hb]; exact (show _ = vs 3 by kernel_rfl).trans (show vs 3 = .bool (q == 0) from hP 3 (hp 3 (by decide)))
              rw [if_pos (AnyO.wanted_none rfl)]
              clear hb hp
              clear hC
              clear h0
              have HP := Lib.hid hP
              have HWq := Lib.hid hW
              clear hP hW
              go_simp
              have hP := HP.out
              have hW := HWq.out
              clear HP HWq
              exact hK _ _ (AnyO.InvG.step (g := σ) hP rfl hW)
          · intro D vs u hI hD
            obtain ⟨σ, hP, hW⟩ := hI
            have e0 : vs 0 = vC cF := hP 0 (hD 0 (by decide))
            have e1 : vs 1 = vC xF := hP 1 (hD 1 (by decide))
            have e2 : vs 2 = .int .i64 q := hP 2 (hD 2 (by decide))
            have e3 : vs 3 = .bool (q == 0) := hP 3 (hD 3 (by decide))
            have e5 : vs 5 = .bool (q == 0) := hP 5 (hD 5 (by decide))
            rw [hD 4 (by decide)] at hW
            change RI r g gx cF xF cF w u at hW
            have HW := Lib.hid hW
            clear hW hP hD
            rw [puts_range [some 109, some 110, some 111, some 112, none, some 3] (by kernel_rfl)]
            simp only [putL, Nat.reduceAdd, e0, e1, e2, e3, e5]
            clear e0 e1 e2 e3 e5
            go_simp
            go_wp2
            exact bodyPost_ret (v := .tuple #[vC cF, .bool (q == 0)]) (results_c2 (ad := ⟨r, 0, none⟩) rfl rfl (ld_row31 cF HW.out.res) rfl) rfl ⟨cF, q == 0, rfl, by rw [HPL.out]; exact HAG.out, by rw [HRR.out]; exact HW.out.bel⟩
      · have c0 : wr.cell? ⟨g, 0, none⟩ = some (.int .i64 5) := HI.out.out.cell 0
        by_cases hwant : N = 2
        case neg =>
          have q1 : ((N : Int) != 2) = true := by rw [bne_iff_ne]; omega
          obtain ⟨rk, hf1, hf2⟩ := HI.out.fail
          have HF := Lib.hid (And.intro hf1 hf2)
          clear hf1 hf2
          go_wp2
          exact bodyPost_ret (v := .tuple #[vC zC, .bool false]) (results_c2 (ad := ⟨r, 0, none⟩) rfl rfl (ld_row31 zC HF.out.1) rfl) rfl ⟨zC, false, rfl, by rw [HPL.out]; exact Agree.no (parse_ne ps 5 HVH.out (Or.inr (fun e => hwant (HNL.out.symm.trans e)))), by rw [HRR.out]; exact HF.out.2⟩
        subst hwant
        obtain ⟨a0, w1, hpq⟩ := len2 ps HNL.out
        have HPQ := Lib.hid hpq
        obtain rfl : w0 = a0 := by have h := HW0.out; rw [hpq] at h; exact (Option.some.inj h).symm
        have HZ1 := Lib.hid (HPZ.out.1 w1 (by rw [hpq]; simp))
        have HX1 := Lib.hid (show ps[1]? = some w1 by rw [hpq]; rfl)
        clear hpq
        have O3 : PI r gs g ps ⟨5, ⟨#[]⟩, zI, 0, 0, 0, 0, ⟨#[]⟩⟩ w wr := HI.out
        have v3 : wr.cell? ⟨g, 0, none⟩ = some (.int .i64 5) := O3.out.cell 0
        have p1 : wr.cell? ⟨gs, 1, none⟩ = some (.string w1) := O3.ws 1 w1 HX1.out
        have H65 := Lib.hid (fun w1a => refParse65 w1 w1a HZ1.out)
        unfold RpaP at H65
        have HO := Lib.hid O3
        clear O3
        cases hid : identB (bl w1) with
        | false =>
          rw [hid] at H65
          have HID := Lib.hid hid
          clear hid
          go_wp2_with (go_at_call 59; refine (H65.out _).mono ?_; rintro e w5 ⟨a, m, rfl, hm, hb5⟩; have hm2 : (m != 0) = true := (by rw [bne_iff_ne]; exact of_decide_eq_false hm); obtain ⟨rk, hf1, hf2⟩ := (HO.out.keep (Below.step hb5 (below_alloc w5 (.cells (aI zI) 104)))).fail; have HF := Lib.hid (And.intro hf1 hf2); clear hm hb5 hf1 hf2)
          exact bodyPost_ret (v := .tuple #[vC zC, .bool false]) (results_c2 (ad := ⟨r, 0, none⟩) rfl rfl (ld_row31 zC HF.out.1) rfl) rfl ⟨zC, false, rfl, by rw [HPL.out]; exact Agree.no (by rw [HPQ.out]; exact noid_v5 w0 w1 HVV.out HID.out), by rw [HRR.out]; exact HF.out.2⟩
        | true =>
          rw [hid, if_pos rfl] at H65
          obtain ⟨x, hx⟩ : ∃ x, midL (bl w1) = x := ⟨_, rfl⟩
          rw [hx] at H65
          have HID := Lib.hid (And.intro hid hx)
          clear hid hx
          have HAG0 := Lib.hid (agree_v5 w0 w1 HVV.out HID.out.1)
          rw [HID.out.2] at HAG0
          rw [← HPQ.out] at HAG0
          obtain ⟨cF, hcF⟩ : ∃ cF : Cm, ⟨5, ⟨#[]⟩, x, 0, 0, 0, 0, ⟨#[]⟩⟩ = cF := ⟨_, rfl⟩
          obtain ⟨xF, hxF⟩ : ∃ xF : Cm, cF = xF := ⟨_, rfl⟩
          have H22 := Lib.hid (fun w1a => refCheck22 xF w1a (by rw [← hxF, ← hcF]; exact Nat.zero_le _) (by rw [← hxF, ← hcF]; exact Nat.zero_le _))
          unfold RchkP at H22
          obtain ⟨q, hq⟩ : ∃ q, chk xF = q := ⟨_, rfl⟩
          rw [hq] at H22
          have HAG := Lib.hid (show Agree cF (q == 0) (parseW ps) by rw [← hq, ← hxF, ← hcF]; exact HAG0.out)
          have HCF := Lib.hid hcF
          have HXF := Lib.hid hxF
          clear hq hcF hxF
          go_wp2_with (go_at_call 59; refine (H65.out _).mono ?_; rintro e w5 ⟨a, m, rfl, hm, hb5⟩; have hm2 : (m != 0) = false := (by rw [bne_eq_false_iff_eq]; exact of_decide_eq_true hm); have P5 := HO.out.keep (Below.step hb5 (below_alloc w5 (.cells (aI x) 104))); have st5 : stOk (w5.alloc (.cells (aI x) 104)) g 2 32 = true := P5.out.ok _ 2 32 (by rw [cC_length]; omega); obtain ⟨W6, hW6⟩ : ∃ W6, stD (w5.alloc (.cells (aI x) 104)) g 2 (cI x) = W6 := ⟨_, rfl⟩; have P6 : PI r gs g ps cF w W6 := (by rw [← hW6, ← HCF.out]; exact P5.stI x); obtain ⟨ok5, rd5⟩ : okA W6 ⟨g, 0, none⟩ 39 = true ∧ rdA W6 ⟨g, 0, none⟩ 39 = vC cF := ⟨okC P6.out, rdC P6.out⟩; obtain ⟨gx, hgx⟩ : ∃ gx, W6.heap.size = gx := ⟨_, rfl⟩; obtain ⟨W7, hW7⟩ : ∃ W7, W6.alloc (.cells (aC cF) 49) = W7 := ⟨_, rfl⟩; have P7 : PI r gs g ps cF w W7 := (by rw [← hW7]; exact P6.keep (below_alloc _ _)); have X7 : Row W7 gx (cC cF) 49 := (by rw [← hW7, ← hgx]; exact Row.new W6 (cC cF) 49); have hlx : g < gx := (by rw [← hgx]; exact P6.out.lt); have v7 : W7.cell? ⟨g, 0, none⟩ = some (.int .i64 5) := (P7.out.cell 0).trans (by rw [← HCF.out]; rfl); have HRI := Lib.hid (show RI r g gx cF xF zC w W7 from ⟨P7.out, by rw [← HXF.out]; exact X7, P7.res, P7.bel, by have := P7.lt1; have := P7.lt2; omega, by have := P7.lt1; have := P7.lt2; omega⟩); clear P7 X7 hlx; clear P5 P6 hm hb5)
          clear hgx hW7
          refine AnyO.wp_anyI (by kernel_rfl) (by kernel_rfl) (AnyO.InvG (σ := Unit) (fun σ => AnyO.pvL [some (vC cF), some (vC xF), some (.int .i64 q), some (.bool (q == 0)), none, some (.bool (q == 0))]) (fun _ D u => RI r g gx cF xF (bif D 4 then cF else zC) w u)) (AnyO.InvG.start (g := ()) (by show RI r g gx cF xF zC w _; exact HRI.out.keep (below_drew _))) ?_ ?_
          · intro i hi
            have hi2 : i = 0 ∨ i = 1 ∨ i = 2 ∨ i = 3 ∨ i = 4 ∨ i = 5 := by simp only [List.size_toArray, List.length_cons, List.length_nil] at hi; omega
            clear hi
            rcases hi2 with rfl | rfl | rfl | rfl | rfl | rfl
            · -- 0: Op.load 31 (Operand.tmp 5)
              refine AnyO.StepI.mk rfl [] (by kernel_rfl) ?_
              intro D vs u hI h0 hC hp ac hb K hK
              obtain ⟨σ, hP, hW⟩ := hI
              have s5 : ac.tmps[5]?.getD undef = .pointer (some ⟨g, 0, none⟩) := by rw [hb]; kernel_rfl
              rw [if_pos (AnyO.wanted_none rfl)]
              clear hb hp
              have rr1 := okC hW.out
              have rr2 := rdC hW.out
              clear hC
              clear h0
              have HP := Lib.hid hP
              have HWq := Lib.hid hW
              clear hP hW
              go_simp
              have hP := HP.out
              have hW := HWq.out
              clear HP HWq
              exact hK _ _ (AnyO.InvG.step (g := σ) hP rfl hW)
            · -- 1: Op.load 31 (Operand.tmp 12)
              refine AnyO.StepI.mk rfl [] (by kernel_rfl) ?_
              intro D vs u hI h0 hC hp ac hb K hK
              obtain ⟨σ, hP, hW⟩ := hI
              have s12 : ac.tmps[12]?.getD undef = .pointer (some ⟨gx, 0, none⟩) := by rw [hb]; kernel_rfl
              rw [if_pos (AnyO.wanted_none rfl)]
              clear hb hp
              have rr1 := okC hW.txt
              have rr2 := rdC hW.txt
              clear hC
              clear h0
              have HP := Lib.hid hP
              have HWq := Lib.hid hW
              clear hP hW
              go_simp
              have hP := HP.out
              have hW := HWq.out
              clear HP HWq
              exact hK _ _ (AnyO.InvG.step (g := σ) hP rfl hW)
            · -- 2: Op.call { callee := Callee.value (Operand.func 22), args := 
              refine AnyO.StepI.mk rfl [1] (by kernel_rfl) ?_
              intro D vs u hI h0 hC hp ac hb K hK
              obtain ⟨σ, hP, hW⟩ := hI
              have s110 : ac.tmps[110]?.getD undef = vC xF := by rw [hb]; exact (show _ = vs 1 by kernel_rfl).trans (show vs 1 = vC xF from hP 1 (hp 1 (by decide)))
              rw [if_pos (AnyO.wanted_none rfl)]
              clear hb hp
              clear hC
              clear h0
              have HP := Lib.hid hP
              have HWq := Lib.hid hW
              clear hP hW
              go_simp
              have hP := HP.out
              have hW := HWq.out
              clear HP HWq
              go_at_call 32
              refine (H22.out u).mono ?_
              rintro e w2 ⟨rfl, hb2⟩
              exact hK _ _ (AnyO.InvG.step (g := σ) hP rfl (hW.keep hb2))
            · -- 3: Op.binOp BinOp.eql 3 (Operand.tmp 111) (Operand.const (Value
              refine AnyO.StepI.mk rfl [2] (by kernel_rfl) ?_
              intro D vs u hI h0 hC hp ac hb K hK
              obtain ⟨σ, hP, hW⟩ := hI
              have s111 : ac.tmps[111]?.getD undef = .int .i64 q := by rw [hb]; exact (show _ = vs 2 by kernel_rfl).trans (show vs 2 = .int .i64 q from hP 2 (hp 2 (by decide)))
              rw [if_pos (AnyO.wanted_none rfl)]
              clear hb hp
              clear hC
              clear h0
              have HP := Lib.hid hP
              have HWq := Lib.hid hW
              clear hP hW
              go_simp
              have hP := HP.out
              have hW := HWq.out
              clear HP HWq
              exact hK _ _ (AnyO.InvG.step (g := σ) hP rfl hW)
            · -- 4: Op.store 31 (Operand.tmp 2) (Operand.tmp 109)
              refine AnyO.StepI.mk rfl [0, 2, 0] (by kernel_rfl) ?_
              intro D vs u hI h0 hC hp ac hb K hK
              obtain ⟨σ, hP, hW⟩ := hI
              have s2 : ac.tmps[2]?.getD undef = .pointer (some ⟨r, 0, none⟩) := by rw [hb]; kernel_rfl
              have s109 : ac.tmps[109]?.getD undef = vC cF := by rw [hb]; exact (show _ = vs 0 by kernel_rfl).trans (show vs 0 = vC cF from hP 0 (hp 0 (by decide)))
              rw [if_pos (AnyO.wanted_none rfl)]
              clear hb hp
              have rr1 := Row.rowOk' hW.res (cC_length _)
              clear hC
              have HP := Lib.hid hP
              have HWq := Lib.hid hW
              clear hP hW
              go_simp
              have hP := HP.out
              have hW := HWq.out
              clear HP HWq
              refine hK undef _ (AnyO.InvG.step (g := σ) hP trivial ?_)
              show RI r g gx cF xF cF w _
              exact hW.put
            · -- 5: Op.assign (Operand.tmp 112)
              refine AnyO.StepI.mk rfl [3, 4, 0, 1, 2, 3, 4] (by kernel_rfl) ?_
              intro D vs u hI h0 hC hp ac hb K hK
              obtain ⟨σ, hP, hW⟩ := hI
              have s112 : ac.tmps[112]?.getD undef = .bool (q == 0) := by rw [hb]; exact (show _ = vs 3 by kernel_rfl).trans (show vs 3 = .bool (q == 0) from hP 3 (hp 3 (by decide)))
              rw [if_pos (AnyO.wanted_none rfl)]
              clear hb hp
              clear hC
              clear h0
              have HP := Lib.hid hP
              have HWq := Lib.hid hW
              clear hP hW
              go_simp
              have hP := HP.out
              have hW := HWq.out
              clear HP HWq
              exact hK _ _ (AnyO.InvG.step (g := σ) hP rfl hW)
          · intro D vs u hI hD
            obtain ⟨σ, hP, hW⟩ := hI
            have e0 : vs 0 = vC cF := hP 0 (hD 0 (by decide))
            have e1 : vs 1 = vC xF := hP 1 (hD 1 (by decide))
            have e2 : vs 2 = .int .i64 q := hP 2 (hD 2 (by decide))
            have e3 : vs 3 = .bool (q == 0) := hP 3 (hD 3 (by decide))
            have e5 : vs 5 = .bool (q == 0) := hP 5 (hD 5 (by decide))
            rw [hD 4 (by decide)] at hW
            change RI r g gx cF xF cF w u at hW
            have HW := Lib.hid hW
            clear hW hP hD
            rw [puts_range [some 109, some 110, some 111, some 112, none, some 3] (by kernel_rfl)]
            simp only [putL, Nat.reduceAdd, e0, e1, e2, e3, e5]
            clear e0 e1 e2 e3 e5
            go_simp
            go_wp2
            exact bodyPost_ret (v := .tuple #[vC cF, .bool (q == 0)]) (results_c2 (ad := ⟨r, 0, none⟩) rfl rfl (ld_row31 cF HW.out.res) rfl) rfl ⟨cF, q == 0, rfl, by rw [HPL.out]; exact HAG.out, by rw [HRR.out]; exact HW.out.bel⟩
      · have c0 : wr.cell? ⟨g, 0, none⟩ = some (.int .i64 6) := HI.out.out.cell 0
        by_cases hwant : N = 3
        case neg =>
          have q1 : ((N : Int) != 3) = true := by rw [bne_iff_ne]; omega
          obtain ⟨rk, hf1, hf2⟩ := HI.out.fail
          have HF := Lib.hid (And.intro hf1 hf2)
          clear hf1 hf2
          go_wp2
          exact bodyPost_ret (v := .tuple #[vC zC, .bool false]) (results_c2 (ad := ⟨r, 0, none⟩) rfl rfl (ld_row31 zC HF.out.1) rfl) rfl ⟨zC, false, rfl, by rw [HPL.out]; exact Agree.no (parse_ne ps 6 HVH.out (Or.inr (fun e => hwant (HNL.out.symm.trans e)))), by rw [HRR.out]; exact HF.out.2⟩
        subst hwant
        obtain ⟨a0, w1, w2, hpq⟩ := len3 ps HNL.out
        have HPQ := Lib.hid hpq
        obtain rfl : w0 = a0 := by have h := HW0.out; rw [hpq] at h; exact (Option.some.inj h).symm
        have HZ1 := Lib.hid (HPZ.out.1 w1 (by rw [hpq]; simp))
        have HX1 := Lib.hid (show ps[1]? = some w1 by rw [hpq]; rfl)
        have HZ2 := Lib.hid (HPZ.out.1 w2 (by rw [hpq]; simp))
        have HX2 := Lib.hid (show ps[2]? = some w2 by rw [hpq]; rfl)
        clear hpq
        have O3 : PI r gs g ps ⟨6, ⟨#[]⟩, zI, 0, 0, 0, 0, ⟨#[]⟩⟩ w wr := HI.out
        have p2 : wr.cell? ⟨gs, 2, none⟩ = some (.string w2) := O3.ws 2 w2 HX2.out
        have H64 := Lib.hid (fun w1 => number64 w2 w1 HZ2.out)
        obtain ⟨n, hn⟩ : ∃ n, numN (bl w2) = n := ⟨_, rfl⟩
        rw [hn] at H64
        have HNN := Lib.hid hn
        clear hn
        by_cases hneg : n < 0
        case pos =>
          obtain ⟨rk, hf1, hf2⟩ := O3.fail
          have HF := Lib.hid (And.intro hf1 hf2)
          clear hf1 hf2
          clear O3
          go_wp2_with (go_at_call 58; refine (H64.out _).mono ?_; rintro e w5 ⟨rfl, rfl⟩)
          exact bodyPost_ret (v := .tuple #[vC zC, .bool false]) (results_c2 (ad := ⟨r, 0, none⟩) rfl rfl (ld_row31 zC HF.out.1) rfl) rfl ⟨zC, false, rfl, by rw [HPL.out]; exact Agree.no (by rw [HPQ.out]; exact nonum_v6 w0 w1 w2 HVV.out (by rw [HNN.out]; exact hneg)), by rw [HRR.out]; exact HF.out.2⟩
        have g3 : wr.cell? ⟨g, 37, none⟩ = some (.int .i64 0) := (O3.out.cell 37).trans (cC_at (aC_37 _))
        have f3 := O3.out.fz 37
        have O4 : PI r gs g ps ⟨6, ⟨#[]⟩, zI, 0, 0, 0, n, ⟨#[]⟩⟩ w (wr.setCell ⟨g, 37, none⟩ (.int .i64 n)) := O3.set 37 _ (cC_set37 _ _)
        obtain ⟨W4, hW4⟩ : ∃ W4, wr.setCell ⟨g, 37, none⟩ (.int .i64 n) = W4 := ⟨_, rfl⟩
        rw [hW4] at O4
        have v4 : W4.cell? ⟨g, 0, none⟩ = some (.int .i64 6) := O4.out.cell 0
        have p1 : W4.cell? ⟨gs, 1, none⟩ = some (.string w1) := O4.ws 1 w1 HX1.out
        have H65 := Lib.hid (fun w1a => refParse65 w1 w1a HZ1.out)
        unfold RpaP at H65
        have HO := Lib.hid O4
        clear O3 O4
        cases hid : identB (bl w1) with
        | false =>
          rw [hid] at H65
          have HID := Lib.hid hid
          clear hid
          go_wp2_with (first | (go_at_call 58; refine (H64.out _).mono ?_; rintro e w5 ⟨rfl, rfl⟩) | (go_at_call 59; refine (H65.out _).mono ?_; rintro e w5 ⟨a, m, rfl, hm, hb5⟩; have hm2 : (m != 0) = true := (by rw [bne_iff_ne]; exact of_decide_eq_false hm); obtain ⟨rk, hf1, hf2⟩ := (HO.out.keep (Below.step hb5 (below_alloc w5 (.cells (aI zI) 104)))).fail; have HF := Lib.hid (And.intro hf1 hf2); clear hm hb5 hf1 hf2))
          exact bodyPost_ret (v := .tuple #[vC zC, .bool false]) (results_c2 (ad := ⟨r, 0, none⟩) rfl rfl (ld_row31 zC HF.out.1) rfl) rfl ⟨zC, false, rfl, by rw [HPL.out]; exact Agree.no (by rw [HPQ.out]; exact noid_v6 w0 w1 w2 HVV.out HID.out), by rw [HRR.out]; exact HF.out.2⟩
        | true =>
          rw [hid, if_pos rfl] at H65
          obtain ⟨x, hx⟩ : ∃ x, midL (bl w1) = x := ⟨_, rfl⟩
          rw [hx] at H65
          have HID := Lib.hid (And.intro hid hx)
          clear hid hx
          have HAG0 := Lib.hid (agree_v6 w0 w1 w2 HVV.out HID.out.1)
          rw [HNN.out] at HAG0
          rw [HID.out.2] at HAG0
          rw [← HPQ.out] at HAG0
          obtain ⟨cF, hcF⟩ : ∃ cF : Cm, ⟨6, ⟨#[]⟩, x, 0, 0, 0, n, ⟨#[]⟩⟩ = cF := ⟨_, rfl⟩
          obtain ⟨xF, hxF⟩ : ∃ xF : Cm, cF = xF := ⟨_, rfl⟩
          have H22 := Lib.hid (fun w1a => refCheck22 xF w1a (by rw [← hxF, ← hcF]; exact Nat.zero_le _) (by rw [← hxF, ← hcF]; exact Nat.zero_le _))
          unfold RchkP at H22
          obtain ⟨q, hq⟩ : ∃ q, chk xF = q := ⟨_, rfl⟩
          rw [hq] at H22
          have HAG := Lib.hid (show Agree cF (q == 0) (parseW ps) by rw [← hq, ← hxF, ← hcF]; exact HAG0.out)
          have HCF := Lib.hid hcF
          have HXF := Lib.hid hxF
          clear hq hcF hxF
          go_wp2_with (first | (go_at_call 58; refine (H64.out _).mono ?_; rintro e w5 ⟨rfl, rfl⟩) | (go_at_call 59; refine (H65.out _).mono ?_; rintro e w5 ⟨a, m, rfl, hm, hb5⟩; have hm2 : (m != 0) = false := (by rw [bne_eq_false_iff_eq]; exact of_decide_eq_true hm); have P5 := HO.out.keep (Below.step hb5 (below_alloc w5 (.cells (aI x) 104))); have st5 : stOk (w5.alloc (.cells (aI x) 104)) g 2 32 = true := P5.out.ok _ 2 32 (by rw [cC_length]; omega); obtain ⟨W6, hW6⟩ : ∃ W6, stD (w5.alloc (.cells (aI x) 104)) g 2 (cI x) = W6 := ⟨_, rfl⟩; have P6 : PI r gs g ps cF w W6 := (by rw [← hW6, ← HCF.out]; exact P5.stI x); obtain ⟨ok5, rd5⟩ : okA W6 ⟨g, 0, none⟩ 39 = true ∧ rdA W6 ⟨g, 0, none⟩ 39 = vC cF := ⟨okC P6.out, rdC P6.out⟩; obtain ⟨gx, hgx⟩ : ∃ gx, W6.heap.size = gx := ⟨_, rfl⟩; obtain ⟨W7, hW7⟩ : ∃ W7, W6.alloc (.cells (aC cF) 49) = W7 := ⟨_, rfl⟩; have P7 : PI r gs g ps cF w W7 := (by rw [← hW7]; exact P6.keep (below_alloc _ _)); have X7 : Row W7 gx (cC cF) 49 := (by rw [← hW7, ← hgx]; exact Row.new W6 (cC cF) 49); have hlx : g < gx := (by rw [← hgx]; exact P6.out.lt); have v7 : W7.cell? ⟨g, 0, none⟩ = some (.int .i64 6) := (P7.out.cell 0).trans (by rw [← HCF.out]; rfl); have HRI := Lib.hid (show RI r g gx cF xF zC w W7 from ⟨P7.out, by rw [← HXF.out]; exact X7, P7.res, P7.bel, by have := P7.lt1; have := P7.lt2; omega, by have := P7.lt1; have := P7.lt2; omega⟩); clear P7 X7 hlx; clear P5 P6 hm hb5))
          clear hgx hW7
          refine AnyO.wp_anyI (by kernel_rfl) (by kernel_rfl) (AnyO.InvG (σ := Unit) (fun σ => AnyO.pvL [some (vC cF), some (vC xF), some (.int .i64 q), some (.bool (q == 0)), none, some (.bool (q == 0))]) (fun _ D u => RI r g gx cF xF (bif D 4 then cF else zC) w u)) (AnyO.InvG.start (g := ()) (by show RI r g gx cF xF zC w _; exact HRI.out.keep (below_drew _))) ?_ ?_
          · intro i hi
            have hi2 : i = 0 ∨ i = 1 ∨ i = 2 ∨ i = 3 ∨ i = 4 ∨ i = 5 := by simp only [List.size_toArray, List.length_cons, List.length_nil] at hi; omega
            clear hi
            rcases hi2 with rfl | rfl | rfl | rfl | rfl | rfl
            · -- 0: Op.load 31 (Operand.tmp 5)
              refine AnyO.StepI.mk rfl [] (by kernel_rfl) ?_
              intro D vs u hI h0 hC hp ac hb K hK
              obtain ⟨σ, hP, hW⟩ := hI
              have s5 : ac.tmps[5]?.getD undef = .pointer (some ⟨g, 0, none⟩) := by rw [hb]; kernel_rfl
              rw [if_pos (AnyO.wanted_none rfl)]
              clear hb hp
              have rr1 := okC hW.out
              have rr2 := rdC hW.out
              clear hC
              clear h0
              have HP := Lib.hid hP
              have HWq := Lib.hid hW
              clear hP hW
              go_simp
              have hP := HP.out
              have hW := HWq.out
              clear HP HWq
              exact hK _ _ (AnyO.InvG.step (g := σ) hP rfl hW)
            · -- 1: Op.load 31 (Operand.tmp 12)
              refine AnyO.StepI.mk rfl [] (by kernel_rfl) ?_
              intro D vs u hI h0 hC hp ac hb K hK
              obtain ⟨σ, hP, hW⟩ := hI
              have s12 : ac.tmps[12]?.getD undef = .pointer (some ⟨gx, 0, none⟩) := by rw [hb]; kernel_rfl
              rw [if_pos (AnyO.wanted_none rfl)]
              clear hb hp
              have rr1 := okC hW.txt
              have rr2 := rdC hW.txt
              clear hC
              clear h0
              have HP := Lib.hid hP
              have HWq := Lib.hid hW
              clear hP hW
              go_simp
              have hP := HP.out
              have hW := HWq.out
              clear HP HWq
              exact hK _ _ (AnyO.InvG.step (g := σ) hP rfl hW)
            · -- 2: Op.call { callee := Callee.value (Operand.func 22), args := 
              refine AnyO.StepI.mk rfl [1] (by kernel_rfl) ?_
              intro D vs u hI h0 hC hp ac hb K hK
              obtain ⟨σ, hP, hW⟩ := hI
              have s110 : ac.tmps[110]?.getD undef = vC xF := by rw [hb]; exact (show _ = vs 1 by kernel_rfl).trans (show vs 1 = vC xF from hP 1 (hp 1 (by decide)))
              rw [if_pos (AnyO.wanted_none rfl)]
              clear hb hp
              clear hC
              clear h0
              have HP := Lib.hid hP
              have HWq := Lib.hid hW
              clear hP hW
              go_simp
              have hP := HP.out
              have hW := HWq.out
              clear HP HWq
              go_at_call 32
              refine (H22.out u).mono ?_
              rintro e w2 ⟨rfl, hb2⟩
              exact hK _ _ (AnyO.InvG.step (g := σ) hP rfl (hW.keep hb2))
            · -- 3: Op.binOp BinOp.eql 3 (Operand.tmp 111) (Operand.const (Value
              refine AnyO.StepI.mk rfl [2] (by kernel_rfl) ?_
              intro D vs u hI h0 hC hp ac hb K hK
              obtain ⟨σ, hP, hW⟩ := hI
              have s111 : ac.tmps[111]?.getD undef = .int .i64 q := by rw [hb]; exact (show _ = vs 2 by kernel_rfl).trans (show vs 2 = .int .i64 q from hP 2 (hp 2 (by decide)))
              rw [if_pos (AnyO.wanted_none rfl)]
              clear hb hp
              clear hC
              clear h0
              have HP := Lib.hid hP
              have HWq := Lib.hid hW
              clear hP hW
              go_simp
              have hP := HP.out
              have hW := HWq.out
              clear HP HWq
              exact hK _ _ (AnyO.InvG.step (g := σ) hP rfl hW)
            · -- 4: Op.store 31 (Operand.tmp 2) (Operand.tmp 109)
              refine AnyO.StepI.mk rfl [0, 2, 0] (by kernel_rfl) ?_
              intro D vs u hI h0 hC hp ac hb K hK
              obtain ⟨σ, hP, hW⟩ := hI
              have s2 : ac.tmps[2]?.getD undef = .pointer (some ⟨r, 0, none⟩) := by rw [hb]; kernel_rfl
              have s109 : ac.tmps[109]?.getD undef = vC cF := by rw [hb]; exact (show _ = vs 0 by kernel_rfl).trans (show vs 0 = vC cF from hP 0 (hp 0 (by decide)))
              rw [if_pos (AnyO.wanted_none rfl)]
              clear hb hp
              have rr1 := Row.rowOk' hW.res (cC_length _)
              clear hC
              have HP := Lib.hid hP
              have HWq := Lib.hid hW
              clear hP hW
              go_simp
              have hP := HP.out
              have hW := HWq.out
              clear HP HWq
              refine hK undef _ (AnyO.InvG.step (g := σ) hP trivial ?_)
              show RI r g gx cF xF cF w _
              exact hW.put
            · -- 5: Op.assign (Operand.tmp 112)
              refine AnyO.StepI.mk rfl [3, 4, 0, 1, 2, 3, 4] (by kernel_rfl) ?_
              intro D vs u hI h0 hC hp ac hb K hK
              obtain ⟨σ, hP, hW⟩ := hI
              have s112 : ac.tmps[112]?.getD undef = .bool (q == 0) := by rw [hb]; exact (show _ = vs 3 by kernel_rfl).trans (show vs 3 = .bool (q == 0) from hP 3 (hp 3 (by decide)))
              rw [if_pos (AnyO.wanted_none rfl)]
              clear hb hp
              clear hC
              clear h0
              have HP := Lib.hid hP
              have HWq := Lib.hid hW
              clear hP hW
              go_simp
              have hP := HP.out
              have hW := HWq.out
              clear HP HWq
              exact hK _ _ (AnyO.InvG.step (g := σ) hP rfl hW)
          · intro D vs u hI hD
            obtain ⟨σ, hP, hW⟩ := hI
            have e0 : vs 0 = vC cF := hP 0 (hD 0 (by decide))
            have e1 : vs 1 = vC xF := hP 1 (hD 1 (by decide))
            have e2 : vs 2 = .int .i64 q := hP 2 (hD 2 (by decide))
            have e3 : vs 3 = .bool (q == 0) := hP 3 (hD 3 (by decide))
            have e5 : vs 5 = .bool (q == 0) := hP 5 (hD 5 (by decide))
            rw [hD 4 (by decide)] at hW
            change RI r g gx cF xF cF w u at hW
            have HW := Lib.hid hW
            clear hW hP hD
            rw [puts_range [some 109, some 110, some 111, some 112, none, some 3] (by kernel_rfl)]
            simp only [putL, Nat.reduceAdd, e0, e1, e2, e3, e5]
            clear e0 e1 e2 e3 e5
            go_simp
            go_wp2
            exact bodyPost_ret (v := .tuple #[vC cF, .bool (q == 0)]) (results_c2 (ad := ⟨r, 0, none⟩) rfl rfl (ld_row31 cF HW.out.res) rfl) rfl ⟨cF, q == 0, rfl, by rw [HPL.out]; exact HAG.out, by rw [HRR.out]; exact HW.out.bel⟩
      · have c0 : wr.cell? ⟨g, 0, none⟩ = some (.int .i64 7) := HI.out.out.cell 0
        by_cases hwant : N = 3
        case neg =>
          have q1 : ((N : Int) != 3) = true := by rw [bne_iff_ne]; omega
          obtain ⟨rk, hf1, hf2⟩ := HI.out.fail
          have HF := Lib.hid (And.intro hf1 hf2)
          clear hf1 hf2
          go_wp2
          exact bodyPost_ret (v := .tuple #[vC zC, .bool false]) (results_c2 (ad := ⟨r, 0, none⟩) rfl rfl (ld_row31 zC HF.out.1) rfl) rfl ⟨zC, false, rfl, by rw [HPL.out]; exact Agree.no (parse_ne ps 7 HVH.out (Or.inr (fun e => hwant (HNL.out.symm.trans e)))), by rw [HRR.out]; exact HF.out.2⟩
        subst hwant
        obtain ⟨a0, w1, w2, hpq⟩ := len3 ps HNL.out
        have HPQ := Lib.hid hpq
        obtain rfl : w0 = a0 := by have h := HW0.out; rw [hpq] at h; exact (Option.some.inj h).symm
        have HZ1 := Lib.hid (HPZ.out.1 w1 (by rw [hpq]; simp))
        have HX1 := Lib.hid (show ps[1]? = some w1 by rw [hpq]; rfl)
        have HZ2 := Lib.hid (HPZ.out.1 w2 (by rw [hpq]; simp))
        have HX2 := Lib.hid (show ps[2]? = some w2 by rw [hpq]; rfl)
        clear hpq
        have O3 : PI r gs g ps ⟨7, ⟨#[]⟩, zI, 0, 0, 0, 0, ⟨#[]⟩⟩ w wr := HI.out
        have p2 : wr.cell? ⟨gs, 2, none⟩ = some (.string w2) := O3.ws 2 w2 HX2.out
        have H64 := Lib.hid (fun w1 => number64 w2 w1 HZ2.out)
        obtain ⟨n, hn⟩ : ∃ n, numN (bl w2) = n := ⟨_, rfl⟩
        rw [hn] at H64
        have HNN := Lib.hid hn
        clear hn
        by_cases hneg : n < 0
        case pos =>
          obtain ⟨rk, hf1, hf2⟩ := O3.fail
          have HF := Lib.hid (And.intro hf1 hf2)
          clear hf1 hf2
          clear O3
          go_wp2_with (go_at_call 58; refine (H64.out _).mono ?_; rintro e w5 ⟨rfl, rfl⟩)
          exact bodyPost_ret (v := .tuple #[vC zC, .bool false]) (results_c2 (ad := ⟨r, 0, none⟩) rfl rfl (ld_row31 zC HF.out.1) rfl) rfl ⟨zC, false, rfl, by rw [HPL.out]; exact Agree.no (by rw [HPQ.out]; exact nonum_v7 w0 w1 w2 HVV.out (by rw [HNN.out]; exact hneg)), by rw [HRR.out]; exact HF.out.2⟩
        have g3 : wr.cell? ⟨g, 35, none⟩ = some (.int .i64 0) := (O3.out.cell 35).trans (cC_at (aC_35 _))
        have f3 := O3.out.fz 35
        have O4 : PI r gs g ps ⟨7, ⟨#[]⟩, zI, 0, n, 0, 0, ⟨#[]⟩⟩ w (wr.setCell ⟨g, 35, none⟩ (.int .i64 n)) := O3.set 35 _ (cC_set35 _ _)
        obtain ⟨W4, hW4⟩ : ∃ W4, wr.setCell ⟨g, 35, none⟩ (.int .i64 n) = W4 := ⟨_, rfl⟩
        rw [hW4] at O4
        have v4 : W4.cell? ⟨g, 0, none⟩ = some (.int .i64 7) := O4.out.cell 0
        have p1 : W4.cell? ⟨gs, 1, none⟩ = some (.string w1) := O4.ws 1 w1 HX1.out
        have H65 := Lib.hid (fun w1a => refParse65 w1 w1a HZ1.out)
        unfold RpaP at H65
        have HO := Lib.hid O4
        clear O3 O4
        cases hid : identB (bl w1) with
        | false =>
          rw [hid] at H65
          have HID := Lib.hid hid
          clear hid
          go_wp2_with (first | (go_at_call 58; refine (H64.out _).mono ?_; rintro e w5 ⟨rfl, rfl⟩) | (go_at_call 59; refine (H65.out _).mono ?_; rintro e w5 ⟨a, m, rfl, hm, hb5⟩; have hm2 : (m != 0) = true := (by rw [bne_iff_ne]; exact of_decide_eq_false hm); obtain ⟨rk, hf1, hf2⟩ := (HO.out.keep (Below.step hb5 (below_alloc w5 (.cells (aI zI) 104)))).fail; have HF := Lib.hid (And.intro hf1 hf2); clear hm hb5 hf1 hf2))
          exact bodyPost_ret (v := .tuple #[vC zC, .bool false]) (results_c2 (ad := ⟨r, 0, none⟩) rfl rfl (ld_row31 zC HF.out.1) rfl) rfl ⟨zC, false, rfl, by rw [HPL.out]; exact Agree.no (by rw [HPQ.out]; exact noid_v7 w0 w1 w2 HVV.out HID.out), by rw [HRR.out]; exact HF.out.2⟩
        | true =>
          rw [hid, if_pos rfl] at H65
          obtain ⟨x, hx⟩ : ∃ x, midL (bl w1) = x := ⟨_, rfl⟩
          rw [hx] at H65
          have HID := Lib.hid (And.intro hid hx)
          clear hid hx
          have HAG0 := Lib.hid (agree_v7 w0 w1 w2 HVV.out HID.out.1)
          rw [HNN.out] at HAG0
          rw [HID.out.2] at HAG0
          rw [← HPQ.out] at HAG0
          obtain ⟨cF, hcF⟩ : ∃ cF : Cm, ⟨7, ⟨#[]⟩, x, 0, n, 0, 0, ⟨#[]⟩⟩ = cF := ⟨_, rfl⟩
          obtain ⟨xF, hxF⟩ : ∃ xF : Cm, ⟨7, ⟨#[]⟩, x, 0, n, 0, 0, ⟨#[120]⟩⟩ = xF := ⟨_, rfl⟩
          have H22 := Lib.hid (fun w1a => refCheck22 xF w1a (by rw [← hxF]; exact Nat.zero_le _) (by rw [← hxF]; exact (show (⟨#[120]⟩ : ByteArray).size ≤ 1000000 by decide)))
          unfold RchkP at H22
          obtain ⟨q, hq⟩ : ∃ q, chk xF = q := ⟨_, rfl⟩
          rw [hq] at H22
          have HAG := Lib.hid (show Agree cF (q == 0) (parseW ps) by rw [← hq, ← hxF, ← hcF]; exact HAG0.out)
          have HCF := Lib.hid hcF
          have HXF := Lib.hid hxF
          clear hq hcF hxF
          go_wp2_with (first | (go_at_call 58; refine (H64.out _).mono ?_; rintro e w5 ⟨rfl, rfl⟩) | (go_at_call 59; refine (H65.out _).mono ?_; rintro e w5 ⟨a, m, rfl, hm, hb5⟩; have hm2 : (m != 0) = false := (by rw [bne_eq_false_iff_eq]; exact of_decide_eq_true hm); have P5 := HO.out.keep (Below.step hb5 (below_alloc w5 (.cells (aI x) 104))); have st5 : stOk (w5.alloc (.cells (aI x) 104)) g 2 32 = true := P5.out.ok _ 2 32 (by rw [cC_length]; omega); obtain ⟨W6, hW6⟩ : ∃ W6, stD (w5.alloc (.cells (aI x) 104)) g 2 (cI x) = W6 := ⟨_, rfl⟩; have P6 : PI r gs g ps cF w W6 := (by rw [← hW6, ← HCF.out]; exact P5.stI x); obtain ⟨ok5, rd5⟩ : okA W6 ⟨g, 0, none⟩ 39 = true ∧ rdA W6 ⟨g, 0, none⟩ 39 = vC cF := ⟨okC P6.out, rdC P6.out⟩; obtain ⟨gx, hgx⟩ : ∃ gx, W6.heap.size = gx := ⟨_, rfl⟩; obtain ⟨W7, hW7⟩ : ∃ W7, W6.alloc (.cells (aC cF) 49) = W7 := ⟨_, rfl⟩; have P7 : PI r gs g ps cF w W7 := (by rw [← hW7]; exact P6.keep (below_alloc _ _)); have X7 : Row W7 gx (cC cF) 49 := (by rw [← hW7, ← hgx]; exact Row.new W6 (cC cF) 49); have hlx : g < gx := (by rw [← hgx]; exact P6.out.lt); have v7 : W7.cell? ⟨g, 0, none⟩ = some (.int .i64 7) := (P7.out.cell 0).trans (by rw [← HCF.out]; rfl); have t7 : W7.cell? ⟨gx, 38, none⟩ = some (.string ⟨#[]⟩) := (X7.cell 38).trans (by rw [← HCF.out]; exact cC_at (aC_38 _)); have u7 := X7.fz 38; have HRI := Lib.hid (show RI r g gx cF xF zC w (W7.setCell ⟨gx, 38, none⟩ (.string ⟨#[120]⟩)) from ⟨(One.set 38 _).row P7.out (by omega), by rw [← HXF.out]; have h := X7.set 38 (.string ⟨#[120]⟩); rwa [← HCF.out, cC_set38] at h, (One.set 38 _).row P7.res (by have := P7.lt1; have := P7.lt2; omega), Below.trans P7.bel ((One.set 38 _).below (by have := P7.lt1; have := P7.lt2; omega) (Nat.le_of_lt P7.res.lt)), by have := P7.lt1; have := P7.lt2; omega, by have := P7.lt1; have := P7.lt2; omega⟩); clear P7 X7 hlx; clear P5 P6 hm hb5))
          obtain ⟨W8, hW8⟩ : ∃ W8, W7.setCell ⟨gx, 38, none⟩ (.string ⟨#[120]⟩) = W8 := ⟨_, rfl⟩
          rw [hW8] at HRI ⊢
          clear hW8
          clear hgx hW7
          refine AnyO.wp_anyI (by kernel_rfl) (by kernel_rfl) (AnyO.InvG (σ := Unit) (fun σ => AnyO.pvL [some (vC cF), some (vC xF), some (.int .i64 q), some (.bool (q == 0)), none, some (.bool (q == 0))]) (fun _ D u => RI r g gx cF xF (bif D 4 then cF else zC) w u)) (AnyO.InvG.start (g := ()) (by show RI r g gx cF xF zC w _; exact HRI.out.keep (below_drew _))) ?_ ?_
          · intro i hi
            have hi2 : i = 0 ∨ i = 1 ∨ i = 2 ∨ i = 3 ∨ i = 4 ∨ i = 5 := by simp only [List.size_toArray, List.length_cons, List.length_nil] at hi; omega
            clear hi
            rcases hi2 with rfl | rfl | rfl | rfl | rfl | rfl
            · -- 0: Op.load 31 (Operand.tmp 5)
              refine AnyO.StepI.mk rfl [] (by kernel_rfl) ?_
              intro D vs u hI h0 hC hp ac hb K hK
              obtain ⟨σ, hP, hW⟩ := hI
              have s5 : ac.tmps[5]?.getD undef = .pointer (some ⟨g, 0, none⟩) := by rw [hb]; kernel_rfl
              rw [if_pos (AnyO.wanted_none rfl)]
              clear hb hp
              have rr1 := okC hW.out
              have rr2 := rdC hW.out
              clear hC
              clear h0
              have HP := Lib.hid hP
              have HWq := Lib.hid hW
              clear hP hW
              go_simp
              have hP := HP.out
              have hW := HWq.out
              clear HP HWq
              exact hK _ _ (AnyO.InvG.step (g := σ) hP rfl hW)
            · -- 1: Op.load 31 (Operand.tmp 12)
              refine AnyO.StepI.mk rfl [] (by kernel_rfl) ?_
              intro D vs u hI h0 hC hp ac hb K hK
              obtain ⟨σ, hP, hW⟩ := hI
              have s12 : ac.tmps[12]?.getD undef = .pointer (some ⟨gx, 0, none⟩) := by rw [hb]; kernel_rfl
              rw [if_pos (AnyO.wanted_none rfl)]
              clear hb hp
              have rr1 := okC hW.txt
              have rr2 := rdC hW.txt
              clear hC
              clear h0
              have HP := Lib.hid hP
              have HWq := Lib.hid hW
              clear hP hW
              go_simp
              have hP := HP.out
              have hW := HWq.out
              clear HP HWq
              exact hK _ _ (AnyO.InvG.step (g := σ) hP rfl hW)
            · -- 2: Op.call { callee := Callee.value (Operand.func 22), args := 
              refine AnyO.StepI.mk rfl [1] (by kernel_rfl) ?_
              intro D vs u hI h0 hC hp ac hb K hK
              obtain ⟨σ, hP, hW⟩ := hI
              have s110 : ac.tmps[110]?.getD undef = vC xF := by rw [hb]; exact (show _ = vs 1 by kernel_rfl).trans (show vs 1 = vC xF from hP 1 (hp 1 (by decide)))
              rw [if_pos (AnyO.wanted_none rfl)]
              clear hb hp
              clear hC
              clear h0
              have HP := Lib.hid hP
              have HWq := Lib.hid hW
              clear hP hW
              go_simp
              have hP := HP.out
              have hW := HWq.out
              clear HP HWq
              go_at_call 32
              refine (H22.out u).mono ?_
              rintro e w2 ⟨rfl, hb2⟩
              exact hK _ _ (AnyO.InvG.step (g := σ) hP rfl (hW.keep hb2))
            · -- 3: Op.binOp BinOp.eql 3 (Operand.tmp 111) (Operand.const (Value
              refine AnyO.StepI.mk rfl [2] (by kernel_rfl) ?_
              intro D vs u hI h0 hC hp ac hb K hK
              obtain ⟨σ, hP, hW⟩ := hI
              have s111 : ac.tmps[111]?.getD undef = .int .i64 q := by rw [hb]; exact (show _ = vs 2 by kernel_rfl).trans (show vs 2 = .int .i64 q from hP 2 (hp 2 (by decide)))
              rw [if_pos (AnyO.wanted_none rfl)]
              clear hb hp
              clear hC
              clear h0
              have HP := Lib.hid hP
              have HWq := Lib.hid hW
              clear hP hW
              go_simp
              have hP := HP.out
              have hW := HWq.out
              clear HP HWq
              exact hK _ _ (AnyO.InvG.step (g := σ) hP rfl hW)
            · -- 4: Op.store 31 (Operand.tmp 2) (Operand.tmp 109)
              refine AnyO.StepI.mk rfl [0, 2, 0] (by kernel_rfl) ?_
              intro D vs u hI h0 hC hp ac hb K hK
              obtain ⟨σ, hP, hW⟩ := hI
              have s2 : ac.tmps[2]?.getD undef = .pointer (some ⟨r, 0, none⟩) := by rw [hb]; kernel_rfl
              have s109 : ac.tmps[109]?.getD undef = vC cF := by rw [hb]; exact (show _ = vs 0 by kernel_rfl).trans (show vs 0 = vC cF from hP 0 (hp 0 (by decide)))
              rw [if_pos (AnyO.wanted_none rfl)]
              clear hb hp
              have rr1 := Row.rowOk' hW.res (cC_length _)
              clear hC
              have HP := Lib.hid hP
              have HWq := Lib.hid hW
              clear hP hW
              go_simp
              have hP := HP.out
              have hW := HWq.out
              clear HP HWq
              refine hK undef _ (AnyO.InvG.step (g := σ) hP trivial ?_)
              show RI r g gx cF xF cF w _
              exact hW.put
            · -- 5: Op.assign (Operand.tmp 112)
              refine AnyO.StepI.mk rfl [3, 4, 0, 1, 2, 3, 4] (by kernel_rfl) ?_
              intro D vs u hI h0 hC hp ac hb K hK
              obtain ⟨σ, hP, hW⟩ := hI
              have s112 : ac.tmps[112]?.getD undef = .bool (q == 0) := by rw [hb]; exact (show _ = vs 3 by kernel_rfl).trans (show vs 3 = .bool (q == 0) from hP 3 (hp 3 (by decide)))
              rw [if_pos (AnyO.wanted_none rfl)]
              clear hb hp
              clear hC
              clear h0
              have HP := Lib.hid hP
              have HWq := Lib.hid hW
              clear hP hW
              go_simp
              have hP := HP.out
              have hW := HWq.out
              clear HP HWq
              exact hK _ _ (AnyO.InvG.step (g := σ) hP rfl hW)
          · intro D vs u hI hD
            obtain ⟨σ, hP, hW⟩ := hI
            have e0 : vs 0 = vC cF := hP 0 (hD 0 (by decide))
            have e1 : vs 1 = vC xF := hP 1 (hD 1 (by decide))
            have e2 : vs 2 = .int .i64 q := hP 2 (hD 2 (by decide))
            have e3 : vs 3 = .bool (q == 0) := hP 3 (hD 3 (by decide))
            have e5 : vs 5 = .bool (q == 0) := hP 5 (hD 5 (by decide))
            rw [hD 4 (by decide)] at hW
            change RI r g gx cF xF cF w u at hW
            have HW := Lib.hid hW
            clear hW hP hD
            rw [puts_range [some 109, some 110, some 111, some 112, none, some 3] (by kernel_rfl)]
            simp only [putL, Nat.reduceAdd, e0, e1, e2, e3, e5]
            clear e0 e1 e2 e3 e5
            go_simp
            go_wp2
            exact bodyPost_ret (v := .tuple #[vC cF, .bool (q == 0)]) (results_c2 (ad := ⟨r, 0, none⟩) rfl rfl (ld_row31 cF HW.out.res) rfl) rfl ⟨cF, q == 0, rfl, by rw [HPL.out]; exact HAG.out, by rw [HRR.out]; exact HW.out.bel⟩
      · have c0 : wr.cell? ⟨g, 0, none⟩ = some (.int .i64 8) := HI.out.out.cell 0
        by_cases hwant : N = 2
        case neg =>
          have q1 : ((N : Int) != 2) = true := by rw [bne_iff_ne]; omega
          obtain ⟨rk, hf1, hf2⟩ := HI.out.fail
          have HF := Lib.hid (And.intro hf1 hf2)
          clear hf1 hf2
          go_wp2
          exact bodyPost_ret (v := .tuple #[vC zC, .bool false]) (results_c2 (ad := ⟨r, 0, none⟩) rfl rfl (ld_row31 zC HF.out.1) rfl) rfl ⟨zC, false, rfl, by rw [HPL.out]; exact Agree.no (parse_ne ps 8 HVH.out (Or.inr (fun e => hwant (HNL.out.symm.trans e)))), by rw [HRR.out]; exact HF.out.2⟩
        subst hwant
        obtain ⟨a0, w1, hpq⟩ := len2 ps HNL.out
        have HPQ := Lib.hid hpq
        obtain rfl : w0 = a0 := by have h := HW0.out; rw [hpq] at h; exact (Option.some.inj h).symm
        have HZ1 := Lib.hid (HPZ.out.1 w1 (by rw [hpq]; simp))
        have HX1 := Lib.hid (show ps[1]? = some w1 by rw [hpq]; rfl)
        clear hpq
        have O3 : PI r gs g ps ⟨8, ⟨#[]⟩, zI, 0, 0, 0, 0, ⟨#[]⟩⟩ w wr := HI.out
        have v3 : wr.cell? ⟨g, 0, none⟩ = some (.int .i64 8) := O3.out.cell 0
        have p1 : wr.cell? ⟨gs, 1, none⟩ = some (.string w1) := O3.ws 1 w1 HX1.out
        have H65 := Lib.hid (fun w1a => refParse65 w1 w1a HZ1.out)
        unfold RpaP at H65
        have HO := Lib.hid O3
        clear O3
        cases hid : identB (bl w1) with
        | false =>
          rw [hid] at H65
          have HID := Lib.hid hid
          clear hid
          go_wp2_with (go_at_call 59; refine (H65.out _).mono ?_; rintro e w5 ⟨a, m, rfl, hm, hb5⟩; have hm2 : (m != 0) = true := (by rw [bne_iff_ne]; exact of_decide_eq_false hm); obtain ⟨rk, hf1, hf2⟩ := (HO.out.keep (Below.step hb5 (below_alloc w5 (.cells (aI zI) 104)))).fail; have HF := Lib.hid (And.intro hf1 hf2); clear hm hb5 hf1 hf2)
          exact bodyPost_ret (v := .tuple #[vC zC, .bool false]) (results_c2 (ad := ⟨r, 0, none⟩) rfl rfl (ld_row31 zC HF.out.1) rfl) rfl ⟨zC, false, rfl, by rw [HPL.out]; exact Agree.no (by rw [HPQ.out]; exact noid_v8 w0 w1 HVV.out HID.out), by rw [HRR.out]; exact HF.out.2⟩
        | true =>
          rw [hid, if_pos rfl] at H65
          obtain ⟨x, hx⟩ : ∃ x, midL (bl w1) = x := ⟨_, rfl⟩
          rw [hx] at H65
          have HID := Lib.hid (And.intro hid hx)
          clear hid hx
          have HAG0 := Lib.hid (agree_v8 w0 w1 HVV.out HID.out.1)
          rw [HID.out.2] at HAG0
          rw [← HPQ.out] at HAG0
          obtain ⟨cF, hcF⟩ : ∃ cF : Cm, ⟨8, ⟨#[]⟩, x, 0, 0, 0, 0, ⟨#[]⟩⟩ = cF := ⟨_, rfl⟩
          obtain ⟨xF, hxF⟩ : ∃ xF : Cm, cF = xF := ⟨_, rfl⟩
          have H22 := Lib.hid (fun w1a => refCheck22 xF w1a (by rw [← hxF, ← hcF]; exact Nat.zero_le _) (by rw [← hxF, ← hcF]; exact Nat.zero_le _))
          unfold RchkP at H22
          obtain ⟨q, hq⟩ : ∃ q, chk xF = q := ⟨_, rfl⟩
          rw [hq] at H22
          have HAG := Lib.hid (show Agree cF (q == 0) (parseW ps) by rw [← hq, ← hxF, ← hcF]; exact HAG0.out)
          have HCF := Lib.hid hcF
          have HXF := Lib.hid hxF
          clear hq hcF hxF
          go_wp2_with (go_at_call 59; refine (H65.out _).mono ?_; rintro e w5 ⟨a, m, rfl, hm, hb5⟩; have hm2 : (m != 0) = false := (by rw [bne_eq_false_iff_eq]; exact of_decide_eq_true hm); have P5 := HO.out.keep (Below.step hb5 (below_alloc w5 (.cells (aI x) 104))); have st5 : stOk (w5.alloc (.cells (aI x) 104)) g 2 32 = true := P5.out.ok _ 2 32 (by rw [cC_length]; omega); obtain ⟨W6, hW6⟩ : ∃ W6, stD (w5.alloc (.cells (aI x) 104)) g 2 (cI x) = W6 := ⟨_, rfl⟩; have P6 : PI r gs g ps cF w W6 := (by rw [← hW6, ← HCF.out]; exact P5.stI x); obtain ⟨ok5, rd5⟩ : okA W6 ⟨g, 0, none⟩ 39 = true ∧ rdA W6 ⟨g, 0, none⟩ 39 = vC cF := ⟨okC P6.out, rdC P6.out⟩; obtain ⟨gx, hgx⟩ : ∃ gx, W6.heap.size = gx := ⟨_, rfl⟩; obtain ⟨W7, hW7⟩ : ∃ W7, W6.alloc (.cells (aC cF) 49) = W7 := ⟨_, rfl⟩; have P7 : PI r gs g ps cF w W7 := (by rw [← hW7]; exact P6.keep (below_alloc _ _)); have X7 : Row W7 gx (cC cF) 49 := (by rw [← hW7, ← hgx]; exact Row.new W6 (cC cF) 49); have hlx : g < gx := (by rw [← hgx]; exact P6.out.lt); have v7 : W7.cell? ⟨g, 0, none⟩ = some (.int .i64 8) := (P7.out.cell 0).trans (by rw [← HCF.out]; rfl); have HRI := Lib.hid (show RI r g gx cF xF zC w W7 from ⟨P7.out, by rw [← HXF.out]; exact X7, P7.res, P7.bel, by have := P7.lt1; have := P7.lt2; omega, by have := P7.lt1; have := P7.lt2; omega⟩); clear P7 X7 hlx; clear P5 P6 hm hb5)
          clear hgx hW7
          refine AnyO.wp_anyI (by kernel_rfl) (by kernel_rfl) (AnyO.InvG (σ := Unit) (fun σ => AnyO.pvL [some (vC cF), some (vC xF), some (.int .i64 q), some (.bool (q == 0)), none, some (.bool (q == 0))]) (fun _ D u => RI r g gx cF xF (bif D 4 then cF else zC) w u)) (AnyO.InvG.start (g := ()) (by show RI r g gx cF xF zC w _; exact HRI.out.keep (below_drew _))) ?_ ?_
          · intro i hi
            have hi2 : i = 0 ∨ i = 1 ∨ i = 2 ∨ i = 3 ∨ i = 4 ∨ i = 5 := by simp only [List.size_toArray, List.length_cons, List.length_nil] at hi; omega
            clear hi
            rcases hi2 with rfl | rfl | rfl | rfl | rfl | rfl
            · -- 0: Op.load 31 (Operand.tmp 5)
              refine AnyO.StepI.mk rfl [] (by kernel_rfl) ?_
              intro D vs u hI h0 hC hp ac hb K hK
              obtain ⟨σ, hP, hW⟩ := hI
              have s5 : ac.tmps[5]?.getD undef = .pointer (some ⟨g, 0, none⟩) := by rw [hb]; kernel_rfl
              rw [if_pos (AnyO.wanted_none rfl)]
              clear hb hp
              have rr1 := okC hW.out
              have rr2 := rdC hW.out
              clear hC
              clear h0
              have HP := Lib.hid hP
              have HWq := Lib.hid hW
              clear hP hW
              go_simp
              have hP := HP.out
              have hW := HWq.out
              clear HP HWq
              exact hK _ _ (AnyO.InvG.step (g := σ) hP rfl hW)
            · -- 1: Op.load 31 (Operand.tmp 12)
              refine AnyO.StepI.mk rfl [] (by kernel_rfl) ?_
              intro D vs u hI h0 hC hp ac hb K hK
              obtain ⟨σ, hP, hW⟩ := hI
              have s12 : ac.tmps[12]?.getD undef = .pointer (some ⟨gx, 0, none⟩) := by rw [hb]; kernel_rfl
              rw [if_pos (AnyO.wanted_none rfl)]
              clear hb hp
              have rr1 := okC hW.txt
              have rr2 := rdC hW.txt
              clear hC
              clear h0
              have HP := Lib.hid hP
              have HWq := Lib.hid hW
              clear hP hW
              go_simp
              have hP := HP.out
              have hW := HWq.out
              clear HP HWq
              exact hK _ _ (AnyO.InvG.step (g := σ) hP rfl hW)
            · -- 2: Op.call { callee := Callee.value (Operand.func 22), args := 
              refine AnyO.StepI.mk rfl [1] (by kernel_rfl) ?_
              intro D vs u hI h0 hC hp ac hb K hK
              obtain ⟨σ, hP, hW⟩ := hI
              have s110 : ac.tmps[110]?.getD undef = vC xF := by rw [hb]; exact (show _ = vs 1 by kernel_rfl).trans (show vs 1 = vC xF from hP 1 (hp 1 (by decide)))
              rw [if_pos (AnyO.wanted_none rfl)]
              clear hb hp
              clear hC
              clear h0
              have HP := Lib.hid hP
              have HWq := Lib.hid hW
              clear hP hW
              go_simp
              have hP := HP.out
              have hW := HWq.out
              clear HP HWq
              go_at_call 32
              refine (H22.out u).mono ?_
              rintro e w2 ⟨rfl, hb2⟩
              exact hK _ _ (AnyO.InvG.step (g := σ) hP rfl (hW.keep hb2))
            · -- 3: Op.binOp BinOp.eql 3 (Operand.tmp 111) (Operand.const (Value
              refine AnyO.StepI.mk rfl [2] (by kernel_rfl) ?_
              intro D vs u hI h0 hC hp ac hb K hK
              obtain ⟨σ, hP, hW⟩ := hI
              have s111 : ac.tmps[111]?.getD undef = .int .i64 q := by rw [hb]; exact (show _ = vs 2 by kernel_rfl).trans (show vs 2 = .int .i64 q from hP 2 (hp 2 (by decide)))
              rw [if_pos (AnyO.wanted_none rfl)]
              clear hb hp
              clear hC
              clear h0
              have HP := Lib.hid hP
              have HWq := Lib.hid hW
              clear hP hW
              go_simp
              have hP := HP.out
              have hW := HWq.out
              clear HP HWq
              exact hK _ _ (AnyO.InvG.step (g := σ) hP rfl hW)
            · -- 4: Op.store 31 (Operand.tmp 2) (Operand.tmp 109)
              refine AnyO.StepI.mk rfl [0, 2, 0] (by kernel_rfl) ?_
              intro D vs u hI h0 hC hp ac hb K hK
              obtain ⟨σ, hP, hW⟩ := hI
              have s2 : ac.tmps[2]?.getD undef = .pointer (some ⟨r, 0, none⟩) := by rw [hb]; kernel_rfl
              have s109 : ac.tmps[109]?.getD undef = vC cF := by rw [hb]; exact (show _ = vs 0 by kernel_rfl).trans (show vs 0 = vC cF from hP 0 (hp 0 (by decide)))
              rw [if_pos (AnyO.wanted_none rfl)]
              clear hb hp
              have rr1 := Row.rowOk' hW.res (cC_length _)
              clear hC
              have HP := Lib.hid hP
              have HWq := Lib.hid hW
              clear hP hW
              go_simp
              have hP := HP.out
              have hW := HWq.out
              clear HP HWq
              refine hK undef _ (AnyO.InvG.step (g := σ) hP trivial ?_)
              show RI r g gx cF xF cF w _
              exact hW.put
            · -- 5: Op.assign (Operand.tmp 112)
              refine AnyO.StepI.mk rfl [3, 4, 0, 1, 2, 3, 4] (by kernel_rfl) ?_
              intro D vs u hI h0 hC hp ac hb K hK
              obtain ⟨σ, hP, hW⟩ := hI
              have s112 : ac.tmps[112]?.getD undef = .bool (q == 0) := by rw [hb]; exact (show _ = vs 3 by kernel_rfl).trans (show vs 3 = .bool (q == 0) from hP 3 (hp 3 (by decide)))
              rw [if_pos (AnyO.wanted_none rfl)]
              clear hb hp
              clear hC
              clear h0
              have HP := Lib.hid hP
              have HWq := Lib.hid hW
              clear hP hW
              go_simp
              have hP := HP.out
              have hW := HWq.out
              clear HP HWq
              exact hK _ _ (AnyO.InvG.step (g := σ) hP rfl hW)
          · intro D vs u hI hD
            obtain ⟨σ, hP, hW⟩ := hI
            have e0 : vs 0 = vC cF := hP 0 (hD 0 (by decide))
            have e1 : vs 1 = vC xF := hP 1 (hD 1 (by decide))
            have e2 : vs 2 = .int .i64 q := hP 2 (hD 2 (by decide))
            have e3 : vs 3 = .bool (q == 0) := hP 3 (hD 3 (by decide))
            have e5 : vs 5 = .bool (q == 0) := hP 5 (hD 5 (by decide))
            rw [hD 4 (by decide)] at hW
            change RI r g gx cF xF cF w u at hW
            have HW := Lib.hid hW
            clear hW hP hD
            rw [puts_range [some 109, some 110, some 111, some 112, none, some 3] (by kernel_rfl)]
            simp only [putL, Nat.reduceAdd, e0, e1, e2, e3, e5]
            clear e0 e1 e2 e3 e5
            go_simp
            go_wp2
            exact bodyPost_ret (v := .tuple #[vC cF, .bool (q == 0)]) (results_c2 (ad := ⟨r, 0, none⟩) rfl rfl (ld_row31 cF HW.out.res) rfl) rfl ⟨cF, q == 0, rfl, by rw [HPL.out]; exact HAG.out, by rw [HRR.out]; exact HW.out.bel⟩
      · have c0 : wr.cell? ⟨g, 0, none⟩ = some (.int .i64 9) := HI.out.out.cell 0
        by_cases hwant : N = 2
        case neg =>
          have q1 : ((N : Int) != 2) = true := by rw [bne_iff_ne]; omega
          obtain ⟨rk, hf1, hf2⟩ := HI.out.fail
          have HF := Lib.hid (And.intro hf1 hf2)
          clear hf1 hf2
          go_wp2
          exact bodyPost_ret (v := .tuple #[vC zC, .bool false]) (results_c2 (ad := ⟨r, 0, none⟩) rfl rfl (ld_row31 zC HF.out.1) rfl) rfl ⟨zC, false, rfl, by rw [HPL.out]; exact Agree.no (parse_ne ps 9 HVH.out (Or.inr (fun e => hwant (HNL.out.symm.trans e)))), by rw [HRR.out]; exact HF.out.2⟩
        subst hwant
        obtain ⟨a0, w1, hpq⟩ := len2 ps HNL.out
        have HPQ := Lib.hid hpq
        obtain rfl : w0 = a0 := by have h := HW0.out; rw [hpq] at h; exact (Option.some.inj h).symm
        have HZ1 := Lib.hid (HPZ.out.1 w1 (by rw [hpq]; simp))
        have HX1 := Lib.hid (show ps[1]? = some w1 by rw [hpq]; rfl)
        clear hpq
        have O3 : PI r gs g ps ⟨9, ⟨#[]⟩, zI, 0, 0, 0, 0, ⟨#[]⟩⟩ w wr := HI.out
        have v3 : wr.cell? ⟨g, 0, none⟩ = some (.int .i64 9) := O3.out.cell 0
        have p1 : wr.cell? ⟨gs, 1, none⟩ = some (.string w1) := O3.ws 1 w1 HX1.out
        have H65 := Lib.hid (fun w1a => refParse65 w1 w1a HZ1.out)
        unfold RpaP at H65
        have HO := Lib.hid O3
        clear O3
        cases hid : identB (bl w1) with
        | false =>
          rw [hid] at H65
          have HID := Lib.hid hid
          clear hid
          go_wp2_with (go_at_call 59; refine (H65.out _).mono ?_; rintro e w5 ⟨a, m, rfl, hm, hb5⟩; have hm2 : (m != 0) = true := (by rw [bne_iff_ne]; exact of_decide_eq_false hm); obtain ⟨rk, hf1, hf2⟩ := (HO.out.keep (Below.step hb5 (below_alloc w5 (.cells (aI zI) 104)))).fail; have HF := Lib.hid (And.intro hf1 hf2); clear hm hb5 hf1 hf2)
          exact bodyPost_ret (v := .tuple #[vC zC, .bool false]) (results_c2 (ad := ⟨r, 0, none⟩) rfl rfl (ld_row31 zC HF.out.1) rfl) rfl ⟨zC, false, rfl, by rw [HPL.out]; exact Agree.no (by rw [HPQ.out]; exact noid_v9 w0 w1 HVV.out HID.out), by rw [HRR.out]; exact HF.out.2⟩
        | true =>
          rw [hid, if_pos rfl] at H65
          obtain ⟨x, hx⟩ : ∃ x, midL (bl w1) = x := ⟨_, rfl⟩
          rw [hx] at H65
          have HID := Lib.hid (And.intro hid hx)
          clear hid hx
          have HAG0 := Lib.hid (agree_v9 w0 w1 HVV.out HID.out.1)
          rw [HID.out.2] at HAG0
          rw [← HPQ.out] at HAG0
          obtain ⟨cF, hcF⟩ : ∃ cF : Cm, ⟨9, ⟨#[]⟩, x, 0, 0, 0, 0, ⟨#[]⟩⟩ = cF := ⟨_, rfl⟩
          obtain ⟨xF, hxF⟩ : ∃ xF : Cm, cF = xF := ⟨_, rfl⟩
          have H22 := Lib.hid (fun w1a => refCheck22 xF w1a (by rw [← hxF, ← hcF]; exact Nat.zero_le _) (by rw [← hxF, ← hcF]; exact Nat.zero_le _))
          unfold RchkP at H22
          obtain ⟨q, hq⟩ : ∃ q, chk xF = q := ⟨_, rfl⟩
          rw [hq] at H22
          have HAG := Lib.hid (show Agree cF (q == 0) (parseW ps) by rw [← hq, ← hxF, ← hcF]; exact HAG0.out)
          have HCF := Lib.hid hcF
          have HXF := Lib.hid hxF
          clear hq hcF hxF
          go_wp2_with (go_at_call 59; refine (H65.out _).mono ?_; rintro e w5 ⟨a, m, rfl, hm, hb5⟩; have hm2 : (m != 0) = false := (by rw [bne_eq_false_iff_eq]; exact of_decide_eq_true hm); have P5 := HO.out.keep (Below.step hb5 (below_alloc w5 (.cells (aI x) 104))); have st5 : stOk (w5.alloc (.cells (aI x) 104)) g 2 32 = true := P5.out.ok _ 2 32 (by rw [cC_length]; omega); obtain ⟨W6, hW6⟩ : ∃ W6, stD (w5.alloc (.cells (aI x) 104)) g 2 (cI x) = W6 := ⟨_, rfl⟩; have P6 : PI r gs g ps cF w W6 := (by rw [← hW6, ← HCF.out]; exact P5.stI x); obtain ⟨ok5, rd5⟩ : okA W6 ⟨g, 0, none⟩ 39 = true ∧ rdA W6 ⟨g, 0, none⟩ 39 = vC cF := ⟨okC P6.out, rdC P6.out⟩; obtain ⟨gx, hgx⟩ : ∃ gx, W6.heap.size = gx := ⟨_, rfl⟩; obtain ⟨W7, hW7⟩ : ∃ W7, W6.alloc (.cells (aC cF) 49) = W7 := ⟨_, rfl⟩; have P7 : PI r gs g ps cF w W7 := (by rw [← hW7]; exact P6.keep (below_alloc _ _)); have X7 : Row W7 gx (cC cF) 49 := (by rw [← hW7, ← hgx]; exact Row.new W6 (cC cF) 49); have hlx : g < gx := (by rw [← hgx]; exact P6.out.lt); have v7 : W7.cell? ⟨g, 0, none⟩ = some (.int .i64 9) := (P7.out.cell 0).trans (by rw [← HCF.out]; rfl); have HRI := Lib.hid (show RI r g gx cF xF zC w W7 from ⟨P7.out, by rw [← HXF.out]; exact X7, P7.res, P7.bel, by have := P7.lt1; have := P7.lt2; omega, by have := P7.lt1; have := P7.lt2; omega⟩); clear P7 X7 hlx; clear P5 P6 hm hb5)
          clear hgx hW7
          refine AnyO.wp_anyI (by kernel_rfl) (by kernel_rfl) (AnyO.InvG (σ := Unit) (fun σ => AnyO.pvL [some (vC cF), some (vC xF), some (.int .i64 q), some (.bool (q == 0)), none, some (.bool (q == 0))]) (fun _ D u => RI r g gx cF xF (bif D 4 then cF else zC) w u)) (AnyO.InvG.start (g := ()) (by show RI r g gx cF xF zC w _; exact HRI.out.keep (below_drew _))) ?_ ?_
          · intro i hi
            have hi2 : i = 0 ∨ i = 1 ∨ i = 2 ∨ i = 3 ∨ i = 4 ∨ i = 5 := by simp only [List.size_toArray, List.length_cons, List.length_nil] at hi; omega
            clear hi
            rcases hi2 with rfl | rfl | rfl | rfl | rfl | rfl
            · -- 0: Op.load 31 (Operand.tmp 5)
              refine AnyO.StepI.mk rfl [] (by kernel_rfl) ?_
              intro D vs u hI h0 hC hp ac hb K hK
              obtain ⟨σ, hP, hW⟩ := hI
              have s5 : ac.tmps[5]?.getD undef = .pointer (some ⟨g, 0, none⟩) := by rw [hb]; kernel_rfl
              rw [if_pos (AnyO.wanted_none rfl)]
              clear hb hp
              have rr1 := okC hW.out
              have rr2 := rdC hW.out
              clear hC
              clear h0
              have HP := Lib.hid hP
              have HWq := Lib.hid hW
              clear hP hW
              go_simp
              have hP := HP.out
              have hW := HWq.out
              clear HP HWq
              exact hK _ _ (AnyO.InvG.step (g := σ) hP rfl hW)
            · -- 1: Op.load 31 (Operand.tmp 12)
              refine AnyO.StepI.mk rfl [] (by kernel_rfl) ?_
              intro D vs u hI h0 hC hp ac hb K hK
              obtain ⟨σ, hP, hW⟩ := hI
              have s12 : ac.tmps[12]?.getD undef = .pointer (some ⟨gx, 0, none⟩) := by rw [hb]; kernel_rfl
              rw [if_pos (AnyO.wanted_none rfl)]
              clear hb hp
              have rr1 := okC hW.txt
              have rr2 := rdC hW.txt
              clear hC
              clear h0
              have HP := Lib.hid hP
              have HWq := Lib.hid hW
              clear hP hW
              go_simp
              have hP := HP.out
              have hW := HWq.out
              clear HP HWq
              exact hK _ _ (AnyO.InvG.step (g := σ) hP rfl hW)
            · -- 2: Op.call { callee := Callee.value (Operand.func 22), args := 
              refine AnyO.StepI.mk rfl [1] (by kernel_rfl) ?_
              intro D vs u hI h0 hC hp ac hb K hK
              obtain ⟨σ, hP, hW⟩ := hI
              have s110 : ac.tmps[110]?.getD undef = vC xF := by rw [hb]; exact (show _ = vs 1 by kernel_rfl).trans (show vs 1 = vC xF from hP 1 (hp 1 (by decide)))
              rw [if_pos (AnyO.wanted_none rfl)]
              clear hb hp
              clear hC
              clear h0
              have HP := Lib.hid hP
              have HWq := Lib.hid hW
              clear hP hW
              go_simp
              have hP := HP.out
              have hW := HWq.out
              clear HP HWq
              go_at_call 32
              refine (H22.out u).mono ?_
              rintro e w2 ⟨rfl, hb2⟩
              exact hK _ _ (AnyO.InvG.step (g := σ) hP rfl (hW.keep hb2))
            · -- 3: Op.binOp BinOp.eql 3 (Operand.tmp 111) (Operand.const (Value
              refine AnyO.StepI.mk rfl [2] (by kernel_rfl) ?_
              intro D vs u hI h0 hC hp ac hb K hK
              obtain ⟨σ, hP, hW⟩ := hI
              have s111 : ac.tmps[111]?.getD undef = .int .i64 q := by rw [hb]; exact (show _ = vs 2 by kernel_rfl).trans (show vs 2 = .int .i64 q from hP 2 (hp 2 (by decide)))
              rw [if_pos (AnyO.wanted_none rfl)]
              clear hb hp
              clear hC
              clear h0
              have HP := Lib.hid hP
              have HWq := Lib.hid hW
              clear hP hW
              go_simp
              have hP := HP.out
              have hW := HWq.out
              clear HP HWq
              exact hK _ _ (AnyO.InvG.step (g := σ) hP rfl hW)
            · -- 4: Op.store 31 (Operand.tmp 2) (Operand.tmp 109)
              refine AnyO.StepI.mk rfl [0, 2, 0] (by kernel_rfl) ?_
              intro D vs u hI h0 hC hp ac hb K hK
              obtain ⟨σ, hP, hW⟩ := hI
              have s2 : ac.tmps[2]?.getD undef = .pointer (some ⟨r, 0, none⟩) := by rw [hb]; kernel_rfl
              have s109 : ac.tmps[109]?.getD undef = vC cF := by rw [hb]; exact (show _ = vs 0 by kernel_rfl).trans (show vs 0 = vC cF from hP 0 (hp 0 (by decide)))
              rw [if_pos (AnyO.wanted_none rfl)]
              clear hb hp
              have rr1 := Row.rowOk' hW.res (cC_length _)
              clear hC
              have HP := Lib.hid hP
              have HWq := Lib.hid hW
              clear hP hW
              go_simp
              have hP := HP.out
              have hW := HWq.out
              clear HP HWq
              refine hK undef _ (AnyO.InvG.step (g := σ) hP trivial ?_)
              show RI r g gx cF xF cF w _
              exact hW.put
            · -- 5: Op.assign (Operand.tmp 112)
              refine AnyO.StepI.mk rfl [3, 4, 0, 1, 2, 3, 4] (by kernel_rfl) ?_
              intro D vs u hI h0 hC hp ac hb K hK
              obtain ⟨σ, hP, hW⟩ := hI
              have s112 : ac.tmps[112]?.getD undef = .bool (q == 0) := by rw [hb]; exact (show _ = vs 3 by kernel_rfl).trans (show vs 3 = .bool (q == 0) from hP 3 (hp 3 (by decide)))
              rw [if_pos (AnyO.wanted_none rfl)]
              clear hb hp
              clear hC
              clear h0
              have HP := Lib.hid hP
              have HWq := Lib.hid hW
              clear hP hW
              go_simp
              have hP := HP.out
              have hW := HWq.out
              clear HP HWq
              exact hK _ _ (AnyO.InvG.step (g := σ) hP rfl hW)
          · intro D vs u hI hD
            obtain ⟨σ, hP, hW⟩ := hI
            have e0 : vs 0 = vC cF := hP 0 (hD 0 (by decide))
            have e1 : vs 1 = vC xF := hP 1 (hD 1 (by decide))
            have e2 : vs 2 = .int .i64 q := hP 2 (hD 2 (by decide))
            have e3 : vs 3 = .bool (q == 0) := hP 3 (hD 3 (by decide))
            have e5 : vs 5 = .bool (q == 0) := hP 5 (hD 5 (by decide))
            rw [hD 4 (by decide)] at hW
            change RI r g gx cF xF cF w u at hW
            have HW := Lib.hid hW
            clear hW hP hD
            rw [puts_range [some 109, some 110, some 111, some 112, none, some 3] (by kernel_rfl)]
            simp only [putL, Nat.reduceAdd, e0, e1, e2, e3, e5]
            clear e0 e1 e2 e3 e5
            go_simp
            go_wp2
            exact bodyPost_ret (v := .tuple #[vC cF, .bool (q == 0)]) (results_c2 (ad := ⟨r, 0, none⟩) rfl rfl (ld_row31 cF HW.out.res) rfl) rfl ⟨cF, q == 0, rfl, by rw [HPL.out]; exact HAG.out, by rw [HRR.out]; exact HW.out.bel⟩
      · have c0 : wr.cell? ⟨g, 0, none⟩ = some (.int .i64 10) := HI.out.out.cell 0
        by_cases hwant : N = 1
        case neg =>
          have q1 : ((N : Int) != 1) = true := by rw [bne_iff_ne]; omega
          obtain ⟨rk, hf1, hf2⟩ := HI.out.fail
          have HF := Lib.hid (And.intro hf1 hf2)
          clear hf1 hf2
          go_wp2
          exact bodyPost_ret (v := .tuple #[vC zC, .bool false]) (results_c2 (ad := ⟨r, 0, none⟩) rfl rfl (ld_row31 zC HF.out.1) rfl) rfl ⟨zC, false, rfl, by rw [HPL.out]; exact Agree.no (parse_ne ps 10 HVH.out (Or.inr (fun e => hwant (HNL.out.symm.trans e)))), by rw [HRR.out]; exact HF.out.2⟩
        subst hwant
        obtain ⟨a0, hpq⟩ := len1 ps HNL.out
        have HPQ := Lib.hid hpq
        obtain rfl : w0 = a0 := by have h := HW0.out; rw [hpq] at h; exact (Option.some.inj h).symm
        clear hpq
        have O3 : PI r gs g ps ⟨10, ⟨#[]⟩, zI, 0, 0, 0, 0, ⟨#[]⟩⟩ w wr := HI.out
        have v3 : wr.cell? ⟨g, 0, none⟩ = some (.int .i64 10) := O3.out.cell 0
        have HO := Lib.hid O3
        clear O3
        have HAG0 := Lib.hid (agree_v10 w0 HVV.out)
        rw [← HPQ.out] at HAG0
        obtain ⟨cF, hcF⟩ : ∃ cF : Cm, ⟨10, ⟨#[]⟩, zI, 0, 0, 0, 0, ⟨#[]⟩⟩ = cF := ⟨_, rfl⟩
        obtain ⟨xF, hxF⟩ : ∃ xF : Cm, ⟨10, ⟨#[]⟩, zI, 0, 0, 0, 0, ⟨#[120]⟩⟩ = xF := ⟨_, rfl⟩
        have H22 := Lib.hid (fun w1a => refCheck22 xF w1a (by rw [← hxF]; exact Nat.zero_le _) (by rw [← hxF]; exact (show (⟨#[120]⟩ : ByteArray).size ≤ 1000000 by decide)))
        unfold RchkP at H22
        obtain ⟨q, hq⟩ : ∃ q, chk xF = q := ⟨_, rfl⟩
        rw [hq] at H22
        have HAG := Lib.hid (show Agree cF (q == 0) (parseW ps) by rw [← hq, ← hxF, ← hcF]; exact HAG0.out)
        have HCF := Lib.hid hcF
        have HXF := Lib.hid hxF
        clear hq hcF hxF
        have HOF := Lib.hid (show PI r gs g ps cF w wr by rw [← HCF.out]; exact HO.out)
        obtain ⟨ok5, rd5⟩ : okA wr ⟨g, 0, none⟩ 39 = true ∧ rdA wr ⟨g, 0, none⟩ 39 = vC cF := ⟨okC HOF.out.out, rdC HOF.out.out⟩
        obtain ⟨gx, hgx⟩ : ∃ gx, wr.heap.size = gx := ⟨_, rfl⟩
        obtain ⟨W7, hW7⟩ : ∃ W7, wr.alloc (.cells (aC cF) 49) = W7 := ⟨_, rfl⟩
        have P7 : PI r gs g ps cF w W7 := by rw [← hW7]; exact HOF.out.keep (below_alloc _ _)
        have X7 : Row W7 gx (cC cF) 49 := by rw [← hW7, ← hgx]; exact Row.new wr (cC cF) 49
        have hlx : g < gx := by rw [← hgx]; exact HOF.out.out.lt
        have v7 : W7.cell? ⟨g, 0, none⟩ = some (.int .i64 10) := (P7.out.cell 0).trans (by rw [← HCF.out]; rfl)
        have t7 : W7.cell? ⟨gx, 38, none⟩ = some (.string ⟨#[]⟩) := (X7.cell 38).trans (by rw [← HCF.out]; exact cC_at (aC_38 _))
        have u7 := X7.fz 38
        have HRI := Lib.hid (show RI r g gx cF xF zC w (W7.setCell ⟨gx, 38, none⟩ (.string ⟨#[120]⟩)) from ⟨(One.set 38 _).row P7.out (by omega), by rw [← HXF.out]; have h := X7.set 38 (.string ⟨#[120]⟩); rwa [← HCF.out, cC_set38] at h, (One.set 38 _).row P7.res (by have := P7.lt1; have := P7.lt2; omega), Below.trans P7.bel ((One.set 38 _).below (by have := P7.lt1; have := P7.lt2; omega) (Nat.le_of_lt P7.res.lt)), by have := P7.lt1; have := P7.lt2; omega, by have := P7.lt1; have := P7.lt2; omega⟩)
        clear P7 X7 hlx
        go_wp2
        obtain ⟨W8, hW8⟩ : ∃ W8, W7.setCell ⟨gx, 38, none⟩ (.string ⟨#[120]⟩) = W8 := ⟨_, rfl⟩
        rw [hW8] at HRI ⊢
        clear hW8
        clear hgx hW7
        refine AnyO.wp_anyI (by kernel_rfl) (by kernel_rfl) (AnyO.InvG (σ := Unit) (fun σ => AnyO.pvL [some (vC cF), some (vC xF), some (.int .i64 q), some (.bool (q == 0)), none, some (.bool (q == 0))]) (fun _ D u => RI r g gx cF xF (bif D 4 then cF else zC) w u)) (AnyO.InvG.start (g := ()) (by show RI r g gx cF xF zC w _; exact HRI.out.keep (below_drew _))) ?_ ?_
        · intro i hi
          have hi2 : i = 0 ∨ i = 1 ∨ i = 2 ∨ i = 3 ∨ i = 4 ∨ i = 5 := by simp only [List.size_toArray, List.length_cons, List.length_nil] at hi; omega
          clear hi
          rcases hi2 with rfl | rfl | rfl | rfl | rfl | rfl
          · -- 0: Op.load 31 (Operand.tmp 5)
            refine AnyO.StepI.mk rfl [] (by kernel_rfl) ?_
            intro D vs u hI h0 hC hp ac hb K hK
            obtain ⟨σ, hP, hW⟩ := hI
            have s5 : ac.tmps[5]?.getD undef = .pointer (some ⟨g, 0, none⟩) := by rw [hb]; kernel_rfl
            rw [if_pos (AnyO.wanted_none rfl)]
            clear hb hp
            have rr1 := okC hW.out
            have rr2 := rdC hW.out
            clear hC
            clear h0
            have HP := Lib.hid hP
            have HWq := Lib.hid hW
            clear hP hW
            go_simp
            have hP := HP.out
            have hW := HWq.out
            clear HP HWq
            exact hK _ _ (AnyO.InvG.step (g := σ) hP rfl hW)
          · -- 1: Op.load 31 (Operand.tmp 12)
            refine AnyO.StepI.mk rfl [] (by kernel_rfl) ?_
            intro D vs u hI h0 hC hp ac hb K hK
            obtain ⟨σ, hP, hW⟩ := hI
            have s12 : ac.tmps[12]?.getD undef = .pointer (some ⟨gx, 0, none⟩) := by rw [hb]; kernel_rfl
            rw [if_pos (AnyO.wanted_none rfl)]
            clear hb hp
            have rr1 := okC hW.txt
            have rr2 := rdC hW.txt
            clear hC
            clear h0
            have HP := Lib.hid hP
            have HWq := Lib.hid hW
            clear hP hW
            go_simp
            have hP := HP.out
            have hW := HWq.out
            clear HP HWq
            exact hK _ _ (AnyO.InvG.step (g := σ) hP rfl hW)
          · -- 2: Op.call { callee := Callee.value (Operand.func 22), args := 
            refine AnyO.StepI.mk rfl [1] (by kernel_rfl) ?_
            intro D vs u hI h0 hC hp ac hb K hK
            obtain ⟨σ, hP, hW⟩ := hI
            have s110 : ac.tmps[110]?.getD undef = vC xF := by rw [hb]; exact (show _ = vs 1 by kernel_rfl).trans (show vs 1 = vC xF from hP 1 (hp 1 (by decide)))
            rw [if_pos (AnyO.wanted_none rfl)]
            clear hb hp
            clear hC
            clear h0
            have HP := Lib.hid hP
            have HWq := Lib.hid hW
            clear hP hW
            go_simp
            have hP := HP.out
            have hW := HWq.out
            clear HP HWq
            go_at_call 32
            refine (H22.out u).mono ?_
            rintro e w2 ⟨rfl, hb2⟩
            exact hK _ _ (AnyO.InvG.step (g := σ) hP rfl (hW.keep hb2))
          · -- 3: Op.binOp BinOp.eql 3 (Operand.tmp 111) (Operand.const (Value
            refine AnyO.StepI.mk rfl [2] (by kernel_rfl) ?_
            intro D vs u hI h0 hC hp ac hb K hK
            obtain ⟨σ, hP, hW⟩ := hI
            have s111 : ac.tmps[111]?.getD undef = .int .i64 q := by rw [hb]; exact (show _ = vs 2 by kernel_rfl).trans (show vs 2 = .int .i64 q from hP 2 (hp 2 (by decide)))
            rw [if_pos (AnyO.wanted_none rfl)]
            clear hb hp
            clear hC
            clear h0
            have HP := Lib.hid hP
            have HWq := Lib.hid hW
            clear hP hW
            go_simp
            have hP := HP.out
            have hW := HWq.out
            clear HP HWq
            exact hK _ _ (AnyO.InvG.step (g := σ) hP rfl hW)
          · -- 4: Op.store 31 (Operand.tmp 2) (Operand.tmp 109)
            refine AnyO.StepI.mk rfl [0, 2, 0] (by kernel_rfl) ?_
            intro D vs u hI h0 hC hp ac hb K hK
            obtain ⟨σ, hP, hW⟩ := hI
            have s2 : ac.tmps[2]?.getD undef = .pointer (some ⟨r, 0, none⟩) := by rw [hb]; kernel_rfl
            have s109 : ac.tmps[109]?.getD undef = vC cF := by rw [hb]; exact (show _ = vs 0 by kernel_rfl).trans (show vs 0 = vC cF from hP 0 (hp 0 (by decide)))
            rw [if_pos (AnyO.wanted_none rfl)]
            clear hb hp
            have rr1 := Row.rowOk' hW.res (cC_length _)
            clear hC
            have HP := Lib.hid hP
            have HWq := Lib.hid hW
            clear hP hW
            go_simp
            have hP := HP.out
            have hW := HWq.out
            clear HP HWq
            refine hK undef _ (AnyO.InvG.step (g := σ) hP trivial ?_)
            show RI r g gx cF xF cF w _
            exact hW.put
          · -- 5: Op.assign (Operand.tmp 112)
            refine AnyO.StepI.mk rfl [3, 4, 0, 1, 2, 3, 4] (by kernel_rfl) ?_
            intro D vs u hI h0 hC hp ac hb K hK
            obtain ⟨σ, hP, hW⟩ := hI
            have s112 : ac.tmps[112]?.getD undef = .bool (q == 0) := by rw [hb]; exact (show _ = vs 3 by kernel_rfl).trans (show vs 3 = .bool (q == 0) from hP 3 (hp 3 (by decide)))
            rw [if_pos (AnyO.wanted_none rfl)]
            clear hb hp
            clear hC
            clear h0
            have HP := Lib.hid hP
            have HWq := Lib.hid hW
            clear hP hW
            go_simp
            have hP := HP.out
            have hW := HWq.out
            clear HP HWq
            exact hK _ _ (AnyO.InvG.step (g := σ) hP rfl hW)
        · intro D vs u hI hD
          obtain ⟨σ, hP, hW⟩ := hI
          have e0 : vs 0 = vC cF := hP 0 (hD 0 (by decide))
          have e1 : vs 1 = vC xF := hP 1 (hD 1 (by decide))
          have e2 : vs 2 = .int .i64 q := hP 2 (hD 2 (by decide))
          have e3 : vs 3 = .bool (q == 0) := hP 3 (hD 3 (by decide))
          have e5 : vs 5 = .bool (q == 0) := hP 5 (hD 5 (by decide))
          rw [hD 4 (by decide)] at hW
          change RI r g gx cF xF cF w u at hW
          have HW := Lib.hid hW
          clear hW hP hD
          rw [puts_range [some 109, some 110, some 111, some 112, none, some 3] (by kernel_rfl)]
          simp only [putL, Nat.reduceAdd, e0, e1, e2, e3, e5]
          clear e0 e1 e2 e3 e5
          go_simp
          go_wp2
          exact bodyPost_ret (v := .tuple #[vC cF, .bool (q == 0)]) (results_c2 (ad := ⟨r, 0, none⟩) rfl rfl (ld_row31 cF HW.out.res) rfl) rfl ⟨cF, q == 0, rfl, by rw [HPL.out]; exact HAG.out, by rw [HRR.out]; exact HW.out.bel⟩
      · have c0 : wr.cell? ⟨g, 0, none⟩ = some (.int .i64 11) := HI.out.out.cell 0
        by_cases hwant : N = 1
        case neg =>
          have q1 : ((N : Int) != 1) = true := by rw [bne_iff_ne]; omega
          obtain ⟨rk, hf1, hf2⟩ := HI.out.fail
          have HF := Lib.hid (And.intro hf1 hf2)
          clear hf1 hf2
          go_wp2
          exact bodyPost_ret (v := .tuple #[vC zC, .bool false]) (results_c2 (ad := ⟨r, 0, none⟩) rfl rfl (ld_row31 zC HF.out.1) rfl) rfl ⟨zC, false, rfl, by rw [HPL.out]; exact Agree.no (parse_ne ps 11 HVH.out (Or.inr (fun e => hwant (HNL.out.symm.trans e)))), by rw [HRR.out]; exact HF.out.2⟩
        subst hwant
        obtain ⟨a0, hpq⟩ := len1 ps HNL.out
        have HPQ := Lib.hid hpq
        obtain rfl : w0 = a0 := by have h := HW0.out; rw [hpq] at h; exact (Option.some.inj h).symm
        clear hpq
        have O3 : PI r gs g ps ⟨11, ⟨#[]⟩, zI, 0, 0, 0, 0, ⟨#[]⟩⟩ w wr := HI.out
        have v3 : wr.cell? ⟨g, 0, none⟩ = some (.int .i64 11) := O3.out.cell 0
        have HO := Lib.hid O3
        clear O3
        have HAG0 := Lib.hid (agree_v11 w0 HVV.out)
        rw [← HPQ.out] at HAG0
        obtain ⟨cF, hcF⟩ : ∃ cF : Cm, ⟨11, ⟨#[]⟩, zI, 0, 0, 0, 0, ⟨#[]⟩⟩ = cF := ⟨_, rfl⟩
        obtain ⟨xF, hxF⟩ : ∃ xF : Cm, cF = xF := ⟨_, rfl⟩
        have H22 := Lib.hid (fun w1a => refCheck22 xF w1a (by rw [← hxF, ← hcF]; exact Nat.zero_le _) (by rw [← hxF, ← hcF]; exact Nat.zero_le _))
        unfold RchkP at H22
        obtain ⟨q, hq⟩ : ∃ q, chk xF = q := ⟨_, rfl⟩
        rw [hq] at H22
        have HAG := Lib.hid (show Agree cF (q == 0) (parseW ps) by rw [← hq, ← hxF, ← hcF]; exact HAG0.out)
        have HCF := Lib.hid hcF
        have HXF := Lib.hid hxF
        clear hq hcF hxF
        have HOF := Lib.hid (show PI r gs g ps cF w wr by rw [← HCF.out]; exact HO.out)
        obtain ⟨ok5, rd5⟩ : okA wr ⟨g, 0, none⟩ 39 = true ∧ rdA wr ⟨g, 0, none⟩ 39 = vC cF := ⟨okC HOF.out.out, rdC HOF.out.out⟩
        obtain ⟨gx, hgx⟩ : ∃ gx, wr.heap.size = gx := ⟨_, rfl⟩
        obtain ⟨W7, hW7⟩ : ∃ W7, wr.alloc (.cells (aC cF) 49) = W7 := ⟨_, rfl⟩
        have P7 : PI r gs g ps cF w W7 := by rw [← hW7]; exact HOF.out.keep (below_alloc _ _)
        have X7 : Row W7 gx (cC cF) 49 := by rw [← hW7, ← hgx]; exact Row.new wr (cC cF) 49
        have hlx : g < gx := by rw [← hgx]; exact HOF.out.out.lt
        have v7 : W7.cell? ⟨g, 0, none⟩ = some (.int .i64 11) := (P7.out.cell 0).trans (by rw [← HCF.out]; rfl)
        have HRI := Lib.hid (show RI r g gx cF xF zC w W7 from ⟨P7.out, by rw [← HXF.out]; exact X7, P7.res, P7.bel, by have := P7.lt1; have := P7.lt2; omega, by have := P7.lt1; have := P7.lt2; omega⟩)
        clear P7 X7 hlx
        go_wp2
        clear hgx hW7
        refine AnyO.wp_anyI (by kernel_rfl) (by kernel_rfl) (AnyO.InvG (σ := Unit) (fun σ => AnyO.pvL [some (vC cF), some (vC xF), some (.int .i64 q), some (.bool (q == 0)), none, some (.bool (q == 0))]) (fun _ D u => RI r g gx cF xF (bif D 4 then cF else zC) w u)) (AnyO.InvG.start (g := ()) (by show RI r g gx cF xF zC w _; exact HRI.out.keep (below_drew _))) ?_ ?_
        · intro i hi
          have hi2 : i = 0 ∨ i = 1 ∨ i = 2 ∨ i = 3 ∨ i = 4 ∨ i = 5 := by simp only [List.size_toArray, List.length_cons, List.length_nil] at hi; omega
          clear hi
          rcases hi2 with rfl | rfl | rfl | rfl | rfl | rfl
          · -- 0: Op.load 31 (Operand.tmp 5)
            refine AnyO.StepI.mk rfl [] (by kernel_rfl) ?_
            intro D vs u hI h0 hC hp ac hb K hK
            obtain ⟨σ, hP, hW⟩ := hI
            have s5 : ac.tmps[5]?.getD undef = .pointer (some ⟨g, 0, none⟩) := by rw [hb]; kernel_rfl
            rw [if_pos (AnyO.wanted_none rfl)]
            clear hb hp
            have rr1 := okC hW.out
            have rr2 := rdC hW.out
            clear hC
            clear h0
            have HP := Lib.hid hP
            have HWq := Lib.hid hW
            clear hP hW
            go_simp
            have hP := HP.out
            have hW := HWq.out
            clear HP HWq
            exact hK _ _ (AnyO.InvG.step (g := σ) hP rfl hW)
          · -- 1: Op.load 31 (Operand.tmp 12)
            refine AnyO.StepI.mk rfl [] (by kernel_rfl) ?_
            intro D vs u hI h0 hC hp ac hb K hK
            obtain ⟨σ, hP, hW⟩ := hI
            have s12 : ac.tmps[12]?.getD undef = .pointer (some ⟨gx, 0, none⟩) := by rw [hb]; kernel_rfl
            rw [if_pos (AnyO.wanted_none rfl)]
            clear hb hp
            have rr1 := okC hW.txt
            have rr2 := rdC hW.txt
            clear hC
            clear h0
            have HP := Lib.hid hP
            have HWq := Lib.hid hW
            clear hP hW
            go_simp
            have hP := HP.out
            have hW := HWq.out
            clear HP HWq
            exact hK _ _ (AnyO.InvG.step (g := σ) hP rfl hW)
          · -- 2: Op.call { callee := Callee.value (Operand.func 22), args := 
            refine AnyO.StepI.mk rfl [1] (by kernel_rfl) ?_
            intro D vs u hI h0 hC hp ac hb K hK
            obtain ⟨σ, hP, hW⟩ := hI
            have s110 : ac.tmps[110]?.getD undef = vC xF := by rw [hb]; exact (show _ = vs 1 by kernel_rfl).trans (show vs 1 = vC xF from hP 1 (hp 1 (by decide)))
            rw [if_pos (AnyO.wanted_none rfl)]
            clear hb hp
            clear hC
            clear h0
            have HP := Lib.hid hP
            have HWq := Lib.hid hW
            clear hP hW
            go_simp
            have hP := HP.out
            have hW := HWq.out
            clear HP HWq
            go_at_call 32
            refine (H22.out u).mono ?_
            rintro e w2 ⟨rfl, hb2⟩
            exact hK _ _ (AnyO.InvG.step (g := σ) hP rfl (hW.keep hb2))
          · -- 3: Op.binOp BinOp.eql 3 (Operand.tmp 111) (Operand.const (Value
            refine AnyO.StepI.mk rfl [2] (by kernel_rfl) ?_
            intro D vs u hI h0 hC hp ac hb K hK
            obtain ⟨σ, hP, hW⟩ := hI
            have s111 : ac.tmps[111]?.getD undef = .int .i64 q := by rw [hb]; exact (show _ = vs 2 by kernel_rfl).trans (show vs 2 = .int .i64 q from hP 2 (hp 2 (by decide)))
            rw [if_pos (AnyO.wanted_none rfl)]
            clear hb hp
            clear hC
            clear h0
            have HP := Lib.hid hP
            have HWq := Lib.hid hW
            clear hP hW
            go_simp
            have hP := HP.out
            have hW := HWq.out
            clear HP HWq
            exact hK _ _ (AnyO.InvG.step (g := σ) hP rfl hW)
          · -- 4: Op.store 31 (Operand.tmp 2) (Operand.tmp 109)
            refine AnyO.StepI.mk rfl [0, 2, 0] (by kernel_rfl) ?_
            intro D vs u hI h0 hC hp ac hb K hK
            obtain ⟨σ, hP, hW⟩ := hI
            have s2 : ac.tmps[2]?.getD undef = .pointer (some ⟨r, 0, none⟩) := by rw [hb]; kernel_rfl
            have s109 : ac.tmps[109]?.getD undef = vC cF := by rw [hb]; exact (show _ = vs 0 by kernel_rfl).trans (show vs 0 = vC cF from hP 0 (hp 0 (by decide)))
            rw [if_pos (AnyO.wanted_none rfl)]
            clear hb hp
            have rr1 := Row.rowOk' hW.res (cC_length _)
            clear hC
            have HP := Lib.hid hP
            have HWq := Lib.hid hW
            clear hP hW
            go_simp
            have hP := HP.out
            have hW := HWq.out
            clear HP HWq
            refine hK undef _ (AnyO.InvG.step (g := σ) hP trivial ?_)
            show RI r g gx cF xF cF w _
            exact hW.put
          · -- 5: Op.assign (Operand.tmp 112)
            refine AnyO.StepI.mk rfl [3, 4, 0, 1, 2, 3, 4] (by kernel_rfl) ?_
            intro D vs u hI h0 hC hp ac hb K hK
            obtain ⟨σ, hP, hW⟩ := hI
            have s112 : ac.tmps[112]?.getD undef = .bool (q == 0) := by rw [hb]; exact (show _ = vs 3 by kernel_rfl).trans (show vs 3 = .bool (q == 0) from hP 3 (hp 3 (by decide)))
            rw [if_pos (AnyO.wanted_none rfl)]
            clear hb hp
            clear hC
            clear h0
            have HP := Lib.hid hP
            have HWq := Lib.hid hW
            clear hP hW
            go_simp
            have hP := HP.out
            have hW := HWq.out
            clear HP HWq
            exact hK _ _ (AnyO.InvG.step (g := σ) hP rfl hW)
        · intro D vs u hI hD
          obtain ⟨σ, hP, hW⟩ := hI
          have e0 : vs 0 = vC cF := hP 0 (hD 0 (by decide))
          have e1 : vs 1 = vC xF := hP 1 (hD 1 (by decide))
          have e2 : vs 2 = .int .i64 q := hP 2 (hD 2 (by decide))
          have e3 : vs 3 = .bool (q == 0) := hP 3 (hD 3 (by decide))
          have e5 : vs 5 = .bool (q == 0) := hP 5 (hD 5 (by decide))
          rw [hD 4 (by decide)] at hW
          change RI r g gx cF xF cF w u at hW
          have HW := Lib.hid hW
          clear hW hP hD
          rw [puts_range [some 109, some 110, some 111, some 112, none, some 3] (by kernel_rfl)]
          simp only [putL, Nat.reduceAdd, e0, e1, e2, e3, e5]
          clear e0 e1 e2 e3 e5
          go_simp
          go_wp2
          exact bodyPost_ret (v := .tuple #[vC cF, .bool (q == 0)]) (results_c2 (ad := ⟨r, 0, none⟩) rfl rfl (ld_row31 cF HW.out.res) rfl) rfl ⟨cF, q == 0, rfl, by rw [HPL.out]; exact HAG.out, by rw [HRR.out]; exact HW.out.bel⟩
end Go.Proofs.YtfbpipknhghneaaGreatDoor
