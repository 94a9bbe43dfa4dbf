/- The reference's only: the fields that belong to a verb. Check and the reference's only: plain laws. -/
import Derived.Test.YtfbpipknhghneaaGreatDoorPlA
import Derived.Test.YtfbpipknhghneaaGreatDoorDcA
import Derived.Test.YtfbpipknhghneaaGreatDoorAnyG
namespace Go.Proofs.YtfbpipknhghneaaGreatDoor
section
open Go.RowKit
@[go_sem] theorem run_stR_2 (w : World) (g : Nat) (x : Id) : (stA 36 (.pointer (some ⟨g, 2, none⟩)) (vI x)).run Tryz.prog w = if stOk w g 2 32 = true then .ok () (stD w g 2 (cI x)) else (stB 36 (.pointer (some ⟨g, 2, none⟩)) (vI x)).run Tryz.prog w := by
  split
  · rename_i h
    exact run_stA_off w 36 g 2 (cI x) 32 h size36 (cI_length x) (cI_one x)
  · rfl
theorem ld_row31 (c : Cm) {w : World} {b : Nat} (h : Row w b (cC c) 49) : (loadVar 49 ⟨b, 0, none⟩).run Tryz.prog w = .ok (vC c) w :=
  run_loadVar_at _ ⟨b, 0, none⟩ 49 (cC c) _ (h.at_ (k := 0) (n := 39) (by rw [List.drop_zero, List.take_of_length_le (by rw [cC_length]; exact Nat.le_refl _)])) Tryz.underlying49 rfl (by rw [cC_length]; exact size49)
/-- A box, a result, a row that is filled. -/
structure OI (b r g : Nat) (c o : Cm) (w W : World) : Prop where
  box : Row W b (cC c) 49
  res : Row W r (cC zC) 49
  out : Row W g (cC o) 49
  bel : Below b w W
  lt1 : b < r
  lt2 : r < g
section
variable {b r g : Nat} {c o o' : Cm} {w W W' : World}
theorem OI.set (h : OI b r g c o w W) (k : Nat) (v : Value) (e : (cC o).set k v = cC o') : OI b r g c o' w (W.setCell ⟨g, k, none⟩ v) :=
  have h1 := h.lt1
  have h2 := h.lt2
  ⟨h.box.same (heap_set_other W g k v b (by omega)), h.res.same (heap_set_other W g k v r (by omega)), e ▸ h.out.set k v, Below.trans h.bel ((One.set k v).below (by omega) (Nat.le_of_lt h.box.lt)), h1, h2⟩
theorem OI.stI (h : OI b r g c o w W) (x : Id) : OI b r g c { o with id := x } w (stD W g 2 (cI x)) :=
  have h1 := h.lt1
  have h2 := h.lt2
  ⟨h.box.same (heap_stD_other W g 2 _ b (by omega)), h.res.same (heap_stD_other W g 2 _ r (by omega)), cC_setid o x ▸ h.out.stD 2 (cI x) (by rw [cI_length, cC_length]; omega), Below.trans h.bel ((One.stD 2 _).below (by omega) (Nat.le_of_lt h.box.lt)), h1, h2⟩
theorem OI.keep (h : OI b r g c o w W) (hb : Below W.heap.size W W') : OI b r g c o w W' :=
  ⟨h.box.keep hb, h.res.keep hb, h.out.keep hb, Below.trans h.bel (hb.mono (Nat.le_of_lt h.box.lt)), h.lt1, h.lt2⟩
theorem OI.ok (h : OI b r g c o w W) : okA W ⟨g, 0, none⟩ 39 = true ∧ rdA W ⟨g, 0, none⟩ 39 = vC o ∧ rowOk W r 39 = true ∧ Row (W.setRow r (aC o)) r (cC o) 49 ∧ Below b w (W.setRow r (aC o)) :=
  ⟨(h.out.okw (cC_length o)).1, (h.out.okw (cC_length o)).2, Row.rowOk' h.res (cC_length zC), Row.setRow h.res (cC o), Below.trans h.bel ((One.setRow r _).below (Nat.le_of_lt h.lt1) (Nat.le_of_lt h.box.lt))⟩
end
def onlyC (c : Cm) : Cm :=
  ⟨c.verb, if c.verb = 1 then c.name else ⟨#[]⟩, if c.verb = 1 then zI else if c.verb < 10 then c.id else zI, if c.verb = 2 then c.size else 0, if c.verb = 3 ∨ c.verb = 7 then c.from_ else 0, if c.verb = 1 then c.count else 0, if c.verb = 6 then c.code else 0, if c.verb = 7 ∨ c.verb = 10 then c.text else ⟨#[]⟩⟩
def OnlyP (c : Cm) (w : World) : Ending → World → Prop := fun e w' => e = .returned (vC (onlyC c)) ∧ Below w.heap.size w w'
set_option maxRecDepth 100000 in
set_option maxHeartbeats 3200000 in
theorem only50_1 (c : Cm) (hv : c.verb = 1) (w : World) : Calls Tryz.prog 60 #[vC c] w (OnlyP c w) := by
  obtain ⟨b, hb⟩ : ∃ b, w.heap.size = b := ⟨_, rfl⟩
  have HO : Hid (onlyC c = ⟨1, c.name, zI, 0, 0, c.count, 0, ⟨#[]⟩⟩) := Lib.hid (by unfold onlyC; rw [hv]; rfl)
  have R1 : Row ((w.alloc (.cells (aC c) 49)).alloc (.cells (aC zC) 49)) b (cC c) 49 := by
    rw [← hb]
    exact (Row.new w (cC c) 49).keep (below_alloc _ _)
  have R2 : Row ((w.alloc (.cells (aC c) 49)).alloc (.cells (aC zC) 49)) (b + 1) (cC zC) 49 := by
    have h := Row.new (w.alloc (.cells (aC c) 49)) (cC zC) 49
    rwa [show (w.alloc (.cells (aC c) 49)).heap.size = b + 1 by rw [← hb]; simp] at h
  have R3 : Row (((w.alloc (.cells (aC c) 49)).alloc (.cells (aC zC) 49)).alloc (.cells (aC ⟨1, ⟨#[]⟩, zI, 0, 0, 0, 0, ⟨#[]⟩⟩) 49)) (b + 1 + 1) (cC ⟨1, ⟨#[]⟩, zI, 0, 0, 0, 0, ⟨#[]⟩⟩) 49 := by
    have h := Row.new ((w.alloc (.cells (aC c) 49)).alloc (.cells (aC zC) 49)) (cC ⟨1, ⟨#[]⟩, zI, 0, 0, 0, 0, ⟨#[]⟩⟩) 49
    rwa [show ((w.alloc (.cells (aC c) 49)).alloc (.cells (aC zC) 49)).heap.size = b + 1 + 1 by rw [← hb]; simp] at h
  have k0 : ((w.alloc (.cells (aC c) 49)).alloc (.cells (aC zC) 49)).cell? ⟨b, 0, none⟩ = some (.int .i64 1) := by rw [← hv]; exact R1.cell 0
  have O3 : OI b (b + 1) (b + 1 + 1) c ⟨1, ⟨#[]⟩, zI, 0, 0, 0, 0, ⟨#[]⟩⟩ w (((w.alloc (.cells (aC c) 49)).alloc (.cells (aC zC) 49)).alloc (.cells (aC ⟨1, ⟨#[]⟩, zI, 0, 0, 0, 0, ⟨#[]⟩⟩) 49)) :=
    ⟨R1.keep (below_alloc _ _), R2.keep (below_alloc _ _), R3, by rw [← hb]; exact Below.step (Below.step (below_alloc w _) (below_alloc _ _)) (below_alloc _ _), by omega, by omega⟩
  obtain ⟨W3, hW3⟩ : ∃ W3, (((w.alloc (.cells (aC c) 49)).alloc (.cells (aC zC) 49)).alloc (.cells (aC ⟨1, ⟨#[]⟩, zI, 0, 0, 0, 0, ⟨#[]⟩⟩) 49)) = W3 := ⟨_, rfl⟩
  rw [hW3] at O3
  have HV := Lib.hid hv
  clear R1 R2 R3 hv
  have v3 : W3.cell? ⟨b, 0, none⟩ = some (.int .i64 1) := by rw [← HV.out]; exact O3.box.cell 0
  have HI := Lib.hid O3
  clear O3
  go_enter Tryz.func60, Tryz.ntmps60
  go_wp2
  obtain ⟨r, hr⟩ : ∃ r, r = b + 1 := ⟨_, rfl⟩
  rw [← hr] at HI ⊢
  obtain ⟨g, hg⟩ : ∃ g, g = r + 1 := ⟨_, rfl⟩
  rw [← hg] at HI ⊢
  clear hr hg v3
  obtain ⟨fo, hfo⟩ : ∃ fo : Bool → Bool → Cm, fo = fun d1 d2 => ⟨1, (bif d1 then c.name else ⟨#[]⟩), zI, 0, 0, (bif d2 then c.count else 0), 0, ⟨#[]⟩⟩ := ⟨_, rfl⟩
  have HFO := Lib.hid (And.intro (show fo false false = ⟨1, (⟨#[]⟩), zI, 0, 0, 0, 0, ⟨#[]⟩⟩ by rw [hfo]; rfl) (show fo true true = ⟨1, c.name, zI, 0, 0, c.count, 0, ⟨#[]⟩⟩ by rw [hfo]; rfl))
  refine AnyO.wp_anyI (by kernel_rfl) (by kernel_rfl) (AnyO.InvG (σ := Unit) (fun σ => AnyO.pvL [some (.pointer (some ⟨b, 1, none⟩)), some (.string c.name), some (.pointer (some ⟨b, 36, none⟩)), some (.int .i64 c.count), some (.pointer (some ⟨g, 1, none⟩)), none, some (.pointer (some ⟨g, 36, none⟩)), none]) (fun _ D u => OI b r g c (fo (D 5) (D 7)) w u)) (AnyO.InvG.start (g := ()) (by show OI b r g c (fo false false) w _; rw [HFO.out.1]; exact HI.out.keep (below_drew _))) ?_ ?_
  · intro i hi
    have hi2 : i = 0 ∨ i = 1 ∨ i = 2 ∨ i = 3 ∨ i = 4 ∨ i = 5 ∨ i = 6 ∨ i = 7 := by simp only [List.size_toArray, List.length_cons, List.length_nil] at hi; omega
    clear hi
    rcases hi2 with rfl | rfl | rfl | rfl | rfl | rfl | rfl | rfl
    · -- 0: Op.fieldAddr 31 (Operand.tmp 1) 1
      refine AnyO.StepI.mk rfl [] (by kernel_rfl) ?_
      intro D vs u hI h0 hC hp ac hb K hK
      obtain ⟨σ, hP, hW⟩ := hI
      have s1 : ac.tmps[1]?.getD undef = .pointer (some ⟨b, 0, none⟩) := by rw [hb]; kernel_rfl
      rw [if_pos (AnyO.wanted_none rfl)]
      clear hb hp
      clear hC
      clear h0
      have HP := Lib.hid hP
      have HWq := Lib.hid hW
      clear hP hW
      go_simp
      have hP := HP.out
      have hW := HWq.out
      clear HP HWq
      exact hK _ _ (AnyO.InvG.step (g := σ) hP rfl hW)
    · -- 1: Op.load 9 (Operand.tmp 10)
      refine AnyO.StepI.mk rfl [0] (by kernel_rfl) ?_
      intro D vs u hI h0 hC hp ac hb K hK
      obtain ⟨σ, hP, hW⟩ := hI
      have s10 : ac.tmps[10]?.getD undef = .pointer (some ⟨b, 1, none⟩) := by rw [hb]; exact (show _ = vs 0 by kernel_rfl).trans (show vs 0 = .pointer (some ⟨b, 1, none⟩) from hP 0 (hp 0 (by decide)))
      rw [if_pos (AnyO.wanted_none rfl)]
      clear hb hp
      have rr : u.cell? ⟨b, 1, none⟩ = some (.string c.name) := hW.box.cell 1
      clear hC
      clear h0
      have HP := Lib.hid hP
      have HWq := Lib.hid hW
      clear hP hW
      go_simp
      have hP := HP.out
      have hW := HWq.out
      clear HP HWq
      exact hK _ _ (AnyO.InvG.step (g := σ) hP rfl hW)
    · -- 2: Op.fieldAddr 31 (Operand.tmp 1) 5
      refine AnyO.StepI.mk rfl [] (by kernel_rfl) ?_
      intro D vs u hI h0 hC hp ac hb K hK
      obtain ⟨σ, hP, hW⟩ := hI
      have s1 : ac.tmps[1]?.getD undef = .pointer (some ⟨b, 0, none⟩) := by rw [hb]; kernel_rfl
      rw [if_pos (AnyO.wanted_none rfl)]
      clear hb hp
      clear hC
      clear h0
      have HP := Lib.hid hP
      have HWq := Lib.hid hW
      clear hP hW
      go_simp
      have hP := HP.out
      have hW := HWq.out
      clear HP HWq
      exact hK _ _ (AnyO.InvG.step (g := σ) hP rfl hW)
    · -- 3: Op.load 3 (Operand.tmp 12)
      refine AnyO.StepI.mk rfl [2] (by kernel_rfl) ?_
      intro D vs u hI h0 hC hp ac hb K hK
      obtain ⟨σ, hP, hW⟩ := hI
      have s12 : ac.tmps[12]?.getD undef = .pointer (some ⟨b, 36, none⟩) := by rw [hb]; exact (show _ = vs 2 by kernel_rfl).trans (show vs 2 = .pointer (some ⟨b, 36, none⟩) from hP 2 (hp 2 (by decide)))
      rw [if_pos (AnyO.wanted_none rfl)]
      clear hb hp
      have rr : u.cell? ⟨b, 36, none⟩ = some (.int .i64 c.count) := (hW.box.cell 36).trans (cC_at (aC_36 c))
      clear hC
      clear h0
      have HP := Lib.hid hP
      have HWq := Lib.hid hW
      clear hP hW
      go_simp
      have hP := HP.out
      have hW := HWq.out
      clear HP HWq
      exact hK _ _ (AnyO.InvG.step (g := σ) hP rfl hW)
    · -- 4: Op.fieldAddr 31 (Operand.tmp 3) 1
      refine AnyO.StepI.mk rfl [0, 1] (by kernel_rfl) ?_
      intro D vs u hI h0 hC hp ac hb K hK
      obtain ⟨σ, hP, hW⟩ := hI
      have s3 : ac.tmps[3]?.getD undef = .pointer (some ⟨g, 0, none⟩) := by rw [hb]; kernel_rfl
      rw [if_pos (AnyO.wanted_none rfl)]
      clear hb hp
      clear hC
      clear h0
      have HP := Lib.hid hP
      have HWq := Lib.hid hW
      clear hP hW
      go_simp
      have hP := HP.out
      have hW := HWq.out
      clear HP HWq
      exact hK _ _ (AnyO.InvG.step (g := σ) hP rfl hW)
    · -- 5: Op.store 9 (Operand.tmp 14) (Operand.tmp 11)
      refine AnyO.StepI.mk rfl [4, 1, 0, 1] (by kernel_rfl) ?_
      intro D vs u hI h0 hC hp ac hb K hK
      obtain ⟨σ, hP, hW⟩ := hI
      have s14 : ac.tmps[14]?.getD undef = .pointer (some ⟨g, 1, none⟩) := by rw [hb]; exact (show _ = vs 4 by kernel_rfl).trans (show vs 4 = .pointer (some ⟨g, 1, none⟩) from hP 4 (hp 4 (by decide)))
      have s11 : ac.tmps[11]?.getD undef = .string c.name := by rw [hb]; exact (show _ = vs 1 by kernel_rfl).trans (show vs 1 = .string c.name from hP 1 (hp 1 (by decide)))
      rw [if_pos (AnyO.wanted_none rfl)]
      clear hb hp
      have r1 := hW.out.cell 1
      have r2 := hW.out.fz 1
      clear hC
      have HP := Lib.hid hP
      have HWq := Lib.hid hW
      clear hP hW
      go_simp
      have hP := HP.out
      have hW := HWq.out
      clear HP HWq
      refine hK undef _ (AnyO.InvG.step (g := σ) hP trivial ?_)
      show OI b r g c (fo true (D 7)) w _
      rw [h0] at hW
      exact hW.set 1 _ (by rw [hfo]; exact cC_set1 _ _)
    · -- 6: Op.fieldAddr 31 (Operand.tmp 3) 5
      refine AnyO.StepI.mk rfl [0, 1, 2, 3, 4, 5] (by kernel_rfl) ?_
      intro D vs u hI h0 hC hp ac hb K hK
      obtain ⟨σ, hP, hW⟩ := hI
      have s3 : ac.tmps[3]?.getD undef = .pointer (some ⟨g, 0, none⟩) := by rw [hb]; kernel_rfl
      rw [if_pos (AnyO.wanted_none rfl)]
      clear hb hp
      clear hC
      clear h0
      have HP := Lib.hid hP
      have HWq := Lib.hid hW
      clear hP hW
      go_simp
      have hP := HP.out
      have hW := HWq.out
      clear HP HWq
      exact hK _ _ (AnyO.InvG.step (g := σ) hP rfl hW)
    · -- 7: Op.store 3 (Operand.tmp 15) (Operand.tmp 13)
      refine AnyO.StepI.mk rfl [6, 3, 5, 0, 1, 2, 3, 4, 5] (by kernel_rfl) ?_
      intro D vs u hI h0 hC hp ac hb K hK
      obtain ⟨σ, hP, hW⟩ := hI
      have s15 : ac.tmps[15]?.getD undef = .pointer (some ⟨g, 36, none⟩) := by rw [hb]; exact (show _ = vs 6 by kernel_rfl).trans (show vs 6 = .pointer (some ⟨g, 36, none⟩) from hP 6 (hp 6 (by decide)))
      have s13 : ac.tmps[13]?.getD undef = .int .i64 c.count := by rw [hb]; exact (show _ = vs 3 by kernel_rfl).trans (show vs 3 = .int .i64 c.count from hP 3 (hp 3 (by decide)))
      rw [if_pos (AnyO.wanted_none rfl)]
      clear hb hp
      have r1 := (hW.out.cell 36).trans (cC_at (aC_36 _))
      have r2 := hW.out.fz 36
      clear hC
      have HP := Lib.hid hP
      have HWq := Lib.hid hW
      clear hP hW
      go_simp
      have hP := HP.out
      have hW := HWq.out
      clear HP HWq
      refine hK undef _ (AnyO.InvG.step (g := σ) hP trivial ?_)
      show OI b r g c (fo (D 5) true) w _
      rw [h0] at hW
      exact hW.set 36 _ (by rw [hfo]; exact cC_set36 _ _)
  · intro D vs u hI hD
    obtain ⟨σ, hP, hW⟩ := hI
    have e0 : vs 0 = .pointer (some ⟨b, 1, none⟩) := hP 0 (hD 0 (by decide))
    have e1 : vs 1 = .string c.name := hP 1 (hD 1 (by decide))
    have e2 : vs 2 = .pointer (some ⟨b, 36, none⟩) := hP 2 (hD 2 (by decide))
    have e3 : vs 3 = .int .i64 c.count := hP 3 (hD 3 (by decide))
    have e4 : vs 4 = .pointer (some ⟨g, 1, none⟩) := hP 4 (hD 4 (by decide))
    have e6 : vs 6 = .pointer (some ⟨g, 36, none⟩) := hP 6 (hD 6 (by decide))
    rw [hD 5 (by decide), hD 7 (by decide), HFO.out.2] at hW
    have HW := Lib.hid hW
    clear hW hP hD
    rw [puts_range [some 10, some 11, some 12, some 13, some 14, none, some 15, none] (by kernel_rfl)]
    simp only [putL, Nat.reduceAdd, e0, e1, e2, e3, e4, e6]
    clear e0 e1 e2 e3 e4 e6
    obtain ⟨ok, rd, rk, hrr, hbl⟩ := HW.out.ok
    have HF := Lib.hid (And.intro hrr hbl)
    have v9 : u.cell? ⟨b, 0, none⟩ = some (.int .i64 1) := by rw [← HV.out]; exact HW.out.box.cell 0
    clear hrr hbl
    go_simp
    go_wp2
    exact bodyPost_ret (v := vC ⟨1, c.name, zI, 0, 0, c.count, 0, ⟨#[]⟩⟩) (results_c1 (ad := ⟨r, 0, none⟩) rfl rfl (ld_row31 _ HF.out.1)) rfl ⟨by rw [HO.out], by rw [hb]; exact HF.out.2⟩
set_option maxRecDepth 100000 in
set_option maxHeartbeats 3200000 in
theorem only50_2 (c : Cm) (hv : c.verb = 2) (w : World) : Calls Tryz.prog 60 #[vC c] w (OnlyP c w) := by
  obtain ⟨b, hb⟩ : ∃ b, w.heap.size = b := ⟨_, rfl⟩
  have HO : Hid (onlyC c = ⟨2, ⟨#[]⟩, c.id, c.size, 0, 0, 0, ⟨#[]⟩⟩) := Lib.hid (by unfold onlyC; rw [hv]; rfl)
  have R1 : Row ((w.alloc (.cells (aC c) 49)).alloc (.cells (aC zC) 49)) b (cC c) 49 := by
    rw [← hb]
    exact (Row.new w (cC c) 49).keep (below_alloc _ _)
  have R2 : Row ((w.alloc (.cells (aC c) 49)).alloc (.cells (aC zC) 49)) (b + 1) (cC zC) 49 := by
    have h := Row.new (w.alloc (.cells (aC c) 49)) (cC zC) 49
    rwa [show (w.alloc (.cells (aC c) 49)).heap.size = b + 1 by rw [← hb]; simp] at h
  have R3 : Row (((w.alloc (.cells (aC c) 49)).alloc (.cells (aC zC) 49)).alloc (.cells (aC ⟨2, ⟨#[]⟩, zI, 0, 0, 0, 0, ⟨#[]⟩⟩) 49)) (b + 1 + 1) (cC ⟨2, ⟨#[]⟩, zI, 0, 0, 0, 0, ⟨#[]⟩⟩) 49 := by
    have h := Row.new ((w.alloc (.cells (aC c) 49)).alloc (.cells (aC zC) 49)) (cC ⟨2, ⟨#[]⟩, zI, 0, 0, 0, 0, ⟨#[]⟩⟩) 49
    rwa [show ((w.alloc (.cells (aC c) 49)).alloc (.cells (aC zC) 49)).heap.size = b + 1 + 1 by rw [← hb]; simp] at h
  have k0 : ((w.alloc (.cells (aC c) 49)).alloc (.cells (aC zC) 49)).cell? ⟨b, 0, none⟩ = some (.int .i64 2) := by rw [← hv]; exact R1.cell 0
  have O3 : OI b (b + 1) (b + 1 + 1) c ⟨2, ⟨#[]⟩, zI, 0, 0, 0, 0, ⟨#[]⟩⟩ w (((w.alloc (.cells (aC c) 49)).alloc (.cells (aC zC) 49)).alloc (.cells (aC ⟨2, ⟨#[]⟩, zI, 0, 0, 0, 0, ⟨#[]⟩⟩) 49)) :=
    ⟨R1.keep (below_alloc _ _), R2.keep (below_alloc _ _), R3, by rw [← hb]; exact Below.step (Below.step (below_alloc w _) (below_alloc _ _)) (below_alloc _ _), by omega, by omega⟩
  obtain ⟨W3, hW3⟩ : ∃ W3, (((w.alloc (.cells (aC c) 49)).alloc (.cells (aC zC) 49)).alloc (.cells (aC ⟨2, ⟨#[]⟩, zI, 0, 0, 0, 0, ⟨#[]⟩⟩) 49)) = W3 := ⟨_, rfl⟩
  rw [hW3] at O3
  have HV := Lib.hid hv
  clear R1 R2 R3 hv
  have v3 : W3.cell? ⟨b, 0, none⟩ = some (.int .i64 2) := by rw [← HV.out]; exact O3.box.cell 0
  obtain ⟨x3, y3⟩ := O3.box.idC
  have st3 : stOk W3 (b + 1 + 1) 2 32 = true := O3.out.ok _ 2 32 (by rw [cC_length]; omega)
  have O4 : OI b (b + 1) (b + 1 + 1) c ⟨2, ⟨#[]⟩, c.id, 0, 0, 0, 0, ⟨#[]⟩⟩ w (stD W3 (b + 1 + 1) 2 (cI c.id)) := O3.stI c.id
  obtain ⟨W4, hW4⟩ : ∃ W4, stD W3 (b + 1 + 1) 2 (cI c.id) = W4 := ⟨_, rfl⟩
  rw [hW4] at O4
  have v4 : W4.cell? ⟨b, 0, none⟩ = some (.int .i64 2) := by rw [← HV.out]; exact O4.box.cell 0
  have l4 : W4.cell? ⟨b, 34, none⟩ = some (.int .i64 c.size) := (O4.box.cell 34).trans (cC_at (aC_34 c))
  have g4 : W4.cell? ⟨b + 1 + 1, 34, none⟩ = some (.int .i64 0) := (O4.out.cell 34).trans (cC_at (aC_34 _))
  have f4 := O4.out.fz 34
  have O5 : OI b (b + 1) (b + 1 + 1) c ⟨2, ⟨#[]⟩, c.id, c.size, 0, 0, 0, ⟨#[]⟩⟩ w (W4.setCell ⟨b + 1 + 1, 34, none⟩ (.int .i64 c.size)) := O4.set 34 _ (cC_set34 _ _)
  obtain ⟨W5, hW5⟩ : ∃ W5, W4.setCell ⟨b + 1 + 1, 34, none⟩ (.int .i64 c.size) = W5 := ⟨_, rfl⟩
  rw [hW5] at O5
  have v5 : W5.cell? ⟨b, 0, none⟩ = some (.int .i64 2) := by rw [← HV.out]; exact O5.box.cell 0
  obtain ⟨ok, rd, rk, hr, hbl⟩ := O5.ok
  have HF := Lib.hid (And.intro hr hbl)
  clear hr hbl O3 O4 O5
  go_enter Tryz.func60, Tryz.ntmps60
  go_wp2
  exact bodyPost_ret (v := vC ⟨2, ⟨#[]⟩, c.id, c.size, 0, 0, 0, ⟨#[]⟩⟩) (results_c1 (ad := ⟨b + 1, 0, none⟩) rfl rfl (ld_row31 _ HF.out.1)) rfl ⟨by rw [HO.out], by rw [hb]; exact HF.out.2⟩
set_option maxRecDepth 100000 in
set_option maxHeartbeats 3200000 in
theorem only50_3 (c : Cm) (hv : c.verb = 3) (w : World) : Calls Tryz.prog 60 #[vC c] w (OnlyP c w) := by
  obtain ⟨b, hb⟩ : ∃ b, w.heap.size = b := ⟨_, rfl⟩
  have HO : Hid (onlyC c = ⟨3, ⟨#[]⟩, c.id, 0, c.from_, 0, 0, ⟨#[]⟩⟩) := Lib.hid (by unfold onlyC; rw [hv]; rfl)
  have R1 : Row ((w.alloc (.cells (aC c) 49)).alloc (.cells (aC zC) 49)) b (cC c) 49 := by
    rw [← hb]
    exact (Row.new w (cC c) 49).keep (below_alloc _ _)
  have R2 : Row ((w.alloc (.cells (aC c) 49)).alloc (.cells (aC zC) 49)) (b + 1) (cC zC) 49 := by
    have h := Row.new (w.alloc (.cells (aC c) 49)) (cC zC) 49
    rwa [show (w.alloc (.cells (aC c) 49)).heap.size = b + 1 by rw [← hb]; simp] at h
  have R3 : Row (((w.alloc (.cells (aC c) 49)).alloc (.cells (aC zC) 49)).alloc (.cells (aC ⟨3, ⟨#[]⟩, zI, 0, 0, 0, 0, ⟨#[]⟩⟩) 49)) (b + 1 + 1) (cC ⟨3, ⟨#[]⟩, zI, 0, 0, 0, 0, ⟨#[]⟩⟩) 49 := by
    have h := Row.new ((w.alloc (.cells (aC c) 49)).alloc (.cells (aC zC) 49)) (cC ⟨3, ⟨#[]⟩, zI, 0, 0, 0, 0, ⟨#[]⟩⟩) 49
    rwa [show ((w.alloc (.cells (aC c) 49)).alloc (.cells (aC zC) 49)).heap.size = b + 1 + 1 by rw [← hb]; simp] at h
  have k0 : ((w.alloc (.cells (aC c) 49)).alloc (.cells (aC zC) 49)).cell? ⟨b, 0, none⟩ = some (.int .i64 3) := by rw [← hv]; exact R1.cell 0
  have O3 : OI b (b + 1) (b + 1 + 1) c ⟨3, ⟨#[]⟩, zI, 0, 0, 0, 0, ⟨#[]⟩⟩ w (((w.alloc (.cells (aC c) 49)).alloc (.cells (aC zC) 49)).alloc (.cells (aC ⟨3, ⟨#[]⟩, zI, 0, 0, 0, 0, ⟨#[]⟩⟩) 49)) :=
    ⟨R1.keep (below_alloc _ _), R2.keep (below_alloc _ _), R3, by rw [← hb]; exact Below.step (Below.step (below_alloc w _) (below_alloc _ _)) (below_alloc _ _), by omega, by omega⟩
  obtain ⟨W3, hW3⟩ : ∃ W3, (((w.alloc (.cells (aC c) 49)).alloc (.cells (aC zC) 49)).alloc (.cells (aC ⟨3, ⟨#[]⟩, zI, 0, 0, 0, 0, ⟨#[]⟩⟩) 49)) = W3 := ⟨_, rfl⟩
  rw [hW3] at O3
  have HV := Lib.hid hv
  clear R1 R2 R3 hv
  have v3 : W3.cell? ⟨b, 0, none⟩ = some (.int .i64 3) := by rw [← HV.out]; exact O3.box.cell 0
  obtain ⟨x3, y3⟩ := O3.box.idC
  have st3 : stOk W3 (b + 1 + 1) 2 32 = true := O3.out.ok _ 2 32 (by rw [cC_length]; omega)
  have O4 : OI b (b + 1) (b + 1 + 1) c ⟨3, ⟨#[]⟩, c.id, 0, 0, 0, 0, ⟨#[]⟩⟩ w (stD W3 (b + 1 + 1) 2 (cI c.id)) := O3.stI c.id
  obtain ⟨W4, hW4⟩ : ∃ W4, stD W3 (b + 1 + 1) 2 (cI c.id) = W4 := ⟨_, rfl⟩
  rw [hW4] at O4
  have v4 : W4.cell? ⟨b, 0, none⟩ = some (.int .i64 3) := by rw [← HV.out]; exact O4.box.cell 0
  have l4 : W4.cell? ⟨b, 35, none⟩ = some (.int .i64 c.from_) := (O4.box.cell 35).trans (cC_at (aC_35 c))
  have g4 : W4.cell? ⟨b + 1 + 1, 35, none⟩ = some (.int .i64 0) := (O4.out.cell 35).trans (cC_at (aC_35 _))
  have f4 := O4.out.fz 35
  have O5 : OI b (b + 1) (b + 1 + 1) c ⟨3, ⟨#[]⟩, c.id, 0, c.from_, 0, 0, ⟨#[]⟩⟩ w (W4.setCell ⟨b + 1 + 1, 35, none⟩ (.int .i64 c.from_)) := O4.set 35 _ (cC_set35 _ _)
  obtain ⟨W5, hW5⟩ : ∃ W5, W4.setCell ⟨b + 1 + 1, 35, none⟩ (.int .i64 c.from_) = W5 := ⟨_, rfl⟩
  rw [hW5] at O5
  have v5 : W5.cell? ⟨b, 0, none⟩ = some (.int .i64 3) := by rw [← HV.out]; exact O5.box.cell 0
  obtain ⟨ok, rd, rk, hr, hbl⟩ := O5.ok
  have HF := Lib.hid (And.intro hr hbl)
  clear hr hbl O3 O4 O5
  go_enter Tryz.func60, Tryz.ntmps60
  go_wp2
  exact bodyPost_ret (v := vC ⟨3, ⟨#[]⟩, c.id, 0, c.from_, 0, 0, ⟨#[]⟩⟩) (results_c1 (ad := ⟨b + 1, 0, none⟩) rfl rfl (ld_row31 _ HF.out.1)) rfl ⟨by rw [HO.out], by rw [hb]; exact HF.out.2⟩
set_option maxRecDepth 100000 in
set_option maxHeartbeats 3200000 in
theorem only50_4 (c : Cm) (hv : c.verb = 4) (w : World) : Calls Tryz.prog 60 #[vC c] w (OnlyP c w) := by
  obtain ⟨b, hb⟩ : ∃ b, w.heap.size = b := ⟨_, rfl⟩
  have HO : Hid (onlyC c = ⟨4, ⟨#[]⟩, c.id, 0, 0, 0, 0, ⟨#[]⟩⟩) := Lib.hid (by unfold onlyC; rw [hv]; rfl)
  have R1 : Row ((w.alloc (.cells (aC c) 49)).alloc (.cells (aC zC) 49)) b (cC c) 49 := by
    rw [← hb]
    exact (Row.new w (cC c) 49).keep (below_alloc _ _)
  have R2 : Row ((w.alloc (.cells (aC c) 49)).alloc (.cells (aC zC) 49)) (b + 1) (cC zC) 49 := by
    have h := Row.new (w.alloc (.cells (aC c) 49)) (cC zC) 49
    rwa [show (w.alloc (.cells (aC c) 49)).heap.size = b + 1 by rw [← hb]; simp] at h
  have R3 : Row (((w.alloc (.cells (aC c) 49)).alloc (.cells (aC zC) 49)).alloc (.cells (aC ⟨4, ⟨#[]⟩, zI, 0, 0, 0, 0, ⟨#[]⟩⟩) 49)) (b + 1 + 1) (cC ⟨4, ⟨#[]⟩, zI, 0, 0, 0, 0, ⟨#[]⟩⟩) 49 := by
    have h := Row.new ((w.alloc (.cells (aC c) 49)).alloc (.cells (aC zC) 49)) (cC ⟨4, ⟨#[]⟩, zI, 0, 0, 0, 0, ⟨#[]⟩⟩) 49
    rwa [show ((w.alloc (.cells (aC c) 49)).alloc (.cells (aC zC) 49)).heap.size = b + 1 + 1 by rw [← hb]; simp] at h
  have k0 : ((w.alloc (.cells (aC c) 49)).alloc (.cells (aC zC) 49)).cell? ⟨b, 0, none⟩ = some (.int .i64 4) := by rw [← hv]; exact R1.cell 0
  have O3 : OI b (b + 1) (b + 1 + 1) c ⟨4, ⟨#[]⟩, zI, 0, 0, 0, 0, ⟨#[]⟩⟩ w (((w.alloc (.cells (aC c) 49)).alloc (.cells (aC zC) 49)).alloc (.cells (aC ⟨4, ⟨#[]⟩, zI, 0, 0, 0, 0, ⟨#[]⟩⟩) 49)) :=
    ⟨R1.keep (below_alloc _ _), R2.keep (below_alloc _ _), R3, by rw [← hb]; exact Below.step (Below.step (below_alloc w _) (below_alloc _ _)) (below_alloc _ _), by omega, by omega⟩
  obtain ⟨W3, hW3⟩ : ∃ W3, (((w.alloc (.cells (aC c) 49)).alloc (.cells (aC zC) 49)).alloc (.cells (aC ⟨4, ⟨#[]⟩, zI, 0, 0, 0, 0, ⟨#[]⟩⟩) 49)) = W3 := ⟨_, rfl⟩
  rw [hW3] at O3
  have HV := Lib.hid hv
  clear R1 R2 R3 hv
  have v3 : W3.cell? ⟨b, 0, none⟩ = some (.int .i64 4) := by rw [← HV.out]; exact O3.box.cell 0
  obtain ⟨x3, y3⟩ := O3.box.idC
  have st3 : stOk W3 (b + 1 + 1) 2 32 = true := O3.out.ok _ 2 32 (by rw [cC_length]; omega)
  have O4 : OI b (b + 1) (b + 1 + 1) c ⟨4, ⟨#[]⟩, c.id, 0, 0, 0, 0, ⟨#[]⟩⟩ w (stD W3 (b + 1 + 1) 2 (cI c.id)) := O3.stI c.id
  obtain ⟨W4, hW4⟩ : ∃ W4, stD W3 (b + 1 + 1) 2 (cI c.id) = W4 := ⟨_, rfl⟩
  rw [hW4] at O4
  have v4 : W4.cell? ⟨b, 0, none⟩ = some (.int .i64 4) := by rw [← HV.out]; exact O4.box.cell 0
  obtain ⟨ok, rd, rk, hr, hbl⟩ := O4.ok
  have HF := Lib.hid (And.intro hr hbl)
  clear hr hbl O3 O4
  go_enter Tryz.func60, Tryz.ntmps60
  go_wp2
  exact bodyPost_ret (v := vC ⟨4, ⟨#[]⟩, c.id, 0, 0, 0, 0, ⟨#[]⟩⟩) (results_c1 (ad := ⟨b + 1, 0, none⟩) rfl rfl (ld_row31 _ HF.out.1)) rfl ⟨by rw [HO.out], by rw [hb]; exact HF.out.2⟩
set_option maxRecDepth 100000 in
set_option maxHeartbeats 3200000 in
theorem only50_5 (c : Cm) (hv : c.verb = 5) (w : World) : Calls Tryz.prog 60 #[vC c] w (OnlyP c w) := by
  obtain ⟨b, hb⟩ : ∃ b, w.heap.size = b := ⟨_, rfl⟩
  have HO : Hid (onlyC c = ⟨5, ⟨#[]⟩, c.id, 0, 0, 0, 0, ⟨#[]⟩⟩) := Lib.hid (by unfold onlyC; rw [hv]; rfl)
  have R1 : Row ((w.alloc (.cells (aC c) 49)).alloc (.cells (aC zC) 49)) b (cC c) 49 := by
    rw [← hb]
    exact (Row.new w (cC c) 49).keep (below_alloc _ _)
  have R2 : Row ((w.alloc (.cells (aC c) 49)).alloc (.cells (aC zC) 49)) (b + 1) (cC zC) 49 := by
    have h := Row.new (w.alloc (.cells (aC c) 49)) (cC zC) 49
    rwa [show (w.alloc (.cells (aC c) 49)).heap.size = b + 1 by rw [← hb]; simp] at h
  have R3 : Row (((w.alloc (.cells (aC c) 49)).alloc (.cells (aC zC) 49)).alloc (.cells (aC ⟨5, ⟨#[]⟩, zI, 0, 0, 0, 0, ⟨#[]⟩⟩) 49)) (b + 1 + 1) (cC ⟨5, ⟨#[]⟩, zI, 0, 0, 0, 0, ⟨#[]⟩⟩) 49 := by
    have h := Row.new ((w.alloc (.cells (aC c) 49)).alloc (.cells (aC zC) 49)) (cC ⟨5, ⟨#[]⟩, zI, 0, 0, 0, 0, ⟨#[]⟩⟩) 49
    rwa [show ((w.alloc (.cells (aC c) 49)).alloc (.cells (aC zC) 49)).heap.size = b + 1 + 1 by rw [← hb]; simp] at h
  have k0 : ((w.alloc (.cells (aC c) 49)).alloc (.cells (aC zC) 49)).cell? ⟨b, 0, none⟩ = some (.int .i64 5) := by rw [← hv]; exact R1.cell 0
  have O3 : OI b (b + 1) (b + 1 + 1) c ⟨5, ⟨#[]⟩, zI, 0, 0, 0, 0, ⟨#[]⟩⟩ w (((w.alloc (.cells (aC c) 49)).alloc (.cells (aC zC) 49)).alloc (.cells (aC ⟨5, ⟨#[]⟩, zI, 0, 0, 0, 0, ⟨#[]⟩⟩) 49)) :=
    ⟨R1.keep (below_alloc _ _), R2.keep (below_alloc _ _), R3, by rw [← hb]; exact Below.step (Below.step (below_alloc w _) (below_alloc _ _)) (below_alloc _ _), by omega, by omega⟩
  obtain ⟨W3, hW3⟩ : ∃ W3, (((w.alloc (.cells (aC c) 49)).alloc (.cells (aC zC) 49)).alloc (.cells (aC ⟨5, ⟨#[]⟩, zI, 0, 0, 0, 0, ⟨#[]⟩⟩) 49)) = W3 := ⟨_, rfl⟩
  rw [hW3] at O3
  have HV := Lib.hid hv
  clear R1 R2 R3 hv
  have v3 : W3.cell? ⟨b, 0, none⟩ = some (.int .i64 5) := by rw [← HV.out]; exact O3.box.cell 0
  obtain ⟨x3, y3⟩ := O3.box.idC
  have st3 : stOk W3 (b + 1 + 1) 2 32 = true := O3.out.ok _ 2 32 (by rw [cC_length]; omega)
  have O4 : OI b (b + 1) (b + 1 + 1) c ⟨5, ⟨#[]⟩, c.id, 0, 0, 0, 0, ⟨#[]⟩⟩ w (stD W3 (b + 1 + 1) 2 (cI c.id)) := O3.stI c.id
  obtain ⟨W4, hW4⟩ : ∃ W4, stD W3 (b + 1 + 1) 2 (cI c.id) = W4 := ⟨_, rfl⟩
  rw [hW4] at O4
  have v4 : W4.cell? ⟨b, 0, none⟩ = some (.int .i64 5) := by rw [← HV.out]; exact O4.box.cell 0
  obtain ⟨ok, rd, rk, hr, hbl⟩ := O4.ok
  have HF := Lib.hid (And.intro hr hbl)
  clear hr hbl O3 O4
  go_enter Tryz.func60, Tryz.ntmps60
  go_wp2
  exact bodyPost_ret (v := vC ⟨5, ⟨#[]⟩, c.id, 0, 0, 0, 0, ⟨#[]⟩⟩) (results_c1 (ad := ⟨b + 1, 0, none⟩) rfl rfl (ld_row31 _ HF.out.1)) rfl ⟨by rw [HO.out], by rw [hb]; exact HF.out.2⟩
set_option maxRecDepth 100000 in
set_option maxHeartbeats 3200000 in
theorem only50_6 (c : Cm) (hv : c.verb = 6) (w : World) : Calls Tryz.prog 60 #[vC c] w (OnlyP c w) := by
  obtain ⟨b, hb⟩ : ∃ b, w.heap.size = b := ⟨_, rfl⟩
  have HO : Hid (onlyC c = ⟨6, ⟨#[]⟩, c.id, 0, 0, 0, c.code, ⟨#[]⟩⟩) := Lib.hid (by unfold onlyC; rw [hv]; rfl)
  have R1 : Row ((w.alloc (.cells (aC c) 49)).alloc (.cells (aC zC) 49)) b (cC c) 49 := by
    rw [← hb]
    exact (Row.new w (cC c) 49).keep (below_alloc _ _)
  have R2 : Row ((w.alloc (.cells (aC c) 49)).alloc (.cells (aC zC) 49)) (b + 1) (cC zC) 49 := by
    have h := Row.new (w.alloc (.cells (aC c) 49)) (cC zC) 49
    rwa [show (w.alloc (.cells (aC c) 49)).heap.size = b + 1 by rw [← hb]; simp] at h
  have R3 : Row (((w.alloc (.cells (aC c) 49)).alloc (.cells (aC zC) 49)).alloc (.cells (aC ⟨6, ⟨#[]⟩, zI, 0, 0, 0, 0, ⟨#[]⟩⟩) 49)) (b + 1 + 1) (cC ⟨6, ⟨#[]⟩, zI, 0, 0, 0, 0, ⟨#[]⟩⟩) 49 := by
    have h := Row.new ((w.alloc (.cells (aC c) 49)).alloc (.cells (aC zC) 49)) (cC ⟨6, ⟨#[]⟩, zI, 0, 0, 0, 0, ⟨#[]⟩⟩) 49
    rwa [show ((w.alloc (.cells (aC c) 49)).alloc (.cells (aC zC) 49)).heap.size = b + 1 + 1 by rw [← hb]; simp] at h
  have k0 : ((w.alloc (.cells (aC c) 49)).alloc (.cells (aC zC) 49)).cell? ⟨b, 0, none⟩ = some (.int .i64 6) := by rw [← hv]; exact R1.cell 0
  have O3 : OI b (b + 1) (b + 1 + 1) c ⟨6, ⟨#[]⟩, zI, 0, 0, 0, 0, ⟨#[]⟩⟩ w (((w.alloc (.cells (aC c) 49)).alloc (.cells (aC zC) 49)).alloc (.cells (aC ⟨6, ⟨#[]⟩, zI, 0, 0, 0, 0, ⟨#[]⟩⟩) 49)) :=
    ⟨R1.keep (below_alloc _ _), R2.keep (below_alloc _ _), R3, by rw [← hb]; exact Below.step (Below.step (below_alloc w _) (below_alloc _ _)) (below_alloc _ _), by omega, by omega⟩
  obtain ⟨W3, hW3⟩ : ∃ W3, (((w.alloc (.cells (aC c) 49)).alloc (.cells (aC zC) 49)).alloc (.cells (aC ⟨6, ⟨#[]⟩, zI, 0, 0, 0, 0, ⟨#[]⟩⟩) 49)) = W3 := ⟨_, rfl⟩
  rw [hW3] at O3
  have HV := Lib.hid hv
  clear R1 R2 R3 hv
  have v3 : W3.cell? ⟨b, 0, none⟩ = some (.int .i64 6) := by rw [← HV.out]; exact O3.box.cell 0
  obtain ⟨x3, y3⟩ := O3.box.idC
  have st3 : stOk W3 (b + 1 + 1) 2 32 = true := O3.out.ok _ 2 32 (by rw [cC_length]; omega)
  have O4 : OI b (b + 1) (b + 1 + 1) c ⟨6, ⟨#[]⟩, c.id, 0, 0, 0, 0, ⟨#[]⟩⟩ w (stD W3 (b + 1 + 1) 2 (cI c.id)) := O3.stI c.id
  obtain ⟨W4, hW4⟩ : ∃ W4, stD W3 (b + 1 + 1) 2 (cI c.id) = W4 := ⟨_, rfl⟩
  rw [hW4] at O4
  have v4 : W4.cell? ⟨b, 0, none⟩ = some (.int .i64 6) := by rw [← HV.out]; exact O4.box.cell 0
  have l4 : W4.cell? ⟨b, 37, none⟩ = some (.int .i64 c.code) := (O4.box.cell 37).trans (cC_at (aC_37 c))
  have g4 : W4.cell? ⟨b + 1 + 1, 37, none⟩ = some (.int .i64 0) := (O4.out.cell 37).trans (cC_at (aC_37 _))
  have f4 := O4.out.fz 37
  have O5 : OI b (b + 1) (b + 1 + 1) c ⟨6, ⟨#[]⟩, c.id, 0, 0, 0, c.code, ⟨#[]⟩⟩ w (W4.setCell ⟨b + 1 + 1, 37, none⟩ (.int .i64 c.code)) := O4.set 37 _ (cC_set37 _ _)
  obtain ⟨W5, hW5⟩ : ∃ W5, W4.setCell ⟨b + 1 + 1, 37, none⟩ (.int .i64 c.code) = W5 := ⟨_, rfl⟩
  rw [hW5] at O5
  have v5 : W5.cell? ⟨b, 0, none⟩ = some (.int .i64 6) := by rw [← HV.out]; exact O5.box.cell 0
  obtain ⟨ok, rd, rk, hr, hbl⟩ := O5.ok
  have HF := Lib.hid (And.intro hr hbl)
  clear hr hbl O3 O4 O5
  go_enter Tryz.func60, Tryz.ntmps60
  go_wp2
  exact bodyPost_ret (v := vC ⟨6, ⟨#[]⟩, c.id, 0, 0, 0, c.code, ⟨#[]⟩⟩) (results_c1 (ad := ⟨b + 1, 0, none⟩) rfl rfl (ld_row31 _ HF.out.1)) rfl ⟨by rw [HO.out], by rw [hb]; exact HF.out.2⟩
set_option maxRecDepth 100000 in
set_option maxHeartbeats 3200000 in
theorem only50_7 (c : Cm) (hv : c.verb = 7) (w : World) : Calls Tryz.prog 60 #[vC c] w (OnlyP c w) := by
  obtain ⟨b, hb⟩ : ∃ b, w.heap.size = b := ⟨_, rfl⟩
  have HO : Hid (onlyC c = ⟨7, ⟨#[]⟩, c.id, 0, c.from_, 0, 0, c.text⟩) := Lib.hid (by unfold onlyC; rw [hv]; rfl)
  have R1 : Row ((w.alloc (.cells (aC c) 49)).alloc (.cells (aC zC) 49)) b (cC c) 49 := by
    rw [← hb]
    exact (Row.new w (cC c) 49).keep (below_alloc _ _)
  have R2 : Row ((w.alloc (.cells (aC c) 49)).alloc (.cells (aC zC) 49)) (b + 1) (cC zC) 49 := by
    have h := Row.new (w.alloc (.cells (aC c) 49)) (cC zC) 49
    rwa [show (w.alloc (.cells (aC c) 49)).heap.size = b + 1 by rw [← hb]; simp] at h
  have R3 : Row (((w.alloc (.cells (aC c) 49)).alloc (.cells (aC zC) 49)).alloc (.cells (aC ⟨7, ⟨#[]⟩, zI, 0, 0, 0, 0, ⟨#[]⟩⟩) 49)) (b + 1 + 1) (cC ⟨7, ⟨#[]⟩, zI, 0, 0, 0, 0, ⟨#[]⟩⟩) 49 := by
    have h := Row.new ((w.alloc (.cells (aC c) 49)).alloc (.cells (aC zC) 49)) (cC ⟨7, ⟨#[]⟩, zI, 0, 0, 0, 0, ⟨#[]⟩⟩) 49
    rwa [show ((w.alloc (.cells (aC c) 49)).alloc (.cells (aC zC) 49)).heap.size = b + 1 + 1 by rw [← hb]; simp] at h
  have k0 : ((w.alloc (.cells (aC c) 49)).alloc (.cells (aC zC) 49)).cell? ⟨b, 0, none⟩ = some (.int .i64 7) := by rw [← hv]; exact R1.cell 0
  have O3 : OI b (b + 1) (b + 1 + 1) c ⟨7, ⟨#[]⟩, zI, 0, 0, 0, 0, ⟨#[]⟩⟩ w (((w.alloc (.cells (aC c) 49)).alloc (.cells (aC zC) 49)).alloc (.cells (aC ⟨7, ⟨#[]⟩, zI, 0, 0, 0, 0, ⟨#[]⟩⟩) 49)) :=
    ⟨R1.keep (below_alloc _ _), R2.keep (below_alloc _ _), R3, by rw [← hb]; exact Below.step (Below.step (below_alloc w _) (below_alloc _ _)) (below_alloc _ _), by omega, by omega⟩
  obtain ⟨W3, hW3⟩ : ∃ W3, (((w.alloc (.cells (aC c) 49)).alloc (.cells (aC zC) 49)).alloc (.cells (aC ⟨7, ⟨#[]⟩, zI, 0, 0, 0, 0, ⟨#[]⟩⟩) 49)) = W3 := ⟨_, rfl⟩
  rw [hW3] at O3
  have HV := Lib.hid hv
  clear R1 R2 R3 hv
  have v3 : W3.cell? ⟨b, 0, none⟩ = some (.int .i64 7) := by rw [← HV.out]; exact O3.box.cell 0
  obtain ⟨x3, y3⟩ := O3.box.idC
  have st3 : stOk W3 (b + 1 + 1) 2 32 = true := O3.out.ok _ 2 32 (by rw [cC_length]; omega)
  have O4 : OI b (b + 1) (b + 1 + 1) c ⟨7, ⟨#[]⟩, c.id, 0, 0, 0, 0, ⟨#[]⟩⟩ w (stD W3 (b + 1 + 1) 2 (cI c.id)) := O3.stI c.id
  obtain ⟨W4, hW4⟩ : ∃ W4, stD W3 (b + 1 + 1) 2 (cI c.id) = W4 := ⟨_, rfl⟩
  rw [hW4] at O4
  have v4 : W4.cell? ⟨b, 0, none⟩ = some (.int .i64 7) := by rw [← HV.out]; exact O4.box.cell 0
  have HI := Lib.hid O4
  clear O3 O4
  go_enter Tryz.func60, Tryz.ntmps60
  go_wp2
  obtain ⟨r, hr⟩ : ∃ r, r = b + 1 := ⟨_, rfl⟩
  rw [← hr] at HI ⊢
  obtain ⟨g, hg⟩ : ∃ g, g = r + 1 := ⟨_, rfl⟩
  rw [← hg] at HI ⊢
  clear hr hg v3 v4
  obtain ⟨fo, hfo⟩ : ∃ fo : Bool → Bool → Cm, fo = fun d1 d2 => ⟨7, ⟨#[]⟩, c.id, 0, (bif d1 then c.from_ else 0), 0, 0, (bif d2 then c.text else ⟨#[]⟩)⟩ := ⟨_, rfl⟩
  have HFO := Lib.hid (And.intro (show fo false false = ⟨7, ⟨#[]⟩, c.id, 0, 0, 0, 0, (⟨#[]⟩)⟩ by rw [hfo]; rfl) (show fo true true = ⟨7, ⟨#[]⟩, c.id, 0, c.from_, 0, 0, c.text⟩ by rw [hfo]; rfl))
  refine AnyO.wp_anyI (by kernel_rfl) (by kernel_rfl) (AnyO.InvG (σ := Unit) (fun σ => AnyO.pvL [some (.pointer (some ⟨b, 35, none⟩)), some (.int .i64 c.from_), some (.pointer (some ⟨b, 38, none⟩)), some (.string c.text), some (.pointer (some ⟨g, 35, none⟩)), none, some (.pointer (some ⟨g, 38, none⟩)), none]) (fun _ D u => OI b r g c (fo (D 5) (D 7)) w u)) (AnyO.InvG.start (g := ()) (by show OI b r g c (fo false false) w _; rw [HFO.out.1]; exact HI.out.keep (below_drew _))) ?_ ?_
  · intro i hi
    have hi2 : i = 0 ∨ i = 1 ∨ i = 2 ∨ i = 3 ∨ i = 4 ∨ i = 5 ∨ i = 6 ∨ i = 7 := by simp only [List.size_toArray, List.length_cons, List.length_nil] at hi; omega
    clear hi
    rcases hi2 with rfl | rfl | rfl | rfl | rfl | rfl | rfl | rfl
    · -- 0: Op.fieldAddr 31 (Operand.tmp 1) 4
      refine AnyO.StepI.mk rfl [] (by kernel_rfl) ?_
      intro D vs u hI h0 hC hp ac hb K hK
      obtain ⟨σ, hP, hW⟩ := hI
      have s1 : ac.tmps[1]?.getD undef = .pointer (some ⟨b, 0, none⟩) := by rw [hb]; kernel_rfl
      rw [if_pos (AnyO.wanted_none rfl)]
      clear hb hp
      clear hC
      clear h0
      have HP := Lib.hid hP
      have HWq := Lib.hid hW
      clear hP hW
      go_simp
      have hP := HP.out
      have hW := HWq.out
      clear HP HWq
      exact hK _ _ (AnyO.InvG.step (g := σ) hP rfl hW)
    · -- 1: Op.load 3 (Operand.tmp 41)
      refine AnyO.StepI.mk rfl [0] (by kernel_rfl) ?_
      intro D vs u hI h0 hC hp ac hb K hK
      obtain ⟨σ, hP, hW⟩ := hI
      have s41 : ac.tmps[41]?.getD undef = .pointer (some ⟨b, 35, none⟩) := by rw [hb]; exact (show _ = vs 0 by kernel_rfl).trans (show vs 0 = .pointer (some ⟨b, 35, none⟩) from hP 0 (hp 0 (by decide)))
      rw [if_pos (AnyO.wanted_none rfl)]
      clear hb hp
      have rr : u.cell? ⟨b, 35, none⟩ = some (.int .i64 c.from_) := (hW.box.cell 35).trans (cC_at (aC_35 c))
      clear hC
      clear h0
      have HP := Lib.hid hP
      have HWq := Lib.hid hW
      clear hP hW
      go_simp
      have hP := HP.out
      have hW := HWq.out
      clear HP HWq
      exact hK _ _ (AnyO.InvG.step (g := σ) hP rfl hW)
    · -- 2: Op.fieldAddr 31 (Operand.tmp 1) 7
      refine AnyO.StepI.mk rfl [] (by kernel_rfl) ?_
      intro D vs u hI h0 hC hp ac hb K hK
      obtain ⟨σ, hP, hW⟩ := hI
      have s1 : ac.tmps[1]?.getD undef = .pointer (some ⟨b, 0, none⟩) := by rw [hb]; kernel_rfl
      rw [if_pos (AnyO.wanted_none rfl)]
      clear hb hp
      clear hC
      clear h0
      have HP := Lib.hid hP
      have HWq := Lib.hid hW
      clear hP hW
      go_simp
      have hP := HP.out
      have hW := HWq.out
      clear HP HWq
      exact hK _ _ (AnyO.InvG.step (g := σ) hP rfl hW)
    · -- 3: Op.load 9 (Operand.tmp 43)
      refine AnyO.StepI.mk rfl [2] (by kernel_rfl) ?_
      intro D vs u hI h0 hC hp ac hb K hK
      obtain ⟨σ, hP, hW⟩ := hI
      have s43 : ac.tmps[43]?.getD undef = .pointer (some ⟨b, 38, none⟩) := by rw [hb]; exact (show _ = vs 2 by kernel_rfl).trans (show vs 2 = .pointer (some ⟨b, 38, none⟩) from hP 2 (hp 2 (by decide)))
      rw [if_pos (AnyO.wanted_none rfl)]
      clear hb hp
      have rr : u.cell? ⟨b, 38, none⟩ = some (.string c.text) := (hW.box.cell 38).trans (cC_at (aC_38 c))
      clear hC
      clear h0
      have HP := Lib.hid hP
      have HWq := Lib.hid hW
      clear hP hW
      go_simp
      have hP := HP.out
      have hW := HWq.out
      clear HP HWq
      exact hK _ _ (AnyO.InvG.step (g := σ) hP rfl hW)
    · -- 4: Op.fieldAddr 31 (Operand.tmp 3) 4
      refine AnyO.StepI.mk rfl [0, 1] (by kernel_rfl) ?_
      intro D vs u hI h0 hC hp ac hb K hK
      obtain ⟨σ, hP, hW⟩ := hI
      have s3 : ac.tmps[3]?.getD undef = .pointer (some ⟨g, 0, none⟩) := by rw [hb]; kernel_rfl
      rw [if_pos (AnyO.wanted_none rfl)]
      clear hb hp
      clear hC
      clear h0
      have HP := Lib.hid hP
      have HWq := Lib.hid hW
      clear hP hW
      go_simp
      have hP := HP.out
      have hW := HWq.out
      clear HP HWq
      exact hK _ _ (AnyO.InvG.step (g := σ) hP rfl hW)
    · -- 5: Op.store 3 (Operand.tmp 45) (Operand.tmp 42)
      refine AnyO.StepI.mk rfl [4, 1, 0, 1] (by kernel_rfl) ?_
      intro D vs u hI h0 hC hp ac hb K hK
      obtain ⟨σ, hP, hW⟩ := hI
      have s45 : ac.tmps[45]?.getD undef = .pointer (some ⟨g, 35, none⟩) := by rw [hb]; exact (show _ = vs 4 by kernel_rfl).trans (show vs 4 = .pointer (some ⟨g, 35, none⟩) from hP 4 (hp 4 (by decide)))
      have s42 : ac.tmps[42]?.getD undef = .int .i64 c.from_ := by rw [hb]; exact (show _ = vs 1 by kernel_rfl).trans (show vs 1 = .int .i64 c.from_ from hP 1 (hp 1 (by decide)))
      rw [if_pos (AnyO.wanted_none rfl)]
      clear hb hp
      have r1 := (hW.out.cell 35).trans (cC_at (aC_35 _))
      have r2 := hW.out.fz 35
      clear hC
      have HP := Lib.hid hP
      have HWq := Lib.hid hW
      clear hP hW
      go_simp
      have hP := HP.out
      have hW := HWq.out
      clear HP HWq
      refine hK undef _ (AnyO.InvG.step (g := σ) hP trivial ?_)
      show OI b r g c (fo true (D 7)) w _
      rw [h0] at hW
      exact hW.set 35 _ (by rw [hfo]; exact cC_set35 _ _)
    · -- 6: Op.fieldAddr 31 (Operand.tmp 3) 7
      refine AnyO.StepI.mk rfl [0, 1, 2, 3, 4, 5] (by kernel_rfl) ?_
      intro D vs u hI h0 hC hp ac hb K hK
      obtain ⟨σ, hP, hW⟩ := hI
      have s3 : ac.tmps[3]?.getD undef = .pointer (some ⟨g, 0, none⟩) := by rw [hb]; kernel_rfl
      rw [if_pos (AnyO.wanted_none rfl)]
      clear hb hp
      clear hC
      clear h0
      have HP := Lib.hid hP
      have HWq := Lib.hid hW
      clear hP hW
      go_simp
      have hP := HP.out
      have hW := HWq.out
      clear HP HWq
      exact hK _ _ (AnyO.InvG.step (g := σ) hP rfl hW)
    · -- 7: Op.store 9 (Operand.tmp 46) (Operand.tmp 44)
      refine AnyO.StepI.mk rfl [6, 3, 5, 0, 1, 2, 3, 4, 5] (by kernel_rfl) ?_
      intro D vs u hI h0 hC hp ac hb K hK
      obtain ⟨σ, hP, hW⟩ := hI
      have s46 : ac.tmps[46]?.getD undef = .pointer (some ⟨g, 38, none⟩) := by rw [hb]; exact (show _ = vs 6 by kernel_rfl).trans (show vs 6 = .pointer (some ⟨g, 38, none⟩) from hP 6 (hp 6 (by decide)))
      have s44 : ac.tmps[44]?.getD undef = .string c.text := by rw [hb]; exact (show _ = vs 3 by kernel_rfl).trans (show vs 3 = .string c.text from hP 3 (hp 3 (by decide)))
      rw [if_pos (AnyO.wanted_none rfl)]
      clear hb hp
      have r1 := (hW.out.cell 38).trans (cC_at (aC_38 _))
      have r2 := hW.out.fz 38
      clear hC
      have HP := Lib.hid hP
      have HWq := Lib.hid hW
      clear hP hW
      go_simp
      have hP := HP.out
      have hW := HWq.out
      clear HP HWq
      refine hK undef _ (AnyO.InvG.step (g := σ) hP trivial ?_)
      show OI b r g c (fo (D 5) true) w _
      rw [h0] at hW
      exact hW.set 38 _ (by rw [hfo]; exact cC_set38 _ _)
  · intro D vs u hI hD
    obtain ⟨σ, hP, hW⟩ := hI
    have e0 : vs 0 = .pointer (some ⟨b, 35, none⟩) := hP 0 (hD 0 (by decide))
    have e1 : vs 1 = .int .i64 c.from_ := hP 1 (hD 1 (by decide))
    have e2 : vs 2 = .pointer (some ⟨b, 38, none⟩) := hP 2 (hD 2 (by decide))
    have e3 : vs 3 = .string c.text := hP 3 (hD 3 (by decide))
    have e4 : vs 4 = .pointer (some ⟨g, 35, none⟩) := hP 4 (hD 4 (by decide))
    have e6 : vs 6 = .pointer (some ⟨g, 38, none⟩) := hP 6 (hD 6 (by decide))
    rw [hD 5 (by decide), hD 7 (by decide), HFO.out.2] at hW
    have HW := Lib.hid hW
    clear hW hP hD
    rw [puts_range [some 41, some 42, some 43, some 44, some 45, none, some 46, none] (by kernel_rfl)]
    simp only [putL, Nat.reduceAdd, e0, e1, e2, e3, e4, e6]
    clear e0 e1 e2 e3 e4 e6
    obtain ⟨ok, rd, rk, hrr, hbl⟩ := HW.out.ok
    have HF := Lib.hid (And.intro hrr hbl)
    have v9 : u.cell? ⟨b, 0, none⟩ = some (.int .i64 7) := by rw [← HV.out]; exact HW.out.box.cell 0
    clear hrr hbl
    go_simp
    go_wp2
    exact bodyPost_ret (v := vC ⟨7, ⟨#[]⟩, c.id, 0, c.from_, 0, 0, c.text⟩) (results_c1 (ad := ⟨r, 0, none⟩) rfl rfl (ld_row31 _ HF.out.1)) rfl ⟨by rw [HO.out], by rw [hb]; exact HF.out.2⟩
set_option maxRecDepth 100000 in
set_option maxHeartbeats 3200000 in
theorem only50_8 (c : Cm) (hv : c.verb = 8) (w : World) : Calls Tryz.prog 60 #[vC c] w (OnlyP c w) := by
  obtain ⟨b, hb⟩ : ∃ b, w.heap.size = b := ⟨_, rfl⟩
  have HO : Hid (onlyC c = ⟨8, ⟨#[]⟩, c.id, 0, 0, 0, 0, ⟨#[]⟩⟩) := Lib.hid (by unfold onlyC; rw [hv]; rfl)
  have R1 : Row ((w.alloc (.cells (aC c) 49)).alloc (.cells (aC zC) 49)) b (cC c) 49 := by
    rw [← hb]
    exact (Row.new w (cC c) 49).keep (below_alloc _ _)
  have R2 : Row ((w.alloc (.cells (aC c) 49)).alloc (.cells (aC zC) 49)) (b + 1) (cC zC) 49 := by
    have h := Row.new (w.alloc (.cells (aC c) 49)) (cC zC) 49
    rwa [show (w.alloc (.cells (aC c) 49)).heap.size = b + 1 by rw [← hb]; simp] at h
  have R3 : Row (((w.alloc (.cells (aC c) 49)).alloc (.cells (aC zC) 49)).alloc (.cells (aC ⟨8, ⟨#[]⟩, zI, 0, 0, 0, 0, ⟨#[]⟩⟩) 49)) (b + 1 + 1) (cC ⟨8, ⟨#[]⟩, zI, 0, 0, 0, 0, ⟨#[]⟩⟩) 49 := by
    have h := Row.new ((w.alloc (.cells (aC c) 49)).alloc (.cells (aC zC) 49)) (cC ⟨8, ⟨#[]⟩, zI, 0, 0, 0, 0, ⟨#[]⟩⟩) 49
    rwa [show ((w.alloc (.cells (aC c) 49)).alloc (.cells (aC zC) 49)).heap.size = b + 1 + 1 by rw [← hb]; simp] at h
  have k0 : ((w.alloc (.cells (aC c) 49)).alloc (.cells (aC zC) 49)).cell? ⟨b, 0, none⟩ = some (.int .i64 8) := by rw [← hv]; exact R1.cell 0
  have O3 : OI b (b + 1) (b + 1 + 1) c ⟨8, ⟨#[]⟩, zI, 0, 0, 0, 0, ⟨#[]⟩⟩ w (((w.alloc (.cells (aC c) 49)).alloc (.cells (aC zC) 49)).alloc (.cells (aC ⟨8, ⟨#[]⟩, zI, 0, 0, 0, 0, ⟨#[]⟩⟩) 49)) :=
    ⟨R1.keep (below_alloc _ _), R2.keep (below_alloc _ _), R3, by rw [← hb]; exact Below.step (Below.step (below_alloc w _) (below_alloc _ _)) (below_alloc _ _), by omega, by omega⟩
  obtain ⟨W3, hW3⟩ : ∃ W3, (((w.alloc (.cells (aC c) 49)).alloc (.cells (aC zC) 49)).alloc (.cells (aC ⟨8, ⟨#[]⟩, zI, 0, 0, 0, 0, ⟨#[]⟩⟩) 49)) = W3 := ⟨_, rfl⟩
  rw [hW3] at O3
  have HV := Lib.hid hv
  clear R1 R2 R3 hv
  have v3 : W3.cell? ⟨b, 0, none⟩ = some (.int .i64 8) := by rw [← HV.out]; exact O3.box.cell 0
  obtain ⟨x3, y3⟩ := O3.box.idC
  have st3 : stOk W3 (b + 1 + 1) 2 32 = true := O3.out.ok _ 2 32 (by rw [cC_length]; omega)
  have O4 : OI b (b + 1) (b + 1 + 1) c ⟨8, ⟨#[]⟩, c.id, 0, 0, 0, 0, ⟨#[]⟩⟩ w (stD W3 (b + 1 + 1) 2 (cI c.id)) := O3.stI c.id
  obtain ⟨W4, hW4⟩ : ∃ W4, stD W3 (b + 1 + 1) 2 (cI c.id) = W4 := ⟨_, rfl⟩
  rw [hW4] at O4
  have v4 : W4.cell? ⟨b, 0, none⟩ = some (.int .i64 8) := by rw [← HV.out]; exact O4.box.cell 0
  obtain ⟨ok, rd, rk, hr, hbl⟩ := O4.ok
  have HF := Lib.hid (And.intro hr hbl)
  clear hr hbl O3 O4
  go_enter Tryz.func60, Tryz.ntmps60
  go_wp2
  exact bodyPost_ret (v := vC ⟨8, ⟨#[]⟩, c.id, 0, 0, 0, 0, ⟨#[]⟩⟩) (results_c1 (ad := ⟨b + 1, 0, none⟩) rfl rfl (ld_row31 _ HF.out.1)) rfl ⟨by rw [HO.out], by rw [hb]; exact HF.out.2⟩
set_option maxRecDepth 100000 in
set_option maxHeartbeats 3200000 in
theorem only50_9 (c : Cm) (hv : c.verb = 9) (w : World) : Calls Tryz.prog 60 #[vC c] w (OnlyP c w) := by
  obtain ⟨b, hb⟩ : ∃ b, w.heap.size = b := ⟨_, rfl⟩
  have HO : Hid (onlyC c = ⟨9, ⟨#[]⟩, c.id, 0, 0, 0, 0, ⟨#[]⟩⟩) := Lib.hid (by unfold onlyC; rw [hv]; rfl)
  have R1 : Row ((w.alloc (.cells (aC c) 49)).alloc (.cells (aC zC) 49)) b (cC c) 49 := by
    rw [← hb]
    exact (Row.new w (cC c) 49).keep (below_alloc _ _)
  have R2 : Row ((w.alloc (.cells (aC c) 49)).alloc (.cells (aC zC) 49)) (b + 1) (cC zC) 49 := by
    have h := Row.new (w.alloc (.cells (aC c) 49)) (cC zC) 49
    rwa [show (w.alloc (.cells (aC c) 49)).heap.size = b + 1 by rw [← hb]; simp] at h
  have R3 : Row (((w.alloc (.cells (aC c) 49)).alloc (.cells (aC zC) 49)).alloc (.cells (aC ⟨9, ⟨#[]⟩, zI, 0, 0, 0, 0, ⟨#[]⟩⟩) 49)) (b + 1 + 1) (cC ⟨9, ⟨#[]⟩, zI, 0, 0, 0, 0, ⟨#[]⟩⟩) 49 := by
    have h := Row.new ((w.alloc (.cells (aC c) 49)).alloc (.cells (aC zC) 49)) (cC ⟨9, ⟨#[]⟩, zI, 0, 0, 0, 0, ⟨#[]⟩⟩) 49
    rwa [show ((w.alloc (.cells (aC c) 49)).alloc (.cells (aC zC) 49)).heap.size = b + 1 + 1 by rw [← hb]; simp] at h
  have k0 : ((w.alloc (.cells (aC c) 49)).alloc (.cells (aC zC) 49)).cell? ⟨b, 0, none⟩ = some (.int .i64 9) := by rw [← hv]; exact R1.cell 0
  have O3 : OI b (b + 1) (b + 1 + 1) c ⟨9, ⟨#[]⟩, zI, 0, 0, 0, 0, ⟨#[]⟩⟩ w (((w.alloc (.cells (aC c) 49)).alloc (.cells (aC zC) 49)).alloc (.cells (aC ⟨9, ⟨#[]⟩, zI, 0, 0, 0, 0, ⟨#[]⟩⟩) 49)) :=
    ⟨R1.keep (below_alloc _ _), R2.keep (below_alloc _ _), R3, by rw [← hb]; exact Below.step (Below.step (below_alloc w _) (below_alloc _ _)) (below_alloc _ _), by omega, by omega⟩
  obtain ⟨W3, hW3⟩ : ∃ W3, (((w.alloc (.cells (aC c) 49)).alloc (.cells (aC zC) 49)).alloc (.cells (aC ⟨9, ⟨#[]⟩, zI, 0, 0, 0, 0, ⟨#[]⟩⟩) 49)) = W3 := ⟨_, rfl⟩
  rw [hW3] at O3
  have HV := Lib.hid hv
  clear R1 R2 R3 hv
  have v3 : W3.cell? ⟨b, 0, none⟩ = some (.int .i64 9) := by rw [← HV.out]; exact O3.box.cell 0
  obtain ⟨x3, y3⟩ := O3.box.idC
  have st3 : stOk W3 (b + 1 + 1) 2 32 = true := O3.out.ok _ 2 32 (by rw [cC_length]; omega)
  have O4 : OI b (b + 1) (b + 1 + 1) c ⟨9, ⟨#[]⟩, c.id, 0, 0, 0, 0, ⟨#[]⟩⟩ w (stD W3 (b + 1 + 1) 2 (cI c.id)) := O3.stI c.id
  obtain ⟨W4, hW4⟩ : ∃ W4, stD W3 (b + 1 + 1) 2 (cI c.id) = W4 := ⟨_, rfl⟩
  rw [hW4] at O4
  have v4 : W4.cell? ⟨b, 0, none⟩ = some (.int .i64 9) := by rw [← HV.out]; exact O4.box.cell 0
  obtain ⟨ok, rd, rk, hr, hbl⟩ := O4.ok
  have HF := Lib.hid (And.intro hr hbl)
  clear hr hbl O3 O4
  go_enter Tryz.func60, Tryz.ntmps60
  go_wp2
  exact bodyPost_ret (v := vC ⟨9, ⟨#[]⟩, c.id, 0, 0, 0, 0, ⟨#[]⟩⟩) (results_c1 (ad := ⟨b + 1, 0, none⟩) rfl rfl (ld_row31 _ HF.out.1)) rfl ⟨by rw [HO.out], by rw [hb]; exact HF.out.2⟩
set_option maxRecDepth 100000 in
set_option maxHeartbeats 3200000 in
theorem only50_10 (c : Cm) (hv : c.verb = 10) (w : World) : Calls Tryz.prog 60 #[vC c] w (OnlyP c w) := by
  obtain ⟨b, hb⟩ : ∃ b, w.heap.size = b := ⟨_, rfl⟩
  have HO : Hid (onlyC c = ⟨10, ⟨#[]⟩, zI, 0, 0, 0, 0, c.text⟩) := Lib.hid (by unfold onlyC; rw [hv]; rfl)
  have R1 : Row ((w.alloc (.cells (aC c) 49)).alloc (.cells (aC zC) 49)) b (cC c) 49 := by
    rw [← hb]
    exact (Row.new w (cC c) 49).keep (below_alloc _ _)
  have R2 : Row ((w.alloc (.cells (aC c) 49)).alloc (.cells (aC zC) 49)) (b + 1) (cC zC) 49 := by
    have h := Row.new (w.alloc (.cells (aC c) 49)) (cC zC) 49
    rwa [show (w.alloc (.cells (aC c) 49)).heap.size = b + 1 by rw [← hb]; simp] at h
  have R3 : Row (((w.alloc (.cells (aC c) 49)).alloc (.cells (aC zC) 49)).alloc (.cells (aC ⟨10, ⟨#[]⟩, zI, 0, 0, 0, 0, ⟨#[]⟩⟩) 49)) (b + 1 + 1) (cC ⟨10, ⟨#[]⟩, zI, 0, 0, 0, 0, ⟨#[]⟩⟩) 49 := by
    have h := Row.new ((w.alloc (.cells (aC c) 49)).alloc (.cells (aC zC) 49)) (cC ⟨10, ⟨#[]⟩, zI, 0, 0, 0, 0, ⟨#[]⟩⟩) 49
    rwa [show ((w.alloc (.cells (aC c) 49)).alloc (.cells (aC zC) 49)).heap.size = b + 1 + 1 by rw [← hb]; simp] at h
  have k0 : ((w.alloc (.cells (aC c) 49)).alloc (.cells (aC zC) 49)).cell? ⟨b, 0, none⟩ = some (.int .i64 10) := by rw [← hv]; exact R1.cell 0
  have O3 : OI b (b + 1) (b + 1 + 1) c ⟨10, ⟨#[]⟩, zI, 0, 0, 0, 0, ⟨#[]⟩⟩ w (((w.alloc (.cells (aC c) 49)).alloc (.cells (aC zC) 49)).alloc (.cells (aC ⟨10, ⟨#[]⟩, zI, 0, 0, 0, 0, ⟨#[]⟩⟩) 49)) :=
    ⟨R1.keep (below_alloc _ _), R2.keep (below_alloc _ _), R3, by rw [← hb]; exact Below.step (Below.step (below_alloc w _) (below_alloc _ _)) (below_alloc _ _), by omega, by omega⟩
  obtain ⟨W3, hW3⟩ : ∃ W3, (((w.alloc (.cells (aC c) 49)).alloc (.cells (aC zC) 49)).alloc (.cells (aC ⟨10, ⟨#[]⟩, zI, 0, 0, 0, 0, ⟨#[]⟩⟩) 49)) = W3 := ⟨_, rfl⟩
  rw [hW3] at O3
  have HV := Lib.hid hv
  clear R1 R2 R3 hv
  have v3 : W3.cell? ⟨b, 0, none⟩ = some (.int .i64 10) := by rw [← HV.out]; exact O3.box.cell 0
  have l3 : W3.cell? ⟨b, 38, none⟩ = some (.string c.text) := (O3.box.cell 38).trans (cC_at (aC_38 c))
  have g3 : W3.cell? ⟨b + 1 + 1, 38, none⟩ = some (.string ⟨#[]⟩) := (O3.out.cell 38).trans (cC_at (aC_38 _))
  have f3 := O3.out.fz 38
  have O4 : OI b (b + 1) (b + 1 + 1) c ⟨10, ⟨#[]⟩, zI, 0, 0, 0, 0, c.text⟩ w (W3.setCell ⟨b + 1 + 1, 38, none⟩ (.string c.text)) := O3.set 38 _ (cC_set38 _ _)
  obtain ⟨W4, hW4⟩ : ∃ W4, W3.setCell ⟨b + 1 + 1, 38, none⟩ (.string c.text) = W4 := ⟨_, rfl⟩
  rw [hW4] at O4
  have v4 : W4.cell? ⟨b, 0, none⟩ = some (.int .i64 10) := by rw [← HV.out]; exact O4.box.cell 0
  obtain ⟨ok, rd, rk, hr, hbl⟩ := O4.ok
  have HF := Lib.hid (And.intro hr hbl)
  clear hr hbl O3 O4
  go_enter Tryz.func60, Tryz.ntmps60
  go_wp2
  exact bodyPost_ret (v := vC ⟨10, ⟨#[]⟩, zI, 0, 0, 0, 0, c.text⟩) (results_c1 (ad := ⟨b + 1, 0, none⟩) rfl rfl (ld_row31 _ HF.out.1)) rfl ⟨by rw [HO.out], by rw [hb]; exact HF.out.2⟩
set_option maxRecDepth 100000 in
set_option maxHeartbeats 3200000 in
theorem only50_11 (c : Cm) (hv : c.verb = 11) (w : World) : Calls Tryz.prog 60 #[vC c] w (OnlyP c w) := by
  obtain ⟨b, hb⟩ : ∃ b, w.heap.size = b := ⟨_, rfl⟩
  have HO : Hid (onlyC c = ⟨11, ⟨#[]⟩, zI, 0, 0, 0, 0, ⟨#[]⟩⟩) := Lib.hid (by unfold onlyC; rw [hv]; rfl)
  have R1 : Row ((w.alloc (.cells (aC c) 49)).alloc (.cells (aC zC) 49)) b (cC c) 49 := by
    rw [← hb]
    exact (Row.new w (cC c) 49).keep (below_alloc _ _)
  have R2 : Row ((w.alloc (.cells (aC c) 49)).alloc (.cells (aC zC) 49)) (b + 1) (cC zC) 49 := by
    have h := Row.new (w.alloc (.cells (aC c) 49)) (cC zC) 49
    rwa [show (w.alloc (.cells (aC c) 49)).heap.size = b + 1 by rw [← hb]; simp] at h
  have R3 : Row (((w.alloc (.cells (aC c) 49)).alloc (.cells (aC zC) 49)).alloc (.cells (aC ⟨11, ⟨#[]⟩, zI, 0, 0, 0, 0, ⟨#[]⟩⟩) 49)) (b + 1 + 1) (cC ⟨11, ⟨#[]⟩, zI, 0, 0, 0, 0, ⟨#[]⟩⟩) 49 := by
    have h := Row.new ((w.alloc (.cells (aC c) 49)).alloc (.cells (aC zC) 49)) (cC ⟨11, ⟨#[]⟩, zI, 0, 0, 0, 0, ⟨#[]⟩⟩) 49
    rwa [show ((w.alloc (.cells (aC c) 49)).alloc (.cells (aC zC) 49)).heap.size = b + 1 + 1 by rw [← hb]; simp] at h
  have k0 : ((w.alloc (.cells (aC c) 49)).alloc (.cells (aC zC) 49)).cell? ⟨b, 0, none⟩ = some (.int .i64 11) := by rw [← hv]; exact R1.cell 0
  have O3 : OI b (b + 1) (b + 1 + 1) c ⟨11, ⟨#[]⟩, zI, 0, 0, 0, 0, ⟨#[]⟩⟩ w (((w.alloc (.cells (aC c) 49)).alloc (.cells (aC zC) 49)).alloc (.cells (aC ⟨11, ⟨#[]⟩, zI, 0, 0, 0, 0, ⟨#[]⟩⟩) 49)) :=
    ⟨R1.keep (below_alloc _ _), R2.keep (below_alloc _ _), R3, by rw [← hb]; exact Below.step (Below.step (below_alloc w _) (below_alloc _ _)) (below_alloc _ _), by omega, by omega⟩
  obtain ⟨W3, hW3⟩ : ∃ W3, (((w.alloc (.cells (aC c) 49)).alloc (.cells (aC zC) 49)).alloc (.cells (aC ⟨11, ⟨#[]⟩, zI, 0, 0, 0, 0, ⟨#[]⟩⟩) 49)) = W3 := ⟨_, rfl⟩
  rw [hW3] at O3
  have HV := Lib.hid hv
  clear R1 R2 R3 hv
  have v3 : W3.cell? ⟨b, 0, none⟩ = some (.int .i64 11) := by rw [← HV.out]; exact O3.box.cell 0
  obtain ⟨ok, rd, rk, hr, hbl⟩ := O3.ok
  have HF := Lib.hid (And.intro hr hbl)
  clear hr hbl O3
  go_enter Tryz.func60, Tryz.ntmps60
  go_wp2
  exact bodyPost_ret (v := vC ⟨11, ⟨#[]⟩, zI, 0, 0, 0, 0, ⟨#[]⟩⟩) (results_c1 (ad := ⟨b + 1, 0, none⟩) rfl rfl (ld_row31 _ HF.out.1)) rfl ⟨by rw [HO.out], by rw [hb]; exact HF.out.2⟩
theorem only50 (c : Cm) (h1 : 1 ≤ c.verb) (h2 : c.verb ≤ 11) (w : World) : Calls Tryz.prog 60 #[vC c] w (OnlyP c w) := by
  have h : c.verb = 1 ∨ c.verb = 2 ∨ c.verb = 3 ∨ c.verb = 4 ∨ c.verb = 5 ∨ c.verb = 6 ∨ c.verb = 7 ∨ c.verb = 8 ∨ c.verb = 9 ∨ c.verb = 10 ∨ c.verb = 11 := by omega
  rcases h with h | h | h | h | h | h | h | h | h | h | h
  · exact only50_1 c h w
  · exact only50_2 c h w
  · exact only50_3 c h w
  · exact only50_4 c h w
  · exact only50_5 c h w
  · exact only50_6 c h w
  · exact only50_7 c h w
  · exact only50_8 c h w
  · exact only50_9 c h w
  · exact only50_10 c h w
  · exact only50_11 c h w
end
section
open Go.RowKit
theorem extra_all : (flagsL.all fun fl => [true, false].all fun b1 => [true, false].all fun b2 => [true, false].all fun b3 => [true, false].all fun b4 => [true, false].all fun b5 => [true, false].all fun b6 => [true, false].all fun b7 =>
    (bits BinOp.andNot .i64 (orL (psL b1 b2 b3 b4 b5 b6 b7)) fl != 0) == !(useB fl 1 b1 && useB fl 2 b2 && useB fl 4 b3 && useB fl 8 b4 && useB fl 16 b5 && useB fl 32 b6 && useB fl 64 b7)) = true := by decide +kernel
theorem extra_eq (fl : Int) (hf : fl ∈ flagsL) (b1 b2 b3 b4 b5 b6 b7 : Bool) : (bits BinOp.andNot .i64 (orL (psL b1 b2 b3 b4 b5 b6 b7)) fl != 0) = !(useB fl 1 b1 && useB fl 2 b2 && useB fl 4 b3 && useB fl 8 b4 && useB fl 16 b5 && useB fl 32 b6 && useB fl 64 b7) := by
  have h1 := all_bool _ (all_bool _ (all_bool _ (all_bool _ (all_bool _ (all_bool _ (all_bool _ (List.all_eq_true.1 extra_all fl hf) b1) b2) b3) b4) b5) b6) b7
  exact beq_iff_eq.1 h1
theorem isEd (s : ByteArray) : s.toList.isEmpty = decide (s = ⟨#[]⟩) := by
  rw [Bool.eq_iff_iff, decide_eq_true_eq]
  constructor
  · exact empty_of s
  · intro h; rw [h, isE]; rfl
def usesC (c : Cm) (fl : Int) : Bool := useB fl 1 (!c.name.toList.isEmpty) && useB fl 2 (!decide (c.id = zI)) && useB fl 4 (c.size != 0) && useB fl 8 (c.from_ != 0) && useB fl 16 (c.count != 0) && useB fl 32 (c.code != 0) && useB fl 64 (!c.text.toList.isEmpty)
theorem only_uses1 (c : Cm) (hv : c.verb = 1) : usesC c 17 = decide (c = onlyC c) := by
  obtain ⟨v, nm, x, sz, fr, co, cd, t⟩ := c
  simp only at hv
  subst hv
  unfold usesC onlyC
  simp only [isEd]
  rw [Bool.eq_iff_iff]
  simp only [show ∀ b, useB 17 1 b = true from by decide, show ∀ b, useB 17 2 b = !b from by decide, show ∀ b, useB 17 4 b = !b from by decide, show ∀ b, useB 17 8 b = !b from by decide, show ∀ b, useB 17 16 b = true from by decide, show ∀ b, useB 17 32 b = !b from by decide, show ∀ b, useB 17 64 b = !b from by decide]
  simp [and_assoc]
theorem only_uses2 (c : Cm) (hv : c.verb = 2) : usesC c 6 = decide (c = onlyC c) := by
  obtain ⟨v, nm, x, sz, fr, co, cd, t⟩ := c
  simp only at hv
  subst hv
  unfold usesC onlyC
  simp only [isEd]
  rw [Bool.eq_iff_iff]
  simp only [show ∀ b, useB 6 1 b = !b from by decide, show ∀ b, useB 6 2 b = true from by decide, show ∀ b, useB 6 4 b = true from by decide, show ∀ b, useB 6 8 b = !b from by decide, show ∀ b, useB 6 16 b = !b from by decide, show ∀ b, useB 6 32 b = !b from by decide, show ∀ b, useB 6 64 b = !b from by decide]
  simp [and_assoc]
theorem only_uses3 (c : Cm) (hv : c.verb = 3) : usesC c 10 = decide (c = onlyC c) := by
  obtain ⟨v, nm, x, sz, fr, co, cd, t⟩ := c
  simp only at hv
  subst hv
  unfold usesC onlyC
  simp only [isEd]
  rw [Bool.eq_iff_iff]
  simp only [show ∀ b, useB 10 1 b = !b from by decide, show ∀ b, useB 10 2 b = true from by decide, show ∀ b, useB 10 4 b = !b from by decide, show ∀ b, useB 10 8 b = true from by decide, show ∀ b, useB 10 16 b = !b from by decide, show ∀ b, useB 10 32 b = !b from by decide, show ∀ b, useB 10 64 b = !b from by decide]
  simp [and_assoc]
theorem only_uses4 (c : Cm) (hv : c.verb = 4) : usesC c 2 = decide (c = onlyC c) := by
  obtain ⟨v, nm, x, sz, fr, co, cd, t⟩ := c
  simp only at hv
  subst hv
  unfold usesC onlyC
  simp only [isEd]
  rw [Bool.eq_iff_iff]
  simp only [show ∀ b, useB 2 1 b = !b from by decide, show ∀ b, useB 2 2 b = true from by decide, show ∀ b, useB 2 4 b = !b from by decide, show ∀ b, useB 2 8 b = !b from by decide, show ∀ b, useB 2 16 b = !b from by decide, show ∀ b, useB 2 32 b = !b from by decide, show ∀ b, useB 2 64 b = !b from by decide]
  simp [and_assoc]
theorem only_uses5 (c : Cm) (hv : c.verb = 5) : usesC c 2 = decide (c = onlyC c) := by
  obtain ⟨v, nm, x, sz, fr, co, cd, t⟩ := c
  simp only at hv
  subst hv
  unfold usesC onlyC
  simp only [isEd]
  rw [Bool.eq_iff_iff]
  simp only [show ∀ b, useB 2 1 b = !b from by decide, show ∀ b, useB 2 2 b = true from by decide, show ∀ b, useB 2 4 b = !b from by decide, show ∀ b, useB 2 8 b = !b from by decide, show ∀ b, useB 2 16 b = !b from by decide, show ∀ b, useB 2 32 b = !b from by decide, show ∀ b, useB 2 64 b = !b from by decide]
  simp [and_assoc]
theorem only_uses6 (c : Cm) (hv : c.verb = 6) : usesC c 34 = decide (c = onlyC c) := by
  obtain ⟨v, nm, x, sz, fr, co, cd, t⟩ := c
  simp only at hv
  subst hv
  unfold usesC onlyC
  simp only [isEd]
  rw [Bool.eq_iff_iff]
  simp only [show ∀ b, useB 34 1 b = !b from by decide, show ∀ b, useB 34 2 b = true from by decide, show ∀ b, useB 34 4 b = !b from by decide, show ∀ b, useB 34 8 b = !b from by decide, show ∀ b, useB 34 16 b = !b from by decide, show ∀ b, useB 34 32 b = true from by decide, show ∀ b, useB 34 64 b = !b from by decide]
  simp [and_assoc]
theorem only_uses7 (c : Cm) (hv : c.verb = 7) : usesC c 74 = decide (c = onlyC c) := by
  obtain ⟨v, nm, x, sz, fr, co, cd, t⟩ := c
  simp only at hv
  subst hv
  unfold usesC onlyC
  simp only [isEd]
  rw [Bool.eq_iff_iff]
  simp only [show ∀ b, useB 74 1 b = !b from by decide, show ∀ b, useB 74 2 b = true from by decide, show ∀ b, useB 74 4 b = !b from by decide, show ∀ b, useB 74 8 b = true from by decide, show ∀ b, useB 74 16 b = !b from by decide, show ∀ b, useB 74 32 b = !b from by decide, show ∀ b, useB 74 64 b = true from by decide]
  simp [and_assoc]
theorem only_uses8 (c : Cm) (hv : c.verb = 8) : usesC c 2 = decide (c = onlyC c) := by
  obtain ⟨v, nm, x, sz, fr, co, cd, t⟩ := c
  simp only at hv
  subst hv
  unfold usesC onlyC
  simp only [isEd]
  rw [Bool.eq_iff_iff]
  simp only [show ∀ b, useB 2 1 b = !b from by decide, show ∀ b, useB 2 2 b = true from by decide, show ∀ b, useB 2 4 b = !b from by decide, show ∀ b, useB 2 8 b = !b from by decide, show ∀ b, useB 2 16 b = !b from by decide, show ∀ b, useB 2 32 b = !b from by decide, show ∀ b, useB 2 64 b = !b from by decide]
  simp [and_assoc]
theorem only_uses9 (c : Cm) (hv : c.verb = 9) : usesC c 2 = decide (c = onlyC c) := by
  obtain ⟨v, nm, x, sz, fr, co, cd, t⟩ := c
  simp only at hv
  subst hv
  unfold usesC onlyC
  simp only [isEd]
  rw [Bool.eq_iff_iff]
  simp only [show ∀ b, useB 2 1 b = !b from by decide, show ∀ b, useB 2 2 b = true from by decide, show ∀ b, useB 2 4 b = !b from by decide, show ∀ b, useB 2 8 b = !b from by decide, show ∀ b, useB 2 16 b = !b from by decide, show ∀ b, useB 2 32 b = !b from by decide, show ∀ b, useB 2 64 b = !b from by decide]
  simp [and_assoc]
theorem only_uses10 (c : Cm) (hv : c.verb = 10) : usesC c 64 = decide (c = onlyC c) := by
  obtain ⟨v, nm, x, sz, fr, co, cd, t⟩ := c
  simp only at hv
  subst hv
  unfold usesC onlyC
  simp only [isEd]
  rw [Bool.eq_iff_iff]
  simp only [show ∀ b, useB 64 1 b = !b from by decide, show ∀ b, useB 64 2 b = !b from by decide, show ∀ b, useB 64 4 b = !b from by decide, show ∀ b, useB 64 8 b = !b from by decide, show ∀ b, useB 64 16 b = !b from by decide, show ∀ b, useB 64 32 b = !b from by decide, show ∀ b, useB 64 64 b = true from by decide]
  simp [and_assoc]
theorem only_uses11 (c : Cm) (hv : c.verb = 11) : usesC c 0 = decide (c = onlyC c) := by
  obtain ⟨v, nm, x, sz, fr, co, cd, t⟩ := c
  simp only at hv
  subst hv
  unfold usesC onlyC
  simp only [isEd]
  rw [Bool.eq_iff_iff]
  simp only [show ∀ b, useB 0 1 b = !b from by decide, show ∀ b, useB 0 2 b = !b from by decide, show ∀ b, useB 0 4 b = !b from by decide, show ∀ b, useB 0 8 b = !b from by decide, show ∀ b, useB 0 16 b = !b from by decide, show ∀ b, useB 0 32 b = !b from by decide, show ∀ b, useB 0 64 b = !b from by decide]
  simp [and_assoc]
theorem only_uses (c : Cm) (h1 : 1 ≤ c.verb) (h2 : c.verb ≤ 11) : usesC c (formC c).2.1 = decide (c = onlyC c) := by
  have h : c.verb = 1 ∨ c.verb = 2 ∨ c.verb = 3 ∨ c.verb = 4 ∨ c.verb = 5 ∨ c.verb = 6 ∨ c.verb = 7 ∨ c.verb = 8 ∨ c.verb = 9 ∨ c.verb = 10 ∨ c.verb = 11 := by omega
  rcases h with h | h | h | h | h | h | h | h | h | h | h
  · rw [show (formC c).2.1 = 17 by unfold formC; rw [h]; rfl]; exact only_uses1 c h
  · rw [show (formC c).2.1 = 6 by unfold formC; rw [h]; rfl]; exact only_uses2 c h
  · rw [show (formC c).2.1 = 10 by unfold formC; rw [h]; rfl]; exact only_uses3 c h
  · rw [show (formC c).2.1 = 2 by unfold formC; rw [h]; rfl]; exact only_uses4 c h
  · rw [show (formC c).2.1 = 2 by unfold formC; rw [h]; rfl]; exact only_uses5 c h
  · rw [show (formC c).2.1 = 34 by unfold formC; rw [h]; rfl]; exact only_uses6 c h
  · rw [show (formC c).2.1 = 74 by unfold formC; rw [h]; rfl]; exact only_uses7 c h
  · rw [show (formC c).2.1 = 2 by unfold formC; rw [h]; rfl]; exact only_uses8 c h
  · rw [show (formC c).2.1 = 2 by unfold formC; rw [h]; rfl]; exact only_uses9 c h
  · rw [show (formC c).2.1 = 64 by unfold formC; rw [h]; rfl]; exact only_uses10 c h
  · rw [show (formC c).2.1 = 0 by unfold formC; rw [h]; rfl]; exact only_uses11 c h
def chkR (c : Cm) (fl most : Int) : Int :=
  if bits BinOp.and .i64 fl 1 != 0 && !siteB (bl c.name) then 12
  else if bits BinOp.and .i64 fl 2 != 0 && decide (c.id = zI) then 1
  else if (rgs c).all (okR fl) = false then 2
  else if bits BinOp.and .i64 fl 64 == 0 then 0
  else if c.text.toList.isEmpty then 1
  else if most < c.text.size then 5
  else if crL c.text then 6 else 0
theorem form_flags (c : Cm) (h1 : 1 ≤ c.verb) (h2 : c.verb ≤ 11) : (formC c).2.1 ∈ flagsL := by
  obtain ⟨k, hk⟩ : ∃ k : Nat, c.verb = (k : Int) := ⟨c.verb.toNat, by omega⟩
  have hk12 : k < formsL.length := by show k < 12; omega
  have hfc : formC c = formsL[k] := by unfold formC; rw [hk, Int.toNat_natCast, List.getElem?_eq_getElem hk12]; rfl
  have h3 : formsL.all (fun x => flagsL.contains x.2.1) = true := by decide
  have h4 := List.all_eq_true.1 h3 _ (List.getElem_mem hk12)
  rw [hfc]
  simpa using h4
theorem chk_only (c : Cm) (h1 : 1 ≤ c.verb) (h2 : c.verb ≤ 11) : chk c = if c = onlyC c then chkR c (formC c).2.1 (formC c).2.2 else 3 := by
  have e : chk c = chkF c (formC c).2.1 (formC c).2.2 := by unfold chk; rw [if_neg (by omega)]; rfl
  have hu : (bits BinOp.andNot .i64 (orL (psC c)) (formC c).2.1 != 0) = !decide (c = onlyC c) := by
    rw [← only_uses c h1 h2]
    exact extra_eq _ (form_flags c h1 h2) _ _ _ _ _ _ _
  rw [e]
  unfold chkF
  rw [hu]
  by_cases h : c = onlyC c
  · rw [if_pos h, if_neg (by rw [decide_eq_true h]; decide)]
    rfl
  · rw [if_neg h, if_pos (by rw [decide_eq_false h]; rfl)]
theorem hasB_cr (s : ByteArray) : hasB s 13 = crL s := by
  unfold hasB crL
  exact (index_any 13 (bl s)).symm
theorem chk_v1 (c : Cm) (hv : c.verb = 1) (ho : c = onlyC c) : chk c = if siteB (bl c.name) = false then 12 else if c.count < 1 ∨ 1000 < c.count then 2 else 0 := by
  rw [chk_only c (by omega) (by omega), if_pos ho, show (formC c).2.1 = 17 by (unfold formC; rw [hv]; rfl), show (formC c).2.2 = 0 by (unfold formC; rw [hv]; rfl)]
  unfold chkR rgs
  simp only [List.all_cons, List.all_nil, okR, isEd, ← hasB_cr, show bits BinOp.and .i64 17 1 = 1 from by decide, show bits BinOp.and .i64 17 2 = 0 from by decide, show bits BinOp.and .i64 17 4 = 0 from by decide, show bits BinOp.and .i64 17 8 = 0 from by decide, show bits BinOp.and .i64 17 16 = 16 from by decide, show bits BinOp.and .i64 17 32 = 0 from by decide, show bits BinOp.and .i64 17 64 = 0 from by decide]
  simp only [show ((0 : Int) != 0) = false from rfl, show ((0 : Int) == 0) = true from rfl, show ((1 : Int) != 0) = true from by decide, show ((16 : Int) == 0) = false from by decide, Bool.true_and, Bool.false_and, Bool.true_or, Bool.false_or, Bool.and_true, Bool.false_eq_true, if_false, if_true, Bool.not_eq_true', Bool.and_eq_false_iff, decide_eq_true_eq, decide_eq_false_iff_not, Int.not_le]
  repeat' split
  all_goals first | rfl | omega | (simp_all; done) | (simp_all; omega)
theorem chk_v2 (c : Cm) (hv : c.verb = 2) (ho : c = onlyC c) : chk c = if c.id = zI then 1 else if c.size < 1 ∨ 65536 < c.size then 2 else 0 := by
  rw [chk_only c (by omega) (by omega), if_pos ho, show (formC c).2.1 = 6 by (unfold formC; rw [hv]; rfl), show (formC c).2.2 = 0 by (unfold formC; rw [hv]; rfl)]
  unfold chkR rgs
  simp only [List.all_cons, List.all_nil, okR, isEd, ← hasB_cr, show bits BinOp.and .i64 6 1 = 0 from by decide, show bits BinOp.and .i64 6 2 = 2 from by decide, show bits BinOp.and .i64 6 4 = 4 from by decide, show bits BinOp.and .i64 6 8 = 0 from by decide, show bits BinOp.and .i64 6 16 = 0 from by decide, show bits BinOp.and .i64 6 32 = 0 from by decide, show bits BinOp.and .i64 6 64 = 0 from by decide]
  simp only [show ((0 : Int) != 0) = false from rfl, show ((0 : Int) == 0) = true from rfl, show ((2 : Int) != 0) = true from by decide, show ((4 : Int) == 0) = false from by decide, Bool.true_and, Bool.false_and, Bool.true_or, Bool.false_or, Bool.and_true, Bool.false_eq_true, if_false, if_true, Bool.and_eq_false_iff, decide_eq_true_eq, decide_eq_false_iff_not, Int.not_le]
  repeat' split
  all_goals first | rfl | omega | (simp_all; done) | (simp_all; omega)
theorem chk_v3 (c : Cm) (hv : c.verb = 3) (ho : c = onlyC c) : chk c = if c.id = zI then 1 else if c.from_ < 0 ∨ 65536 < c.from_ then 2 else 0 := by
  rw [chk_only c (by omega) (by omega), if_pos ho, show (formC c).2.1 = 10 by (unfold formC; rw [hv]; rfl), show (formC c).2.2 = 0 by (unfold formC; rw [hv]; rfl)]
  unfold chkR rgs
  simp only [List.all_cons, List.all_nil, okR, isEd, ← hasB_cr, show bits BinOp.and .i64 10 1 = 0 from by decide, show bits BinOp.and .i64 10 2 = 2 from by decide, show bits BinOp.and .i64 10 4 = 0 from by decide, show bits BinOp.and .i64 10 8 = 8 from by decide, show bits BinOp.and .i64 10 16 = 0 from by decide, show bits BinOp.and .i64 10 32 = 0 from by decide, show bits BinOp.and .i64 10 64 = 0 from by decide]
  simp only [show ((0 : Int) != 0) = false from rfl, show ((0 : Int) == 0) = true from rfl, show ((2 : Int) != 0) = true from by decide, show ((8 : Int) == 0) = false from by decide, Bool.true_and, Bool.false_and, Bool.true_or, Bool.false_or, Bool.and_true, Bool.false_eq_true, if_false, if_true, Bool.and_eq_false_iff, decide_eq_true_eq, decide_eq_false_iff_not, Int.not_le]
  repeat' split
  all_goals first | rfl | omega | (simp_all; done) | (simp_all; omega)
theorem chk_v4 (c : Cm) (hv : c.verb = 4) (ho : c = onlyC c) : chk c = if c.id = zI then 1 else 0 := by
  rw [chk_only c (by omega) (by omega), if_pos ho, show (formC c).2.1 = 2 by (unfold formC; rw [hv]; rfl), show (formC c).2.2 = 0 by (unfold formC; rw [hv]; rfl)]
  unfold chkR rgs
  simp only [List.all_cons, List.all_nil, okR, isEd, ← hasB_cr, show bits BinOp.and .i64 2 1 = 0 from by decide, show bits BinOp.and .i64 2 2 = 2 from by decide, show bits BinOp.and .i64 2 4 = 0 from by decide, show bits BinOp.and .i64 2 8 = 0 from by decide, show bits BinOp.and .i64 2 16 = 0 from by decide, show bits BinOp.and .i64 2 32 = 0 from by decide, show bits BinOp.and .i64 2 64 = 0 from by decide]
  simp only [show ((0 : Int) != 0) = false from rfl, show ((0 : Int) == 0) = true from rfl, show ((2 : Int) != 0) = true from by decide, Bool.true_and, Bool.false_and, Bool.true_or, Bool.and_true, Bool.true_eq_false, Bool.false_eq_true, if_false, if_true, decide_eq_true_eq]
  repeat' split
  all_goals first | rfl | omega | (simp_all; done) | (simp_all; omega)
theorem chk_v5 (c : Cm) (hv : c.verb = 5) (ho : c = onlyC c) : chk c = if c.id = zI then 1 else 0 := by
  rw [chk_only c (by omega) (by omega), if_pos ho, show (formC c).2.1 = 2 by (unfold formC; rw [hv]; rfl), show (formC c).2.2 = 0 by (unfold formC; rw [hv]; rfl)]
  unfold chkR rgs
  simp only [List.all_cons, List.all_nil, okR, isEd, ← hasB_cr, show bits BinOp.and .i64 2 1 = 0 from by decide, show bits BinOp.and .i64 2 2 = 2 from by decide, show bits BinOp.and .i64 2 4 = 0 from by decide, show bits BinOp.and .i64 2 8 = 0 from by decide, show bits BinOp.and .i64 2 16 = 0 from by decide, show bits BinOp.and .i64 2 32 = 0 from by decide, show bits BinOp.and .i64 2 64 = 0 from by decide]
  simp only [show ((0 : Int) != 0) = false from rfl, show ((0 : Int) == 0) = true from rfl, show ((2 : Int) != 0) = true from by decide, Bool.true_and, Bool.false_and, Bool.true_or, Bool.and_true, Bool.true_eq_false, Bool.false_eq_true, if_false, if_true, decide_eq_true_eq]
  repeat' split
  all_goals first | rfl | omega | (simp_all; done) | (simp_all; omega)
theorem chk_v6 (c : Cm) (hv : c.verb = 6) (ho : c = onlyC c) : chk c = if c.id = zI then 1 else if c.code < 1 ∨ 99 < c.code then 2 else 0 := by
  rw [chk_only c (by omega) (by omega), if_pos ho, show (formC c).2.1 = 34 by (unfold formC; rw [hv]; rfl), show (formC c).2.2 = 0 by (unfold formC; rw [hv]; rfl)]
  unfold chkR rgs
  simp only [List.all_cons, List.all_nil, okR, isEd, ← hasB_cr, show bits BinOp.and .i64 34 1 = 0 from by decide, show bits BinOp.and .i64 34 2 = 2 from by decide, show bits BinOp.and .i64 34 4 = 0 from by decide, show bits BinOp.and .i64 34 8 = 0 from by decide, show bits BinOp.and .i64 34 16 = 0 from by decide, show bits BinOp.and .i64 34 32 = 32 from by decide, show bits BinOp.and .i64 34 64 = 0 from by decide]
  simp only [show ((0 : Int) != 0) = false from rfl, show ((0 : Int) == 0) = true from rfl, show ((2 : Int) != 0) = true from by decide, show ((32 : Int) == 0) = false from by decide, Bool.true_and, Bool.false_and, Bool.true_or, Bool.false_or, Bool.and_true, Bool.false_eq_true, if_false, if_true, Bool.and_eq_false_iff, decide_eq_true_eq, decide_eq_false_iff_not, Int.not_le]
  repeat' split
  all_goals first | rfl | omega | (simp_all; done) | (simp_all; omega)
theorem chk_v7 (c : Cm) (hv : c.verb = 7) (ho : c = onlyC c) : chk c = if c.id = zI then 1 else if c.from_ < 0 ∨ 65536 < c.from_ then 2 else if c.text = ⟨#[]⟩ then 1 else if 4096 < c.text.size then 5 else if hasB c.text 13 = true then 6 else 0 := by
  rw [chk_only c (by omega) (by omega), if_pos ho, show (formC c).2.1 = 74 by (unfold formC; rw [hv]; rfl), show (formC c).2.2 = 4096 by (unfold formC; rw [hv]; rfl)]
  unfold chkR rgs
  simp only [List.all_cons, List.all_nil, okR, isEd, ← hasB_cr, show bits BinOp.and .i64 74 1 = 0 from by decide, show bits BinOp.and .i64 74 2 = 2 from by decide, show bits BinOp.and .i64 74 4 = 0 from by decide, show bits BinOp.and .i64 74 8 = 8 from by decide, show bits BinOp.and .i64 74 16 = 0 from by decide, show bits BinOp.and .i64 74 32 = 0 from by decide, show bits BinOp.and .i64 74 64 = 64 from by decide]
  simp only [show ((0 : Int) != 0) = false from rfl, show ((0 : Int) == 0) = true from rfl, show ((2 : Int) != 0) = true from by decide, show ((8 : Int) == 0) = false from by decide, show ((64 : Int) == 0) = false from by decide, Bool.true_and, Bool.false_and, Bool.true_or, Bool.false_or, Bool.and_true, Bool.false_eq_true, if_false, Bool.and_eq_false_iff, decide_eq_true_eq, decide_eq_false_iff_not, Int.not_le]
  repeat' split
  all_goals first | rfl | omega | (simp_all; done) | (simp_all; omega)
theorem chk_v8 (c : Cm) (hv : c.verb = 8) (ho : c = onlyC c) : chk c = if c.id = zI then 1 else 0 := by
  rw [chk_only c (by omega) (by omega), if_pos ho, show (formC c).2.1 = 2 by (unfold formC; rw [hv]; rfl), show (formC c).2.2 = 0 by (unfold formC; rw [hv]; rfl)]
  unfold chkR rgs
  simp only [List.all_cons, List.all_nil, okR, isEd, ← hasB_cr, show bits BinOp.and .i64 2 1 = 0 from by decide, show bits BinOp.and .i64 2 2 = 2 from by decide, show bits BinOp.and .i64 2 4 = 0 from by decide, show bits BinOp.and .i64 2 8 = 0 from by decide, show bits BinOp.and .i64 2 16 = 0 from by decide, show bits BinOp.and .i64 2 32 = 0 from by decide, show bits BinOp.and .i64 2 64 = 0 from by decide]
  simp only [show ((0 : Int) != 0) = false from rfl, show ((0 : Int) == 0) = true from rfl, show ((2 : Int) != 0) = true from by decide, Bool.true_and, Bool.false_and, Bool.true_or, Bool.and_true, Bool.true_eq_false, Bool.false_eq_true, if_false, if_true, decide_eq_true_eq]
  repeat' split
  all_goals first | rfl | omega | (simp_all; done) | (simp_all; omega)
theorem chk_v9 (c : Cm) (hv : c.verb = 9) (ho : c = onlyC c) : chk c = if c.id = zI then 1 else 0 := by
  rw [chk_only c (by omega) (by omega), if_pos ho, show (formC c).2.1 = 2 by (unfold formC; rw [hv]; rfl), show (formC c).2.2 = 0 by (unfold formC; rw [hv]; rfl)]
  unfold chkR rgs
  simp only [List.all_cons, List.all_nil, okR, isEd, ← hasB_cr, show bits BinOp.and .i64 2 1 = 0 from by decide, show bits BinOp.and .i64 2 2 = 2 from by decide, show bits BinOp.and .i64 2 4 = 0 from by decide, show bits BinOp.and .i64 2 8 = 0 from by decide, show bits BinOp.and .i64 2 16 = 0 from by decide, show bits BinOp.and .i64 2 32 = 0 from by decide, show bits BinOp.and .i64 2 64 = 0 from by decide]
  simp only [show ((0 : Int) != 0) = false from rfl, show ((0 : Int) == 0) = true from rfl, show ((2 : Int) != 0) = true from by decide, Bool.true_and, Bool.false_and, Bool.true_or, Bool.and_true, Bool.true_eq_false, Bool.false_eq_true, if_false, if_true, decide_eq_true_eq]
  repeat' split
  all_goals first | rfl | omega | (simp_all; done) | (simp_all; omega)
theorem chk_v10 (c : Cm) (hv : c.verb = 10) (ho : c = onlyC c) : chk c = if c.text = ⟨#[]⟩ then 1 else if 262144 < c.text.size then 5 else if hasB c.text 13 = true then 6 else 0 := by
  rw [chk_only c (by omega) (by omega), if_pos ho, show (formC c).2.1 = 64 by (unfold formC; rw [hv]; rfl), show (formC c).2.2 = 262144 by (unfold formC; rw [hv]; rfl)]
  unfold chkR rgs
  simp only [List.all_cons, List.all_nil, okR, isEd, ← hasB_cr, show bits BinOp.and .i64 64 1 = 0 from by decide, show bits BinOp.and .i64 64 2 = 0 from by decide, show bits BinOp.and .i64 64 4 = 0 from by decide, show bits BinOp.and .i64 64 8 = 0 from by decide, show bits BinOp.and .i64 64 16 = 0 from by decide, show bits BinOp.and .i64 64 32 = 0 from by decide, show bits BinOp.and .i64 64 64 = 64 from by decide]
  simp only [show ((0 : Int) != 0) = false from rfl, show ((0 : Int) == 0) = true from rfl, show ((64 : Int) == 0) = false from by decide, Bool.false_and, Bool.true_or, Bool.and_true, Bool.true_eq_false, Bool.false_eq_true, if_false, decide_eq_true_eq]
  repeat' split
  all_goals first | rfl | omega | (simp_all; done) | (simp_all; omega)
theorem chk_v11 (c : Cm) (hv : c.verb = 11) (ho : c = onlyC c) : chk c = 0 := by
  rw [chk_only c (by omega) (by omega), if_pos ho, show (formC c).2.1 = 0 by (unfold formC; rw [hv]; rfl), show (formC c).2.2 = 0 by (unfold formC; rw [hv]; rfl)]
  unfold chkR rgs
  simp only [List.all_cons, List.all_nil, okR, isEd, ← hasB_cr, show bits BinOp.and .i64 0 1 = 0 from by decide, show bits BinOp.and .i64 0 2 = 0 from by decide, show bits BinOp.and .i64 0 4 = 0 from by decide, show bits BinOp.and .i64 0 8 = 0 from by decide, show bits BinOp.and .i64 0 16 = 0 from by decide, show bits BinOp.and .i64 0 32 = 0 from by decide, show bits BinOp.and .i64 0 64 = 0 from by decide]
  simp only [show ((0 : Int) != 0) = false from rfl, show ((0 : Int) == 0) = true from rfl, Bool.false_and, Bool.true_or, Bool.and_true, Bool.true_eq_false, Bool.false_eq_true, if_false, if_true, decide_eq_true_eq]
  repeat' split
  all_goals first | rfl | omega | (simp_all; done) | (simp_all; omega)
end
end Go.Proofs.YtfbpipknhghneaaGreatDoor
