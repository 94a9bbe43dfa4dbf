/- Bytes written to a Hash: (*sha256.Hash).Write. -/
import Derived.Test.YtecalodcbkljoaaGreatDoorMHsh
namespace Go.Proofs.YtecalodcbkljoaaGreatDoor
open Go.RowKit
theorem new_hash (w : World) : Calls Tryz.prog 96 #[] w fun e w' => e = .returned (.pointer (some ⟨w.heap.size, 0, none⟩)) ∧ w' = w.alloc (.cells (aS zS) 158) := by
  go_enter Tryz.func96, Tryz.ntmps96
  go_wp2
  go_ret
  exact ⟨rfl, rfl⟩
/-- copy, kept closed. -/
def cpA (ts : Array TypeId) (ty : TypeId) (args : Array Value) : Sem Value := Builtin.copy_ ts ty args
@[go_sem ↓] theorem copy_cpA (ts : Array TypeId) (ty : TypeId) (args : Array Value) : Builtin.copy_ ts ty args = cpA ts ty args := rfl
def slN : Value → Nat
  | .slice _ n _ => n
  | _ => 0
theorem One.sets {w : World} (g k : Nat) (ds : List Value) : One g w (w.setCells g k ds) := One.stD k ds
/-- A slice outside the block that is written. -/
def OutG (g : Nat) (A : Option Addr) (ms : List UInt8) : Prop := ∀ ad, A = some ad → ms ≠ [] → ad.block ≠ g
theorem At.one {w w' : World} {ad : Addr} {cs : List Value} {g : Nat} (h : At w ad cs) (ho : One g w w') (hg : ad.block ≠ g) : At w' ad cs := by
  refine ⟨Nat.lt_of_lt_of_le h.1 ho.size, fun j u hu => ?_⟩
  rw [← h.2 j u hu]
  have hb : (ad.add j).block = ad.block := block_of_add ad j
  unfold World.cell?
  rw [hb, ho.out ad.block h.1 hg]
theorem Sl.one {w w' : World} {A : Option Addr} {ms : List UInt8} {g : Nat} (h : Sl w c1 A ms) (ho : One g w w') (hg : OutG g A ms) : Sl w' c1 A ms := by
  intro hne
  obtain ⟨ad, rfl, hat⟩ := h hne
  exact ⟨ad, rfl, hat.one ho (hg ad rfl hne)⟩
theorem KAt.one {w w' : World} {g : Nat} (h : KAt w) (ho : One g w w') (hg : g ≠ 1) : KAt w' := by
  refine ⟨Nat.lt_of_lt_of_le h.1 ho.size, fun t ht => ?_⟩
  rw [← h.2 t ht]
  unfold World.cell?
  rw [ho.out _ h.1 (fun e => hg e.symm)]
theorem OutG.cut {g : Nat} {A : Option Addr} {ms : List UInt8} (h : OutG g A ms) (c k : Nat) (hc : ms.length ≤ c) : OutG g (if c = k then A else A.map (·.add (k * 1))) (ms.drop k) := by
  intro ad ha hne
  have hk : k < ms.length := by
    rcases Nat.lt_or_ge k ms.length with h | h
    · exact h
    · rw [List.drop_eq_nil_of_le h] at hne; exact absurd rfl hne
  rw [if_neg (by omega)] at ha
  cases A with
  | none => cases ha
  | some a0 =>
    simp only [Option.map_some, Option.some.injEq] at ha
    subst ha
    rw [block_of_add]
    exact h a0 rfl (by intro e; rw [e] at hk; simp at hk)
theorem slice_b64 (g r : Nat) (hr : r < 64) (w : World) : (Instr.sliceAt 136 (.pointer (some ⟨g, 8, none⟩)) (some (.int .i64 (r : Int))) none none).run Tryz.prog w = .ok (.slice (some ⟨g, 8 + r, none⟩) (64 - r) (64 - r)) w := by
  have hn : Tryz.prog.arrayLen 136 = 64 := by kernel_rfl
  have he : Tryz.prog.elem 136 = 5 := by kernel_rfl
  rw [run_sliceAt_array_l (P := Tryz.prog) w 136 ⟨g, 8, none⟩ (by rw [hn, he]; exact Tryz.underlying136) .i64 (r : Int) (by omega) (by rw [hn]; omega), hn, he]
  have hs : (sizeOf 5).run Tryz.prog w = .ok 1 w := by kernel_rfl
  rw [hs]
  simp only [Result.andThen_ok, slicedAt, Int.toNat_natCast]
  rw [if_neg (by omega), add_off, Nat.mul_one]
theorem slice_bs (A : Option Addr) (n c m : Nat) (h : m ≤ n) (w : World) : (Instr.slice 47 (.slice A n c) (some (.int .i64 (m : Int))) none none).run Tryz.prog w = .ok (.slice (if c = m then A else A.map (·.add (m * 1))) (n - m) (c - m)) w := by
  have he : Tryz.prog.elem 47 = 5 := by kernel_rfl
  rw [run_slice_l (P := Tryz.prog) w 47 A n c (by rw [he]; exact underBs) .i64 (m : Int) (by omega) (by omega), he]
  have hs : (sizeOf 5).run Tryz.prog w = .ok 1 w := by kernel_rfl
  rw [hs]
  simp only [Result.andThen_ok, sliced, Int.toNat_natCast]
/-- What Write's loop holds: l is written, ms is left. -/
def WrI (w : World) (g : Nat) (all l ms : List UInt8) (A : Option Addr) (c : Nat) (x : Hs) (wr : World) : Prop :=
  One g w wr ∧ Row wr g (cS x) 158 ∧ Sl wr c1 A ms ∧ HsOk l x ∧ l ++ ms = all ∧ OutG g A ms ∧ ms.length ≤ c
set_option maxRecDepth 100000 in
set_option maxHeartbeats 6400000 in
theorem write_h (g : Nat) (x : Hs) (l ms : List UInt8) (A : Option Addr) (c : Nat) (w : World) (hK : KAt w) (hg : g ≠ 1) (hrow : Row w g (cS x) 158) (hx : HsW l x) (hsl : Sl w c1 A ms) (hA : OutG g A ms) (hc : ms.length ≤ c) (hlen : l.length + ms.length ≤ 4611686018427387904) :
    Calls Tryz.prog 97 #[.pointer (some ⟨g, 0, none⟩), .slice A ms.length c] w fun e w' => e = .returned (.int .i64 0) ∧ One g w w' ∧ ∃ x', Row w' g (cS x') 158 ∧ HsOk (l ++ ms) x' := by
  have c72 : w.cell? ⟨g, 72, none⟩ = some (.int .i64 (l.length : Int)) := by rw [hrow.cell, cS_72, hx.len]
  obtain ⟨all, hall⟩ : ∃ all, l ++ ms = all := ⟨_, rfl⟩
  have HKK := Lib.hid (And.intro hK hg)
  have HL0 := Lib.hid (show all.length ≤ 4611686018427387904 by rw [← hall, List.length_append]; exact hlen)
  clear hK hg hlen
  by_cases hl : l = []
  case' pos =>
    subst hl
    have HW0 := Lib.hid (And.intro hrow (And.intro hx (And.intro hsl (And.intro hA (And.intro hc hall)))))
    rw [hall]
    clear hrow hx hsl hA hc hall
    go_enter Tryz.func97, Tryz.ntmps97
    go_wp2_with (go_at_call 104; refine (initial_v _).mono ?_; rintro e w1 ⟨rfl, hb1⟩; have no := rowS_no (HW0.out.1.keep hb1); obtain ⟨y1, y2⟩ := rowS_store (HW0.out.1.keep hb1) iniV; have HI := Lib.hid (show WrI w g all [] ms A c { x with st := iniV } (stD w1 g 0 (cV iniV)) from ⟨(One.of_below hb1).trans (One.stD 0 _), y2, (HW0.out.2.2.1.keep hb1).one (One.stD 0 _) HW0.out.2.2.2.1, HW0.out.2.1.ini, HW0.out.2.2.2.2.2, HW0.out.2.2.2.1, HW0.out.2.2.2.2.1⟩); clear hb1 y2)
    try clear c72
    try clear y1
    try clear no
  case' neg =>
    have HI := Lib.hid (show WrI w g all l ms A c x w from ⟨One.refl, hrow, hsl, hx.ok hl, hall, hA, hc⟩)
    have hl0 : ((l.length : Int) == 0) = false := by
      have : l.length ≠ 0 := fun e => hl (List.eq_nil_of_length_eq_zero e)
      simp
      exact hl
    rw [hall]
    clear hrow hx hsl hA hc hall
    go_enter Tryz.func97, Tryz.ntmps97
    go_wp2
    clear c72 hl0
  all_goals
    go_loopw [1] (fun v wr => ∃ (l' ms' : List UInt8) (A' : Option Addr) (c' : Nat) (x' : Hs), v = .slice A' ms'.length c' ∧ WrI w g all l' ms' A' c' x' wr) (fun v _ => slN v)
    case atStart => exact ⟨_, _, _, _, _, rfl, HI.out⟩
    clear HI
    case round =>
      obtain ⟨l, ms, A, c, x, rfl, hi⟩ := hrel
      have HO := Lib.hid hi.1
      have HX := Lib.hid (show Row wr g (cS x) 158 ∧ Sl wr c1 A ms ∧ HsOk l x from ⟨hi.2.1, hi.2.2.1, hi.2.2.2.1⟩)
      have HAL := Lib.hid hi.2.2.2.2.1
      have HAG := Lib.hid hi.2.2.2.2.2.1
      have HCC := Lib.hid hi.2.2.2.2.2.2
      clear hi
      by_cases hm0 : ms = []
      · subst hm0
        have HF := Lib.hid (show One g w wr ∧ ∃ x', Row wr g (cS x') 158 ∧ HsOk all x' from ⟨HO.out, x, HX.out.1, by rw [← HAL.out, List.append_nil]; exact HX.out.2.2⟩)
        have e0 : ([] : List UInt8).length = 0 := rfl
        go_wp2
        go_ret
        exact ⟨rfl, HF.out.1, HF.out.2⟩
      have HNE := Lib.hid hm0
      have hml : (0 : Int) < (ms.length : Int) := by
        have : ms.length ≠ 0 := fun e => hm0 (List.eq_nil_of_length_eq_zero e)
        omega
      obtain ⟨r, hr⟩ : ∃ r, l.length % 64 = r := ⟨_, rfl⟩
      have HC := Lib.hid (And.intro (show (l.length : Int).tmod 64 = (r : Int) by rw [Int.tmod_eq_emod_of_nonneg (by omega)]; omega) (And.intro (show r < 64 by omega) (show (l.length : Int) % 64 = (r : Int) by omega)))
      have HRR := Lib.hid hr
      have HLL := Lib.hid (show l.length + ms.length ≤ 4611686018427387904 by rw [← List.length_append, HAL.out]; exact HL0.out)
      clear hm0 hr
      go_wp2
      refine AnyO.wp_any_tail 10 (by kernel_rfl) (by kernel_rfl) (by kernel_rfl) (by kernel_rfl) (by kernel_rfl) (by kernel_rfl) (pstP [isV (.pointer (some ⟨g, 0, none⟩)), isV (.pointer (some ⟨g, 0, none⟩)), isV (.pointer (some ⟨g, 8, none⟩)), isV (.pointer (some ⟨g, 0, none⟩)), isV (.pointer (some ⟨g, 0, none⟩)), isV (.pointer (some ⟨g, 72, none⟩)), isV (.int .i64 (l.length : Int)), isV (.int .i64 (r : Int)), isV (.slice (some ⟨g, 8 + r, none⟩) (64 - r) (64 - r)), isV (.slice A ms.length c)]) (MonoL.cons (Mono.v _) (MonoL.cons (Mono.v _) (MonoL.cons (Mono.v _) (MonoL.cons (Mono.v _) (MonoL.cons (Mono.v _) (MonoL.cons (Mono.v _) (MonoL.cons (Mono.v _) (MonoL.cons (Mono.v _) (MonoL.cons (Mono.v _) (MonoL.cons (Mono.v _) MonoL.nil)))))))))) ?_ ?_
      · intro i hi
        have hi2 : i = 0 ∨ i = 1 ∨ i = 2 ∨ i = 3 ∨ i = 4 ∨ i = 5 ∨ i = 6 ∨ i = 7 ∨ i = 8 ∨ i = 9 := by omega
        clear hi
        rcases hi2 with rfl | rfl | rfl | rfl | rfl | rfl | rfl | rfl | rfl | rfl
        · -- 0: Op.move (Operand.tmp 0)
          refine AnyO.Step.mk rfl [] (by kernel_rfl) ?_
          intro vs u hE hp ac hb K hK
          have s0 : ac.tmps[0]?.getD undef = .pointer (some ⟨g, 0, none⟩) := by rw [hb]; kernel_rfl
          rw [if_pos (AnyO.wanted_none rfl)]
          clear hb hp
          go_simp
          exact hK _ _ (Below.refl _ _) rfl
        · -- 1: Op.nilCheck (Operand.tmp 20)
          refine AnyO.Step.mk rfl [0] (by kernel_rfl) ?_
          intro vs u hE hp ac hb K hK
          have s20 : ac.tmps[20]?.getD undef = .pointer (some ⟨g, 0, none⟩) := by rw [hb]; exact (show _ = vs 0 by kernel_rfl).trans (hp 0 (by decide))
          rw [if_pos (AnyO.wanted_none rfl)]
          clear hb hp
          go_simp
          exact hK _ _ (Below.refl _ _) rfl
        · -- 2: Op.fieldAddr 158 (Operand.tmp 21) 1
          refine AnyO.Step.mk rfl [1] (by kernel_rfl) ?_
          intro vs u hE hp ac hb K hK
          have s21 : ac.tmps[21]?.getD undef = .pointer (some ⟨g, 0, none⟩) := by rw [hb]; exact (show _ = vs 1 by kernel_rfl).trans (hp 1 (by decide))
          rw [if_pos (AnyO.wanted_none rfl)]
          clear hb hp
          go_simp
          exact hK _ _ (Below.refl _ _) rfl
        · -- 3: Op.move (Operand.tmp 0)
          refine AnyO.Step.mk rfl [] (by kernel_rfl) ?_
          intro vs u hE hp ac hb K hK
          have s0 : ac.tmps[0]?.getD undef = .pointer (some ⟨g, 0, none⟩) := by rw [hb]; kernel_rfl
          rw [if_pos (AnyO.wanted_none rfl)]
          clear hb hp
          go_simp
          exact hK _ _ (Below.refl _ _) rfl
        · -- 4: Op.nilCheck (Operand.tmp 23)
          refine AnyO.Step.mk rfl [3] (by kernel_rfl) ?_
          intro vs u hE hp ac hb K hK
          have s23 : ac.tmps[23]?.getD undef = .pointer (some ⟨g, 0, none⟩) := by rw [hb]; exact (show _ = vs 3 by kernel_rfl).trans (hp 3 (by decide))
          rw [if_pos (AnyO.wanted_none rfl)]
          clear hb hp
          go_simp
          exact hK _ _ (Below.refl _ _) rfl
        · -- 5: Op.fieldAddr 158 (Operand.tmp 24) 2
          refine AnyO.Step.mk rfl [4] (by kernel_rfl) ?_
          intro vs u hE hp ac hb K hK
          have s24 : ac.tmps[24]?.getD undef = .pointer (some ⟨g, 0, none⟩) := by rw [hb]; exact (show _ = vs 4 by kernel_rfl).trans (hp 4 (by decide))
          rw [if_pos (AnyO.wanted_none rfl)]
          clear hb hp
          go_simp
          exact hK _ _ (Below.refl _ _) rfl
        · -- 6: Op.load 3 (Operand.tmp 25)
          refine AnyO.Step.mk rfl [5] (by kernel_rfl) ?_
          intro vs u hE hp ac hb K hK
          have s25 : ac.tmps[25]?.getD undef = .pointer (some ⟨g, 72, none⟩) := by rw [hb]; exact (show _ = vs 5 by kernel_rfl).trans (hp 5 (by decide))
          rw [if_pos (AnyO.wanted_none rfl)]
          clear hb hp
          have x1 : u.cell? ⟨g, 72, none⟩ = some (.int .i64 (l.length : Int)) := by rw [(HX.out.1.keep (Below.step (below_drew _) hE)).cell, cS_72, HX.out.2.2.len]
          go_simp
          exact hK _ _ (Below.refl _ _) rfl
        · -- 7: Op.binOp BinOp.rem 3 (Operand.tmp 26) (Operand.const (Value.
          refine AnyO.Step.mk rfl [6] (by kernel_rfl) ?_
          intro vs u hE hp ac hb K hK
          have s26 : ac.tmps[26]?.getD undef = .int .i64 (l.length : Int) := by rw [hb]; exact (show _ = vs 6 by kernel_rfl).trans (hp 6 (by decide))
          rw [if_pos (AnyO.wanted_none rfl)]
          clear hb hp
          have x1 := HC.out.1
          go_simp
          exact hK _ _ (Below.refl _ _) rfl
        · -- 8: Op.slice 136 (Operand.tmp 22) (some (Operand.tmp 27)) none n
          refine AnyO.Step.mk rfl [2, 7] (by kernel_rfl) ?_
          intro vs u hE hp ac hb K hK
          have s22 : ac.tmps[22]?.getD undef = .pointer (some ⟨g, 8, none⟩) := by rw [hb]; exact (show _ = vs 2 by kernel_rfl).trans (hp 2 (by decide))
          have s27 : ac.tmps[27]?.getD undef = .int .i64 (r : Int) := by rw [hb]; exact (show _ = vs 7 by kernel_rfl).trans (hp 7 (by decide))
          rw [if_pos (AnyO.wanted_none rfl)]
          clear hb hp
          have x1 := slice_b64 g r HC.out.2.1
          go_simp
          exact hK _ _ (Below.refl _ _) rfl
        · -- 9: Op.move (Operand.tmp 1)
          refine AnyO.Step.mk rfl [] (by kernel_rfl) ?_
          intro vs u hE hp ac hb K hK
          have s1 : ac.tmps[1]?.getD undef = .slice A ms.length c := by rw [hb]; kernel_rfl
          rw [if_pos (AnyO.wanted_none rfl)]
          clear hb hp
          go_simp
          exact hK _ _ (Below.refl _ _) rfl
      · intro vs u hE hp
        have e0 : vs 0 = .pointer (some ⟨g, 0, none⟩) := hp 0 (by decide)
        have e1 : vs 1 = .pointer (some ⟨g, 0, none⟩) := hp 1 (by decide)
        have e2 : vs 2 = .pointer (some ⟨g, 8, none⟩) := hp 2 (by decide)
        have e3 : vs 3 = .pointer (some ⟨g, 0, none⟩) := hp 3 (by decide)
        have e4 : vs 4 = .pointer (some ⟨g, 0, none⟩) := hp 4 (by decide)
        have e5 : vs 5 = .pointer (some ⟨g, 72, none⟩) := hp 5 (by decide)
        have e6 : vs 6 = .int .i64 (l.length : Int) := hp 6 (by decide)
        have e7 : vs 7 = .int .i64 (r : Int) := hp 7 (by decide)
        have e8 : vs 8 = .slice (some ⟨g, 8 + r, none⟩) (64 - r) (64 - r) := hp 8 (by decide)
        have e9 : vs 9 = .slice A ms.length c := hp 9 (by decide)
        clear hp
        have HE := Lib.hid hE; clear hE
        rw [puts_range [some 20, some 21, some 22, some 23, some 24, some 25, some 26, some 27, some 28, some 29] (by kernel_rfl)]
        simp only [putL, Nat.reduceAdd, List.drop_succ_cons, List.drop_zero, e0, e1, e2, e3, e4, e5, e6, e7, e8, e9]
        clear e0 e1 e2 e3 e4 e5 e6 e7 e8 e9
        go_simp
        have HY := Lib.hid (rowS_copy (HX.out.1.keep HE.out) r (n := ms.length) (c := c) rfl (HX.out.2.1.keep HE.out) HNE.out HC.out.2.1)
        have HO2 := Lib.hid (HO.out.trans ((One.of_below HE.out).trans (One.sets g (8 + r) ((ms.take (64 - r)).map cB))))
        have HS2 := Lib.hid ((HX.out.2.1.keep HE.out).one (One.sets g (8 + r) ((ms.take (64 - r)).map cB)) HAG.out)
        have y1 := HY.out.1
        rw [copy_cpA] at y1
        obtain ⟨W2, hW2⟩ : ∃ W2, u.setCells g (8 + r) ((ms.take (64 - r)).map cB) = W2 := ⟨_, rfl⟩
        rw [hW2] at y1 HO2 HS2
        have HR2 := Lib.hid HY.out.2
        rw [hW2] at HR2
        have c72 : W2.cell? ⟨g, 72, none⟩ = some (.int .i64 (l.length : Int)) := by rw [HR2.out.cell, cS_72]; exact congrArg (fun n => some (Value.int .i64 n)) HX.out.2.2.len
        have z72 : W2.frozen? ⟨g, 72, none⟩ = false := HR2.out.fz _
        clear HY hW2 HE
        obtain ⟨m, hm⟩ : ∃ m, min ms.length (64 - r) = m := ⟨_, rfl⟩
        rw [hm] at y1
        have m1 : m ≤ ms.length := by omega
        have m2 : m ≤ c := by have := HCC.out; omega
        have m3 : (m : Int) ≤ (ms.length : Int) := by omega
        have m4 : (m : Int) ≤ (c : Int) := by omega
        have m5 : IntKind.i64.wrap ((l.length : Int) + (m : Int)) = (l.length : Int) + (m : Int) := IntWalk.i64_in _ (by have := HLL.out; omega)
        have HM := Lib.hid hm
        obtain ⟨q, hq⟩ : ∃ q, (r + m) % 64 = q := ⟨_, rfl⟩
        have m6 : ((l.length : Int) + (m : Int)) % 64 = (q : Int) := by have := HC.out.2.2; omega
        have HQQ := Lib.hid hq
        clear hq
        clear hm
        obtain ⟨A2, hA2⟩ : ∃ A2, (if c = m then A else A.map (·.add (m * 1))) = A2 := ⟨_, rfl⟩
        obtain ⟨SL, hSL⟩ : ∃ S, Instr.slice 47 (.slice A ms.length c) (some (.int .i64 (m : Int))) none none = S := ⟨_, rfl⟩
        have y2 : SL.run Tryz.prog W2 = .ok (.slice A2 (ms.length - m) (c - m)) W2 := by rw [← hSL, ← hA2]; exact slice_bs A ms.length c m m1 W2
        have HS3 := Lib.hid (show Sl W2 c1 A2 (ms.drop m) ∧ OutG g A2 (ms.drop m) from by rw [← hA2]; exact ⟨HS2.out.cut c1_length HCC.out, HAG.out.cut c m HCC.out⟩)
        clear hA2
        obtain ⟨W3, hW3⟩ : ∃ W3, W2.setCell ⟨g, 72, none⟩ (.int .i64 ((l.length : Int) + (m : Int))) = W3 := ⟨_, rfl⟩
        have d72 : W3.cell? ⟨g, 72, none⟩ = some (.int .i64 ((l.length : Int) + (m : Int))) := by
          rw [← hW3, (HR2.out.set 72 _).cell, List.getElem?_set_self (by rw [cS_length]; omega)]
        have hld : (ms.drop m).length = ms.length - m := by rw [List.length_drop]
        have hcc2 : (ms.drop m).length ≤ c - m := by have := HCC.out; omega
        have hO3 : One g w W3 := HO2.out.trans (by rw [← hW3]; exact One.set _ _)
        have hS3 : Sl W3 c1 A2 (ms.drop m) := HS3.out.1.one (by rw [← hW3]; exact One.set _ _) HS3.out.2
        have hR3 := HR2.out.set 72 (.int .i64 ((l.length : Int) + (m : Int)))
        rw [hW3, cS_len] at hR3
        by_cases hq0 : q = 0
        · have hqz : ((q : Int) == 0) = true := by simp [hq0]
          have hm64 : r + (ms.take (64 - r)).length = 64 := by
            have h1 := HQQ.out; have h2 := HM.out; have h3 := HC.out.2.1; have h4 := HNE.out
            have h5 : ms.length ≠ 0 := fun e => h4 (List.eq_nil_of_length_eq_zero e)
            rw [List.length_take]
            omega
          have hfull := HsOk.full HX.out.2.2 (ys := ms.take (64 - r)) (by rw [HRR.out]; exact hm64)
          have hmm : ms.take (64 - r) = ms.take m := by rw [← HM.out, List.take_eq_take_iff]; omega
          have hal : (l ++ ms.take (64 - r)) ++ ms.drop m = all := by rw [hmm, List.append_assoc, List.take_append_drop]; exact HAL.out
          have hlm : ((l ++ ms.take (64 - r)).length : Int) = (l.length : Int) + (m : Int) := by
            have h1 := HM.out
            rw [List.length_append, List.length_take]
            omega
          obtain ⟨x3, hx3⟩ : ∃ x3 : Hs, x3 = { x with bk := bkPut x.bk r (ms.take (64 - r)) (by rw [hm64]; exact Nat.le_refl _), len := (l.length : Int) + (m : Int) } := ⟨_, rfl⟩
          have HX3 := Lib.hid (show Row W3 g (cS x3) 158 by rw [hx3]; exact hR3)
          have HN3 := Lib.hid (show ∀ wn, One g W3 wn → Row wn g (cS { x3 with st := proc x3.st (mW (blkW x3.bk)) }) 158 → WrI w g all (l ++ ms.take (64 - r)) (ms.drop m) A2 (c - m) { x3 with st := proc x3.st (mW (blkW x3.bk)) } wn from fun wn h1 h2 => ⟨hO3.trans h1, h2, hS3.one h1 HS3.out.2, by
              rw [hx3]
              have h3 := hfull
              simp only [HRR.out, hlm] at h3
              exact h3, hal, HS3.out.2, hcc2⟩)
          have HK3 := Lib.hid (show KAt W3 from HKK.out.1.one hO3 HKK.out.2)
          have HHL := Lib.hid hld
          clear hx3 hR3 hq0 hm64 hfull hmm hal hlm hO3 hS3 hcc2 hld HS2 HS3
          go_wp2
          refine AnyO.wp_any_tail 11 (by kernel_rfl) (by kernel_rfl) (by kernel_rfl) (by kernel_rfl) (by kernel_rfl) (by kernel_rfl) (pstP [isV (.pointer (some ⟨g, 0, none⟩)), isV (.pointer (some ⟨g, 0, none⟩)), isV (.pointer (some ⟨g, 0, none⟩)), isV (.pointer (some ⟨g, 0, none⟩)), isV (vV x3.st), isV (.pointer (some ⟨g, 0, none⟩)), isV (.pointer (some ⟨g, 0, none⟩)), isV (.pointer (some ⟨g, 8, none⟩)), isV (vB64 x3.bk), isV (vM (blkW x3.bk)), isV (vV (proc x3.st (mW (blkW x3.bk))))]) (MonoL.cons (Mono.v _) (MonoL.cons (Mono.v _) (MonoL.cons (Mono.v _) (MonoL.cons (Mono.v _) (MonoL.cons (Mono.v _) (MonoL.cons (Mono.v _) (MonoL.cons (Mono.v _) (MonoL.cons (Mono.v _) (MonoL.cons (Mono.v _) (MonoL.cons (Mono.v _) (MonoL.cons (Mono.v _) MonoL.nil))))))))))) ?_ ?_
          · intro i hi
            have hi2 : i = 0 ∨ i = 1 ∨ i = 2 ∨ i = 3 ∨ i = 4 ∨ i = 5 ∨ i = 6 ∨ i = 7 ∨ i = 8 ∨ i = 9 ∨ i = 10 := by omega
            clear hi
            rcases hi2 with rfl | rfl | rfl | rfl | rfl | rfl | rfl | rfl | rfl | rfl | rfl
            · -- 0: Op.move (Operand.tmp 0)
              refine AnyO.Step.mk rfl [] (by kernel_rfl) ?_
              intro vs u hE hp ac hb K hK
              have s0 : ac.tmps[0]?.getD undef = .pointer (some ⟨g, 0, none⟩) := by rw [hb]; kernel_rfl
              rw [if_pos (AnyO.wanted_none rfl)]
              clear hb hp
              go_simp
              exact hK _ _ (Below.refl _ _) rfl
            · -- 1: Op.move (Operand.tmp 0)
              refine AnyO.Step.mk rfl [] (by kernel_rfl) ?_
              intro vs u hE hp ac hb K hK
              have s0 : ac.tmps[0]?.getD undef = .pointer (some ⟨g, 0, none⟩) := by rw [hb]; kernel_rfl
              rw [if_pos (AnyO.wanted_none rfl)]
              clear hb hp
              go_simp
              exact hK _ _ (Below.refl _ _) rfl
            · -- 2: Op.nilCheck (Operand.tmp 49)
              refine AnyO.Step.mk rfl [1] (by kernel_rfl) ?_
              intro vs u hE hp ac hb K hK
              have s49 : ac.tmps[49]?.getD undef = .pointer (some ⟨g, 0, none⟩) := by rw [hb]; exact (show _ = vs 1 by kernel_rfl).trans (hp 1 (by decide))
              rw [if_pos (AnyO.wanted_none rfl)]
              clear hb hp
              go_simp
              exact hK _ _ (Below.refl _ _) rfl
            · -- 3: Op.fieldAddr 158 (Operand.tmp 50) 0
              refine AnyO.Step.mk rfl [2] (by kernel_rfl) ?_
              intro vs u hE hp ac hb K hK
              have s50 : ac.tmps[50]?.getD undef = .pointer (some ⟨g, 0, none⟩) := by rw [hb]; exact (show _ = vs 2 by kernel_rfl).trans (hp 2 (by decide))
              rw [if_pos (AnyO.wanted_none rfl)]
              clear hb hp
              go_simp
              exact hK _ _ (Below.refl _ _) rfl
            · -- 4: Op.load 156 (Operand.tmp 51)
              refine AnyO.Step.mk rfl [3] (by kernel_rfl) ?_
              intro vs u hE hp ac hb K hK
              have s51 : ac.tmps[51]?.getD undef = .pointer (some ⟨g, 0, none⟩) := by rw [hb]; exact (show _ = vs 3 by kernel_rfl).trans (hp 3 (by decide))
              rw [if_pos (AnyO.wanted_none rfl)]
              clear hb hp
              obtain ⟨x1, x2⟩ := rowS_st (HX3.out.keep (Below.step (below_drew _) hE))
              go_simp
              exact hK _ _ (Below.refl _ _) rfl
            · -- 5: Op.move (Operand.tmp 0)
              refine AnyO.Step.mk rfl [] (by kernel_rfl) ?_
              intro vs u hE hp ac hb K hK
              have s0 : ac.tmps[0]?.getD undef = .pointer (some ⟨g, 0, none⟩) := by rw [hb]; kernel_rfl
              rw [if_pos (AnyO.wanted_none rfl)]
              clear hb hp
              go_simp
              exact hK _ _ (Below.refl _ _) rfl
            · -- 6: Op.nilCheck (Operand.tmp 53)
              refine AnyO.Step.mk rfl [5] (by kernel_rfl) ?_
              intro vs u hE hp ac hb K hK
              have s53 : ac.tmps[53]?.getD undef = .pointer (some ⟨g, 0, none⟩) := by rw [hb]; exact (show _ = vs 5 by kernel_rfl).trans (hp 5 (by decide))
              rw [if_pos (AnyO.wanted_none rfl)]
              clear hb hp
              go_simp
              exact hK _ _ (Below.refl _ _) rfl
            · -- 7: Op.fieldAddr 158 (Operand.tmp 54) 1
              refine AnyO.Step.mk rfl [6] (by kernel_rfl) ?_
              intro vs u hE hp ac hb K hK
              have s54 : ac.tmps[54]?.getD undef = .pointer (some ⟨g, 0, none⟩) := by rw [hb]; exact (show _ = vs 6 by kernel_rfl).trans (hp 6 (by decide))
              rw [if_pos (AnyO.wanted_none rfl)]
              clear hb hp
              go_simp
              exact hK _ _ (Below.refl _ _) rfl
            · -- 8: Op.load 136 (Operand.tmp 55)
              refine AnyO.Step.mk rfl [7] (by kernel_rfl) ?_
              intro vs u hE hp ac hb K hK
              have s55 : ac.tmps[55]?.getD undef = .pointer (some ⟨g, 8, none⟩) := by rw [hb]; exact (show _ = vs 7 by kernel_rfl).trans (hp 7 (by decide))
              rw [if_pos (AnyO.wanted_none rfl)]
              clear hb hp
              obtain ⟨x1, x2⟩ := rowS_bk (HX3.out.keep (Below.step (below_drew _) hE))
              go_simp
              exact hK _ _ (Below.refl _ _) rfl
            · -- 9: Op.call { callee := Callee.value (Operand.func 106), args :=
              refine AnyO.Step.mk rfl [8] (by kernel_rfl) ?_
              intro vs u hE hp ac hb K hK
              have s56 : ac.tmps[56]?.getD undef = vB64 x3.bk := by rw [hb]; exact (show _ = vs 8 by kernel_rfl).trans (hp 8 (by decide))
              rw [if_pos (AnyO.wanted_none rfl)]
              clear hb hp
              go_simp
              go_at_call 106
              refine (load_w _ u).mono ?_
              rintro e w2 ⟨rfl, hb2⟩
              exact hK _ _ hb2 rfl
            · -- 10: Op.call { callee := Callee.value (Operand.func 105), args :=
              refine AnyO.Step.mk rfl [4, 9, 9] (by kernel_rfl) ?_
              intro vs u hE hp ac hb K hK
              have s52 : ac.tmps[52]?.getD undef = vV x3.st := by rw [hb]; exact (show _ = vs 4 by kernel_rfl).trans (hp 4 (by decide))
              have s57 : ac.tmps[57]?.getD undef = vM (blkW x3.bk) := by rw [hb]; exact (show _ = vs 9 by kernel_rfl).trans (hp 9 (by decide))
              rw [if_pos (AnyO.wanted_none rfl)]
              clear hb hp
              go_simp
              go_at_call 105
              refine (process_v _ _ u (HK3.out.keep (Below.step (below_drew _) hE))).mono ?_
              rintro e w2 ⟨rfl, hb2⟩
              exact hK _ _ hb2 rfl
          · intro vs u hE hp
            have e0 : vs 0 = .pointer (some ⟨g, 0, none⟩) := hp 0 (by decide)
            have e1 : vs 1 = .pointer (some ⟨g, 0, none⟩) := hp 1 (by decide)
            have e2 : vs 2 = .pointer (some ⟨g, 0, none⟩) := hp 2 (by decide)
            have e3 : vs 3 = .pointer (some ⟨g, 0, none⟩) := hp 3 (by decide)
            have e4 : vs 4 = vV x3.st := hp 4 (by decide)
            have e5 : vs 5 = .pointer (some ⟨g, 0, none⟩) := hp 5 (by decide)
            have e6 : vs 6 = .pointer (some ⟨g, 0, none⟩) := hp 6 (by decide)
            have e7 : vs 7 = .pointer (some ⟨g, 8, none⟩) := hp 7 (by decide)
            have e8 : vs 8 = vB64 x3.bk := hp 8 (by decide)
            have e9 : vs 9 = vM (blkW x3.bk) := hp 9 (by decide)
            have e10 : vs 10 = vV (proc x3.st (mW (blkW x3.bk))) := hp 10 (by decide)
            clear hp
            have HE := Lib.hid hE; clear hE
            rw [puts_range [some 48, some 49, some 50, some 51, some 52, some 53, some 54, some 55, some 56, some 57, some 58] (by kernel_rfl)]
            simp only [putL, Nat.reduceAdd, List.drop_succ_cons, List.drop_zero, e0, e1, e2, e3, e4, e5, e6, e7, e8, e9, e10]
            clear e0 e1 e2 e3 e4 e5 e6 e7 e8 e9 e10
            go_simp
            have no := rowS_no (HX3.out.keep HE.out)
            have HZ := Lib.hid (rowS_store (HX3.out.keep HE.out) (proc x3.st (mW (blkW x3.bk))))
            have z1 := HZ.out.1
            have HN4 := Lib.hid (HN3.out _ ((One.of_below HE.out).trans (One.stD 0 _)) HZ.out.2)
            have hmp : ms.length - m < ms.length := by
              have h1 := HQQ.out; have h2 := HM.out; have h3 := HC.out.2.1
              omega
            clear HZ
            go_wp2
            rw [← HHL.out]
            go_roundw
            case rel => exact ⟨_, _, _, _, _, rfl, HN4.out⟩
            case measure => exact (show (ms.drop m).length < ms.length by rw [HHL.out]; exact hmp)
        · have hqz : ((q : Int) == 0) = false := by simpa using hq0
          have hmlt : r + ms.length < 64 := by
            have h1 := HQQ.out; have h2 := HM.out; have h3 := HC.out.2.1
            refine Nat.lt_of_not_le fun h4 => hq0 ?_
            omega
          have htk : ms.take (64 - r) = ms := List.take_of_length_le (by omega)
          have hmm : m = ms.length := by rw [← HM.out]; omega
          have hpart := HsOk.part HX.out.2.2 (ys := ms) (by rw [HRR.out]; exact hmlt)
          have hlm : ((l ++ ms).length : Int) = (l.length : Int) + (m : Int) := by
            rw [List.length_append, hmm]
            omega
          obtain ⟨x4, hx4⟩ : ∃ x4 : Hs, x4 = { x with bk := bkPut x.bk r (ms.take (64 - r)) (by rw [htk]; omega), len := (l.length : Int) + (m : Int) } := ⟨_, rfl⟩
          have HN3 := Lib.hid (show WrI w g all (l ++ ms) (ms.drop m) A2 (c - m) x4 W3 from ⟨hO3, by rw [hx4]; exact hR3, hS3, by
              rw [hx4]
              have h3 := hpart
              simp only [HRR.out, hlm] at h3
              simp only [htk]
              exact h3, by rw [hmm, List.drop_length, List.append_nil]; exact HAL.out, HS3.out.2, hcc2⟩)
          have hmp : ms.length - m < ms.length := by omega
          have HHL := Lib.hid hld
          clear hx4 hR3 hq0 hmlt htk hmm hpart hlm hO3 hS3 hcc2 hld HS2 HS3
          go_wp2
          rw [← HHL.out]
          go_roundw
          case rel => exact ⟨_, _, _, _, _, rfl, HN3.out⟩
          case measure => exact (show (ms.drop m).length < ms.length by rw [HHL.out]; exact hmp)
end Go.Proofs.YtecalodcbkljoaaGreatDoor
