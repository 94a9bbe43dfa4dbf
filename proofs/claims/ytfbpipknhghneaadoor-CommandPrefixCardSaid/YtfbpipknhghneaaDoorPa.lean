/- command.parse. -/
import Derived.Test.YtfbpipknhghneaaDoorFr
import Derived.Test.YtfbpipknhghneaaDoorAnyG
import Derived.Test.YtfbpipknhghneaaDoorCell
namespace Go.Proofs.YtfbpipknhghneaaDoor
open Go.RowKit
theorem cC_set0 (c : Cm) (n : Int) : (cC c).set 0 (.int .i64 n) = cC { c with verb := n } := rfl
theorem FormsAt.lt0 {w : World} (h : FormsAt w) : 0 < w.heap.size := by
  obtain ⟨ad, had, hat⟩ := h (by decide)
  obtain rfl := Option.some.inj had
  have h2 := hat.2 0 _ rfl
  rw [add_off] at h2
  unfold World.cell? at h2
  split at h2
  · rename_i hh
    exact (Array.getElem?_eq_some_iff.1 hh).1
  · cases h2
theorem FormsAt.w0 {w : World} (h : FormsAt w) {k : Nat} (hk : k < formsL.length) : w.cell? ⟨0, k * 3, none⟩ = some (.string formsL[k].1) := by
  obtain ⟨ad, had, hat⟩ := Sl.at_ cF_length h hk
  obtain rfl := Option.some.inj had
  have h2 := hat.2 0 (.string formsL[k].1) rfl
  have hao := add_off 0 0 (k * 3)
  rw [Nat.zero_add] at hao
  rw [hao] at h2
  have hao2 := add_off 0 (k * 3) 0
  rw [hao2] at h2
  exact h2
theorem FormsAt.w1 {w : World} (h : FormsAt w) {k : Nat} (hk : k < formsL.length) : w.cell? ⟨0, k * 3 + 1, none⟩ = some (.int .i64 formsL[k].2.1) := by
  obtain ⟨ad, had, hat⟩ := Sl.at_ cF_length h hk
  obtain rfl := Option.some.inj had
  have h2 := hat.2 1 (.int .i64 formsL[k].2.1) rfl
  have hao := add_off 0 0 (k * 3)
  rw [Nat.zero_add] at hao
  rw [hao, add_off] at h2
  exact h2
theorem FormsAt.keep1 {w w' : World} {g : Nat} (h : FormsAt w) (ho : One g w w') (hg : g ≠ 0) (hl : 0 < w.heap.size) : FormsAt w' := by
  intro hne
  obtain ⟨ad, had, hat⟩ := h hne
  obtain rfl := Option.some.inj had
  refine ⟨_, rfl, Nat.lt_of_lt_of_le hat.1 ho.size, fun j u hu => ?_⟩
  rw [← hat.2 j u hu, add_off]
  exact World.cell?_of_block (ho.out 0 hl (fun e => hg e.symm))
theorem Row.rowOk {w : World} {b n : Nat} {cs : List Value} {t : TypeId} (h : Row w b cs t) (hn : cs.length = n) : Go.Proofs.YtfbpipknhghneaaDoor.rowOk w b n = true := by
  unfold Row at h
  unfold Go.Proofs.YtfbpipknhghneaaDoor.rowOk
  rw [h]
  simpa using hn
theorem ld_setRow (c : Cm) {w : World} {b : Nat} (h : rowOk w b 39 = true) : (loadVar 27 ⟨b, 0, none⟩).run Tryd.prog (w.setRow b (aC c)) = .ok (vC c) (w.setRow b (aC c)) :=
  run_loadVar_at _ ⟨b, 0, none⟩ 27 (cC c) _ (at_setRow (cC c) h) Tryd.underlying27 rfl (by rw [cC_length]; exact size27)
theorem readF_verb (a : Int) (s : ByteArray) (c : Cm) : (readF a s c).1.verb = c.verb := by
  unfold readF
  repeat' split
  all_goals rfl
theorem splitGo_len2 (c : UInt8) (s : List UInt8) : ∀ cur, (splitGo c cur s).length ≤ s.length + 1 := by
  induction s with
  | nil => intro cur; simp [splitGo]
  | cons x xs ih =>
    intro cur
    rw [splitGo]
    split
    · have := ih []; simp only [List.length_cons]; omega
    · have := ih (cur ++ [x]); simp only [List.length_cons]; omega
theorem splitGo_mem (c : UInt8) (s : List UInt8) : ∀ cur, ∀ l ∈ splitGo c cur s, l.length ≤ cur.length + s.length := by
  induction s with
  | nil => intro cur l hl; simp only [splitGo, List.mem_singleton] at hl; rw [hl]; simp
  | cons x xs ih =>
    intro cur l hl
    rw [splitGo] at hl
    split at hl
    · rcases List.mem_cons.1 hl with h | h
      · rw [h]; simp
      · have := ih [] l h; simp only [List.length_cons, List.length_nil] at this ⊢; omega
    · have := ih _ l hl; simp only [List.length_append, List.length_cons, List.length_nil] at this ⊢; omega
/-- The strings of a line's words in memory. -/
def WsAt (b : Nat) (ps : List ByteArray) (w : World) : Prop := Row w b (ps.map Value.string) 9
theorem WsAt.cell {b : Nat} {ps : List ByteArray} {w : World} (h : WsAt b ps w) {k : Nat} (hk : k < ps.length) : w.cell? ⟨b, k, none⟩ = some (.string ps[k]) :=
  (Row.cell h k).trans (by rw [List.getElem?_map, List.getElem?_eq_getElem hk]; rfl)
set_option maxRecDepth 100000 in
set_option maxHeartbeats 12800000 in
theorem parse30 (s : ByteArray) (w : World) (hs : s.size ≤ 1000000) (hL : Laid w) : Calls Tryd.prog 30 #[.string s] w fun e w' => e = .returned (.tuple #[vC (parseL (bl s)).1, .bool (parseL (bl s)).2]) ∧ Below w.heap.size w w' := by
  obtain ⟨r0, hr0⟩ : ∃ r0, w.heap.size = r0 := ⟨_, rfl⟩
  have HB0 := Lib.hid (below_alloc w (.cells (aC zC) 27))
  have HR0 := Lib.hid (show Row (w.alloc (.cells (aC zC) 27)) r0 (cC zC) 27 by rw [← hr0]; exact Row.new w (cC zC) 27)
  obtain ⟨W1, hW1⟩ : ∃ W1, w.alloc (.cells (aC zC) 27) = W1 := ⟨_, rfl⟩
  rw [hW1] at HB0 HR0
  have HL1 := Lib.hid (hL.keep HB0.out)
  obtain ⟨mx, hmx⟩ := HL1.out.max
  have hg := splitB_go 32 s
  have hlen := Lib.splitB_all ⟨#[32]⟩ (by decide) 0 _ s rfl
  have H40 := Lib.hid (Tryd.strings_Split s ⟨#[32]⟩ mx W1 (by omega) hmx (by decide))
  generalize Lib.countB s ⟨#[32]⟩ = cnt at hg hlen H40
  obtain ⟨ps, hps⟩ : ∃ ps, Lib.splitB ⟨#[32]⟩ 0 cnt s = ps := ⟨_, rfl⟩
  rw [hps] at hg hlen H40
  rw [← hlen] at H40
  obtain ⟨N, hN⟩ : ∃ N, ps.length = N := ⟨_, rfl⟩
  rw [hN] at H40 hlen
  have hN1 : 1 ≤ N := by omega
  have hNs : N ≤ 1000001 := by
    have h3 := splitGo_len2 32 (bl s) []
    rw [← hg, List.length_map, bl_length] at h3
    omega
  have hpl : parseL (bl s) = parseW ps := by
    unfold parseL
    rw [← hg, List.map_map, show (mkB ∘ bl) = id from funext mkB_bl, List.map_id]
  have hpsz : ∀ x ∈ ps, x.size ≤ 1000000 := by
    intro x hx
    have h4 := splitGo_mem 32 (bl s) [] (bl x) (by rw [← hg]; exact List.mem_map_of_mem hx)
    simp only [List.length_nil, bl_length] at h4
    omega
  rw [hpl]
  obtain ⟨b2, hb2⟩ : ∃ b2, W1.heap.size = b2 := ⟨_, rfl⟩
  have HW2 := Lib.hid (show WsAt b2 ps (W1.alloc (.cells (ps.map Value.string).toArray 9)) by rw [← hb2]; exact Row.new W1 (ps.map Value.string) 9)
  have HB2 := Lib.hid (below_alloc W1 (.cells (ps.map Value.string).toArray 9))
  obtain ⟨W2, hW2⟩ : ∃ W2, W1.alloc (.cells (ps.map Value.string).toArray 9) = W2 := ⟨_, rfl⟩
  rw [hW2, hb2] at H40
  rw [hW2] at HW2 HB2
  obtain ⟨g, hgd⟩ : ∃ g, W2.heap.size = g := ⟨_, rfl⟩
  have HR3 := Lib.hid (show Row (W2.alloc (.cells (aC zC) 27)) g (cC zC) 27 by rw [← hgd]; exact Row.new W2 (cC zC) 27)
  have HB3 := Lib.hid (below_alloc W2 (.cells (aC zC) 27))
  obtain ⟨W3, hW3⟩ : ∃ W3, W2.alloc (.cells (aC zC) 27) = W3 := ⟨_, rfl⟩
  rw [hW3] at HR3 HB3
  have hg3 : g < W3.heap.size := HR3.out.lt
  have HW3 := Lib.hid hW3
  clear hW3
  have hb2g : b2 < g := by rw [← hgd]; exact Row.lt HW2.out
  have hr0b : r0 < b2 := by rw [← hb2]; exact HR0.out.lt
  have HWS := Lib.hid (show WsAt b2 ps W3 from Row.keep HW2.out HB3.out)
  have HRR := Lib.hid ((HR0.out.keep HB2.out).keep HB3.out)
  have HBW := Lib.hid (Below.step (Below.step HB0.out HB2.out) HB3.out)
  have HL3 := Lib.hid (hL.keep HBW.out)
  have HBR := Lib.hid (show Below r0 w W3 by rw [← hr0]; exact HBW.out)
  have HGG := Lib.hid (show 0 < W3.heap.size from by have h1 : 0 < w.heap.size := hL.forms.lt0; have := HBW.out.size; omega)
  have hg0 : g ≠ 0 := by have h1 : 0 < w.heap.size := hL.forms.lt0; omega
  obtain ⟨w0, hw0⟩ : ∃ w0, ps.headD ⟨#[]⟩ = w0 := ⟨_, rfl⟩
  have c00 : ps[0]? = some w0 := by
    rw [← hw0]
    cases ps with
    | nil => simp at hN; omega
    | cons a t => rfl
  have HN := Lib.hid (And.intro hN (And.intro hpsz (And.intro hw0 c00)))
  clear hmx hg hps hlen hN hpl hpsz HB2 HW2 HR0 hw0 c00
  go_enter Tryd.func30, Tryd.ntmps30
  go_wp2_with (go_at_call 40; refine H40.out.mono ?_; rintro e w2 ⟨rfl, rfl⟩)
  rw [HW3.out]
  go_loopw [6] (fun i wr => ∃ m : Nat, 1 ≤ m ∧ m ≤ 12 ∧ i = .int .i64 (m : Int) ∧ Row wr g (cC { zC with verb := ((vb w0 (m - 1) : Nat) : Int) }) 27 ∧ One g W3 wr) (fun i _ => 13 - (intOf i).toNat)
  case atStart => exact ⟨1, by omega, by omega, rfl, HR3.out, One.refl⟩
  case round =>
    obtain ⟨m, hm1, hm12, rfl, hr, ho⟩ := hrel
    have HK := Lib.hid (And.intro hr ho)
    have hgl := hr.lt
    by_cases hlt : m < 12
    · have hmi : (m : Int) ≤ 11 := by omega
      have hm0 : 0 ≤ (m : Int) := by omega
      have hmL : (m : Int) < 12 := by omega
      have hNi : (0 : Int) < (N : Int) := by omega
      have hNn : 0 < N := by omega
      have hmf : m < formsL.length := hlt
      obtain ⟨wdm, hwdm⟩ : ∃ wdm, formsL[m].1 = wdm := ⟨_, rfl⟩
      have HLW := Lib.hid (HL3.out.forms.keep1 ho (by omega) HGG.out)
      have k3 := HLW.out.w0 hmf
      rw [hwdm] at k3
      have k6 : wr.cell? ⟨b2, 0, none⟩ = some (.string w0) := by
        have h := (ho.row HWS.out (by omega)).cell 0
        rw [h, List.getElem?_map, HN.out.2.2.2]
        rfl
      obtain ⟨bb, hbb⟩ : ∃ bb, (wdm.toList == w0.toList) = bb := ⟨_, rfl⟩
      have HBB := Lib.hid hbb
      have HV := Lib.hid (show vb w0 m = if bb = true then m else vb w0 (m - 1) by
        obtain ⟨m', rfl⟩ : ∃ m', m = m' + 1 := ⟨m - 1, by omega⟩
        rw [vb, List.getElem?_eq_getElem hmf, Nat.add_sub_cancel]
        show (if bl formsL[m' + 1].1 = bl w0 then _ else _) = _
        rw [hwdm, ← hbb, ByteArray.toList_eq, ByteArray.toList_eq]
        simp)
      clear hr ho hwdm hbb
      go_wp2
      refine AnyO.wp_any (by kernel_rfl) (by kernel_rfl) (pstP [isV (.int .i64 (m : Int)), isV (.pointer (some ⟨0, m * 3, none⟩)), isV (.pointer (some ⟨0, m * 3, none⟩)), isV (.string wdm), isV (.slice (some ⟨b2, 0, none⟩) N N), isV (.pointer (some ⟨b2, 0, none⟩)), isV (.string w0), isV (.bool bb)]) (MonoL.cons (Mono.v _) (MonoL.cons (Mono.v _) (MonoL.cons (Mono.v _) (MonoL.cons (Mono.v _) (MonoL.cons (Mono.v _) (MonoL.cons (Mono.v _) (MonoL.cons (Mono.v _) (MonoL.cons (Mono.v _) MonoL.nil)))))))) ?_ ?_
      · intro i hi
        have hi2 : i = 0 ∨ i = 1 ∨ i = 2 ∨ i = 3 ∨ i = 4 ∨ i = 5 ∨ i = 6 ∨ i = 7 := by simp only [List.size_toArray, List.length_cons, List.length_nil] at hi; omega
        clear hi
        rcases hi2 with rfl | rfl | rfl | rfl | rfl | rfl | rfl | rfl
        · -- 0: Op.move (Operand.tmp 6)
          refine AnyO.Step.mk rfl [] (by kernel_rfl) ?_
          intro vs u hE hp ac hb K hK
          have s6 : ac.tmps[6]?.getD undef = .int .i64 (m : Int) := by rw [hb]; kernel_rfl
          rw [if_pos (AnyO.wanted_none rfl)]
          clear hb hp
          go_simp
          exact hK _ _ (Below.refl _ _) rfl
        · -- 1: Op.indexAddr 69 (Operand.global 0) (Operand.tmp 17)
          refine AnyO.Step.mk rfl [0] (by kernel_rfl) ?_
          intro vs u hE hp ac hb K hK
          have s17 : ac.tmps[17]?.getD undef = .int .i64 (m : Int) := by rw [hb]; exact (show _ = vs 0 by kernel_rfl).trans (hp 0 (by decide))
          rw [if_pos (AnyO.wanted_none rfl)]
          clear hb hp
          go_simp
          exact hK _ _ (Below.refl _ _) rfl
        · -- 2: Op.fieldAddr 68 (Operand.tmp 18) 0
          refine AnyO.Step.mk rfl [1] (by kernel_rfl) ?_
          intro vs u hE hp ac hb K hK
          have s18 : ac.tmps[18]?.getD undef = .pointer (some ⟨0, m * 3, none⟩) := by rw [hb]; exact (show _ = vs 1 by kernel_rfl).trans (hp 1 (by decide))
          rw [if_pos (AnyO.wanted_none rfl)]
          clear hb hp
          go_simp
          exact hK _ _ (Below.refl _ _) rfl
        · -- 3: Op.load 9 (Operand.tmp 19)
          refine AnyO.Step.mk rfl [2] (by kernel_rfl) ?_
          intro vs u hE hp ac hb K hK
          have s19 : ac.tmps[19]?.getD undef = .pointer (some ⟨0, m * 3, none⟩) := by rw [hb]; exact (show _ = vs 2 by kernel_rfl).trans (hp 2 (by decide))
          rw [if_pos (AnyO.wanted_none rfl)]
          clear hb hp
          have rr := cell_below k3 (Below.step (below_drew _) hE)
          go_simp
          exact hK _ _ (Below.refl _ _) rfl
        · -- 4: Op.move (Operand.tmp 4)
          refine AnyO.Step.mk rfl [] (by kernel_rfl) ?_
          intro vs u hE hp ac hb K hK
          have s4 : ac.tmps[4]?.getD undef = .slice (some ⟨b2, 0, none⟩) N N := by rw [hb]; kernel_rfl
          rw [if_pos (AnyO.wanted_none rfl)]
          clear hb hp
          go_simp
          exact hK _ _ (Below.refl _ _) rfl
        · -- 5: Op.indexAddr 72 (Operand.tmp 21) (Operand.const (Value.int I
          refine AnyO.Step.mk rfl [4] (by kernel_rfl) ?_
          intro vs u hE hp ac hb K hK
          have s21 : ac.tmps[21]?.getD undef = .slice (some ⟨b2, 0, none⟩) N N := by rw [hb]; exact (show _ = vs 4 by kernel_rfl).trans (hp 4 (by decide))
          rw [if_pos (AnyO.wanted_none rfl)]
          clear hb hp
          go_simp
          exact hK _ _ (Below.refl _ _) rfl
        · -- 6: Op.load 9 (Operand.tmp 22)
          refine AnyO.Step.mk rfl [5] (by kernel_rfl) ?_
          intro vs u hE hp ac hb K hK
          have s22 : ac.tmps[22]?.getD undef = .pointer (some ⟨b2, 0, none⟩) := by rw [hb]; exact (show _ = vs 5 by kernel_rfl).trans (hp 5 (by decide))
          rw [if_pos (AnyO.wanted_none rfl)]
          clear hb hp
          have rr := cell_below k6 (Below.step (below_drew _) hE)
          go_simp
          exact hK _ _ (Below.refl _ _) rfl
        · -- 7: Op.binOp BinOp.eql 9 (Operand.tmp 20) (Operand.tmp 23) 9
          refine AnyO.Step.mk rfl [3, 6] (by kernel_rfl) ?_
          intro vs u hE hp ac hb K hK
          have s20 : ac.tmps[20]?.getD undef = .string wdm := by rw [hb]; exact (show _ = vs 3 by kernel_rfl).trans (hp 3 (by decide))
          have s23 : ac.tmps[23]?.getD undef = .string w0 := by rw [hb]; exact (show _ = vs 6 by kernel_rfl).trans (hp 6 (by decide))
          rw [if_pos (AnyO.wanted_none rfl)]
          clear hb hp
          have rr := HBB.out
          go_simp
          exact hK _ _ (Below.refl _ _) rfl
      · intro vs u hE hp
        have e0 : vs 0 = .int .i64 (m : Int) := hp 0 (by decide)
        have e1 : vs 1 = .pointer (some ⟨0, m * 3, none⟩) := hp 1 (by decide)
        have e2 : vs 2 = .pointer (some ⟨0, m * 3, none⟩) := hp 2 (by decide)
        have e3 : vs 3 = .string wdm := hp 3 (by decide)
        have e4 : vs 4 = .slice (some ⟨b2, 0, none⟩) N N := hp 4 (by decide)
        have e5 : vs 5 = .pointer (some ⟨b2, 0, none⟩) := hp 5 (by decide)
        have e6 : vs 6 = .string w0 := hp 6 (by decide)
        have e7 : vs 7 = .bool bb := hp 7 (by decide)
        clear hp
        have HE := Lib.hid hE
        clear hE
        rw [puts_range [some 17, some 18, some 19, some 20, some 21, some 22, some 23, some 24] (by kernel_rfl)]
        simp only [putL, Nat.reduceAdd, e0, e1, e2, e3, e4, e5, e6, e7]
        clear e0 e1 e2 e3 e4 e5 e6 e7
        go_simp
        have hru := HK.out.1.keep HE.out
        have hou := HK.out.2.trans (One.of_below HE.out)
        have q0 : u.cell? ⟨g, 0, none⟩ = some (.int .i64 ((vb w0 (m - 1) : Nat) : Int)) := hru.cell 0
        have f0 := hru.fz 0
        have HU := Lib.hid (And.intro hru hou)
        clear hru hou k3 k6
        cases bb with
        | true =>
          go_wp2
          go_roundw
          case rel =>
            refine ⟨m + 1, by omega, by omega, by go_num, ?_, HU.out.2.trans (One.set _ _)⟩
            have h := HU.out.1.set 0 (.int .i64 (m : Int))
            rw [cC_set0] at h
            rw [Nat.add_sub_cancel, HV.out, if_pos rfl]
            exact h
          case measure => simp [intOf] <;> omega
        | false =>
          go_wp2
          go_roundw
          case rel => exact ⟨m + 1, by omega, by omega, by go_num, by rw [Nat.add_sub_cancel, HV.out, if_neg (by decide)]; exact HU.out.1, HU.out.2⟩
          case measure => simp [intOf] <;> omega
    · obtain rfl : m = 12 := by omega
      have q0 : wr.cell? ⟨g, 0, none⟩ = some (.int .i64 ((vb w0 11 : Nat) : Int)) := hr.cell 0
      have hrr := ho.row HRR.out (show r0 ≠ g by omega)
      have ro := hrr.rowOk (cC_length zC)
      obtain ⟨v, hv⟩ : ∃ v, vb w0 11 = v := ⟨_, rfl⟩
      have hv11 : v ≤ 11 := by rw [← hv]; exact vb_le w0 11
      rw [hv] at q0
      have HV := Lib.hid hv
      clear hv
      by_cases hv0 : v = 0
      · subst hv0
        have HX := Lib.hid (show parseW ps = (zC, false) by unfold parseW; rw [HN.out.2.2.1, if_pos HV.out])
        clear hr ho hrr
        go_wp2
        exact bodyPost_ret (v := .tuple #[vC zC, .bool false]) (results_c2 (ad := ⟨r0, 0, none⟩) rfl rfl (ld_setRow zC ro) rfl) rfl ⟨by rw [HX.out], Below.setRow (Below.trans HBR.out (HK.out.2.below (show r0 ≤ g by omega) (show r0 ≤ W3.heap.size by omega))) (Nat.le_refl _) _⟩
      · have hv0i : ((v : Int) == 0) = false := by simp; omega
        have hv1 : 1 ≤ v := by omega
        have hNi : 1 ≤ N := hN1
        have HX := Lib.hid (show vb (ps.headD ⟨#[]⟩) 11 = v by rw [HN.out.2.2.1]; exact HV.out)
        have HRO := Lib.hid hrr
        clear hr ho hrr ro
        have hvf : v < formsL.length := by show v < 12; omega
        obtain ⟨fl, hfl⟩ : ∃ fl, formsL[v].2.1 = fl := ⟨_, rfl⟩
        have hflv : flOf v = fl := by unfold flOf; rw [List.getElem?_eq_getElem hvf]; exact hfl
        have hvL : (v : Int) < 12 := by omega
        obtain ⟨tb, htb⟩ : ∃ tb, wr.heap.size = tb := ⟨_, rfl⟩
        have htl : tb < (wr.alloc (.cells (aRs g rdL) 100)).heap.size := by rw [← htb]; simp
        have HT4 := Lib.hid (show Row (wr.alloc (.cells (aRs g rdL) 100)) tb (rdL.flatMap (cR g)) 100 by rw [← htb]; exact Row.new wr (rdL.flatMap (cR g)) 100)
        have HB4 := Lib.hid (below_alloc wr (.cells (aRs g rdL) 100))
        have HG4 := Lib.hid (HK.out.1.keep HB4.out)
        have HW4 := Lib.hid (show WsAt b2 ps (wr.alloc (.cells (aRs g rdL) 100)) from Row.keep (HK.out.2.row HWS.out (by omega)) HB4.out)
        have HF4 := Lib.hid ((HL3.out.forms.keep1 HK.out.2 hg0 HGG.out).keep HB4.out)
        have HO4 := Lib.hid (HRO.out.keep HB4.out)
        have hgt : g < tb := by rw [← htb]; exact hgl
        have HBX := Lib.hid (show Below r0 w (wr.alloc (.cells (aRs g rdL) 100)) from (HBR.out.trans (HK.out.2.below (show r0 ≤ g by omega) (show r0 ≤ W3.heap.size by omega))).trans (HB4.out.mono (show r0 ≤ wr.heap.size by omega)))
        have h04 : 0 < (wr.alloc (.cells (aRs g rdL) 100)).heap.size := HF4.out.lt0
        have HFL := Lib.hid (And.intro hfl hflv)
        clear hfl hflv q0
        have q0 : wr.cell? ⟨g, 0, none⟩ = some (.int .i64 (v : Int)) := by
          have h : wr.cell? ⟨g, 0, none⟩ = some (.int .i64 ((vb w0 (12 - 1) : Nat) : Int)) := HK.out.1.cell 0
          rw [h, show (12 : Nat) - 1 = 11 from rfl, HV.out]
        by_cases hNN : N = 1
        case' pos =>
          go_wp2
          change Code.wp _ _ _ _ (wr.alloc (.cells (aRs g rdL) 100))
          try rw [htb]
          have hst : ∃ (n o : Nat) (A : Addr), (Value.slice (some ⟨b2, 0, none⟩) 0 0 = .slice (some A) n n) ∧ o + n = N ∧ (0 < n → A = ⟨b2, o, none⟩) ∧ o = 1 := ⟨0, 1, _, rfl, by omega, (fun h => absurd h (by omega)), rfl⟩
        case' neg =>
          have hN2 : ¬ N - 1 = 0 := by omega
          have hN3 : 1 < N := by omega
          go_wp2
          change Code.wp _ _ _ _ (wr.alloc (.cells (aRs g rdL) 100))
          try rw [htb]
          have hst : ∃ (n o : Nat) (A : Addr), (Value.slice (some ⟨b2, 1, none⟩) (N - 1) (N - 1) = .slice (some A) n n) ∧ o + n = N ∧ (0 < n → A = ⟨b2, o, none⟩) ∧ o = 1 := ⟨N - 1, 1, _, rfl, by omega, (fun _ => rfl), rfl⟩
        all_goals
          generalize (wr.alloc (.cells (aRs g rdL) 100)) = W4 at HT4 HB4 HG4 HW4 HF4 HO4 HBX htl h04 ⊢
          obtain ⟨n1, o1, A1, hsv, hon, hA1, rfl⟩ := hst
          rw [hsv]
          clear hsv q0 hNN
          go_loopw [4, 7, 47] (fun ws ok i w5 => ∃ (j n o : Nat) (A : Addr) (b : Bool) (c : Cm), j ≤ 6 ∧ i = .int .i64 (j : Int) ∧ ok = .bool b ∧ ws = .slice (some A) n n ∧ o + n = N ∧ (0 < n → A = ⟨b2, o, none⟩) ∧ (rdL.take j).foldl (fun st p => stepP (flOf v) p.1 st) ((true, ps.drop 1, { zC with verb := (v : Int) }) : PSt) = (b, ps.drop o, c) ∧ c.verb = (v : Int) ∧ Row w5 g (cC c) 27 ∧ One g W4 w5) (fun _ _ i _ => 6 - (intOf i).toNat)
          case atStart => exact ⟨0, n1, 1, A1, true, _, by omega, rfl, rfl, rfl, hon, hA1, rfl, rfl, by rw [← HV.out]; exact HG4.out, One.refl⟩
          case round =>
            obtain ⟨j, n, o, A, b, c, hj, rfl, rfl, rfl, hon2, hA, hfold, hcv, hr5, ho5⟩ := hrel
            have HK5 := Lib.hid (And.intro hr5 (And.intro ho5 hfold))
            by_cases hlt : j < 6
            · have hjl : j < rdL.length := hlt
              have hji : (j : Int) < 6 := by omega
              obtain ⟨⟨a, F⟩, hp⟩ : ∃ p, rdL[j] = p := ⟨_, rfl⟩
              have hmem : ((a, F) : Int × Nat) ∈ rdL := by rw [← hp]; exact List.getElem_mem hjl
              have hRd := reads_all _ hmem
              have eF := enter_all _ hmem
              obtain ⟨t1, t2⟩ := row_rd (ho5.row HT4.out (show tb ≠ g by omega)) hjl
              rw [hp] at t2
              have HFD := Lib.hid (show (rdL.take (j + 1)).foldl (fun st p => stepP (flOf v) p.1 st) ((true, ps.drop 1, { zC with verb := (v : Int) }) : PSt) = stepP fl a (b, ps.drop o, c) by
                rw [List.take_succ_eq_append_getElem hjl, List.foldl_append, hfold, hp, HFL.out.2]
                rfl)
              have HRd := Lib.hid hRd
              have hgl5 := hr5.lt
              obtain ⟨t9, ht9⟩ : ∃ t9, wr.heap.size = t9 := ⟨_, rfl⟩
              have HB6 := Lib.hid (below_alloc wr (.cells (aR g (a, F)) 100))
              have HG6 := Lib.hid (hr5.keep HB6.out)
              have HT9 := Lib.hid (show Row (wr.alloc (.cells (aR g (a, F)) 100)) t9 (cR g (a, F)) 100 by rw [← ht9]; exact Row.new wr (cR g (a, F)) 100)
              have HW6 := Lib.hid (show WsAt b2 ps (wr.alloc (.cells (aR g (a, F)) 100)) from Row.keep (ho5.row HW4.out (show b2 ≠ g by omega)) HB6.out)
              have HF6 := Lib.hid ((HF4.out.keep1 ho5 hg0 h04).keep HB6.out)
              clear hp hmem hRd hr5 ho5 hfold
              go_wp2
              try rw [ht9]
              generalize (wr.alloc (.cells (aR g (a, F)) 100)) = W6 at HB6 HG6 HT9 HW6 HF6 ⊢
              have k1 : W6.cell? ⟨g, 0, none⟩ = some (.int .i64 (v : Int)) := by rw [← hcv]; exact HG6.out.cell 0
              have k4 := HF6.out.w1 hvf
              rw [HFL.out.1] at k4
              have k6 : W6.cell? ⟨t9, 0, none⟩ = some (.int .i64 a) := HT9.out.cell 0
              obtain ⟨z, hz⟩ : ∃ z, (bits BinOp.and .i64 fl a == 0) = z := ⟨_, rfl⟩
              have HZ := Lib.hid hz
              clear t1 t2 hz
              refine AnyO.wp_any (by kernel_rfl) (by kernel_rfl) (pstP [isV (.pointer (some ⟨g, 0, none⟩)), isV (.int .i64 (v : Int)), isV (.pointer (some ⟨0, v * 3, none⟩)), isV (.pointer (some ⟨0, v * 3 + 1, none⟩)), isV (.int .i64 fl), isV (.pointer (some ⟨t9, 0, none⟩)), isV (.int .i64 a), isV (.int .i64 (bits BinOp.and .i64 fl a)), isV (.bool z)]) (MonoL.cons (Mono.v _) (MonoL.cons (Mono.v _) (MonoL.cons (Mono.v _) (MonoL.cons (Mono.v _) (MonoL.cons (Mono.v _) (MonoL.cons (Mono.v _) (MonoL.cons (Mono.v _) (MonoL.cons (Mono.v _) (MonoL.cons (Mono.v _) MonoL.nil))))))))) ?_ ?_
              · intro i hi
                have hi2 : i = 0 ∨ i = 1 ∨ i = 2 ∨ i = 3 ∨ i = 4 ∨ i = 5 ∨ i = 6 ∨ i = 7 ∨ i = 8 := by simp only [List.size_toArray, List.length_cons, List.length_nil] at hi; omega
                clear hi
                rcases hi2 with rfl | rfl | rfl | rfl | rfl | rfl | rfl | rfl | rfl
                · -- 0: Op.fieldAddr 27 (Operand.tmp 5) 0
                  refine AnyO.Step.mk rfl [] (by kernel_rfl) ?_
                  intro vs u hE hp ac hb K hK
                  have s5 : ac.tmps[5]?.getD undef = .pointer (some ⟨g, 0, none⟩) := by rw [hb]; kernel_rfl
                  rw [if_pos (AnyO.wanted_none rfl)]
                  clear hb hp
                  go_simp
                  exact hK _ _ (Below.refl _ _) rfl
                · -- 1: Op.load 3 (Operand.tmp 51)
                  refine AnyO.Step.mk rfl [0] (by kernel_rfl) ?_
                  intro vs u hE hp ac hb K hK
                  have s51 : ac.tmps[51]?.getD undef = .pointer (some ⟨g, 0, none⟩) := by rw [hb]; exact (show _ = vs 0 by kernel_rfl).trans (hp 0 (by decide))
                  rw [if_pos (AnyO.wanted_none rfl)]
                  clear hb hp
                  have rr := cell_below k1 (Below.step (below_drew _) hE)
                  go_simp
                  exact hK _ _ (Below.refl _ _) rfl
                · -- 2: Op.indexAddr 69 (Operand.global 0) (Operand.tmp 52)
                  refine AnyO.Step.mk rfl [1] (by kernel_rfl) ?_
                  intro vs u hE hp ac hb K hK
                  have s52 : ac.tmps[52]?.getD undef = .int .i64 (v : Int) := by rw [hb]; exact (show _ = vs 1 by kernel_rfl).trans (hp 1 (by decide))
                  rw [if_pos (AnyO.wanted_none rfl)]
                  clear hb hp
                  go_simp
                  exact hK _ _ (Below.refl _ _) rfl
                · -- 3: Op.fieldAddr 68 (Operand.tmp 53) 1
                  refine AnyO.Step.mk rfl [2] (by kernel_rfl) ?_
                  intro vs u hE hp ac hb K hK
                  have s53 : ac.tmps[53]?.getD undef = .pointer (some ⟨0, v * 3, none⟩) := by rw [hb]; exact (show _ = vs 2 by kernel_rfl).trans (hp 2 (by decide))
                  rw [if_pos (AnyO.wanted_none rfl)]
                  clear hb hp
                  go_simp
                  exact hK _ _ (Below.refl _ _) rfl
                · -- 4: Op.load 3 (Operand.tmp 54)
                  refine AnyO.Step.mk rfl [3] (by kernel_rfl) ?_
                  intro vs u hE hp ac hb K hK
                  have s54 : ac.tmps[54]?.getD undef = .pointer (some ⟨0, v * 3 + 1, none⟩) := by rw [hb]; exact (show _ = vs 3 by kernel_rfl).trans (hp 3 (by decide))
                  rw [if_pos (AnyO.wanted_none rfl)]
                  clear hb hp
                  have rr := cell_below k4 (Below.step (below_drew _) hE)
                  go_simp
                  exact hK _ _ (Below.refl _ _) rfl
                · -- 5: Op.fieldAddr 100 (Operand.tmp 9) 0
                  refine AnyO.Step.mk rfl [] (by kernel_rfl) ?_
                  intro vs u hE hp ac hb K hK
                  have s9 : ac.tmps[9]?.getD undef = .pointer (some ⟨t9, 0, none⟩) := by rw [hb]; kernel_rfl
                  rw [if_pos (AnyO.wanted_none rfl)]
                  clear hb hp
                  go_simp
                  exact hK _ _ (Below.refl _ _) rfl
                · -- 6: Op.load 3 (Operand.tmp 56)
                  refine AnyO.Step.mk rfl [5] (by kernel_rfl) ?_
                  intro vs u hE hp ac hb K hK
                  have s56 : ac.tmps[56]?.getD undef = .pointer (some ⟨t9, 0, none⟩) := by rw [hb]; exact (show _ = vs 5 by kernel_rfl).trans (hp 5 (by decide))
                  rw [if_pos (AnyO.wanted_none rfl)]
                  clear hb hp
                  have rr := cell_below k6 (Below.step (below_drew _) hE)
                  go_simp
                  exact hK _ _ (Below.refl _ _) rfl
                · -- 7: Op.binOp BinOp.and 3 (Operand.tmp 55) (Operand.tmp 57) 3
                  refine AnyO.Step.mk rfl [4, 6] (by kernel_rfl) ?_
                  intro vs u hE hp ac hb K hK
                  have s55 : ac.tmps[55]?.getD undef = .int .i64 fl := by rw [hb]; exact (show _ = vs 4 by kernel_rfl).trans (hp 4 (by decide))
                  have s57 : ac.tmps[57]?.getD undef = .int .i64 a := by rw [hb]; exact (show _ = vs 6 by kernel_rfl).trans (hp 6 (by decide))
                  rw [if_pos (AnyO.wanted_none rfl)]
                  clear hb hp
                  go_simp
                  exact hK _ _ (Below.refl _ _) rfl
                · -- 8: Op.binOp BinOp.eql 3 (Operand.tmp 58) (Operand.const (Value.
                  refine AnyO.Step.mk rfl [7] (by kernel_rfl) ?_
                  intro vs u hE hp ac hb K hK
                  have s58 : ac.tmps[58]?.getD undef = .int .i64 (bits BinOp.and .i64 fl a) := by rw [hb]; exact (show _ = vs 7 by kernel_rfl).trans (hp 7 (by decide))
                  rw [if_pos (AnyO.wanted_none rfl)]
                  clear hb hp
                  have rr := HZ.out
                  go_simp
                  exact hK _ _ (Below.refl _ _) rfl
              · intro vs u hE hp
                have e0 : vs 0 = .pointer (some ⟨g, 0, none⟩) := hp 0 (by decide)
                have e1 : vs 1 = .int .i64 (v : Int) := hp 1 (by decide)
                have e2 : vs 2 = .pointer (some ⟨0, v * 3, none⟩) := hp 2 (by decide)
                have e3 : vs 3 = .pointer (some ⟨0, v * 3 + 1, none⟩) := hp 3 (by decide)
                have e4 : vs 4 = .int .i64 fl := hp 4 (by decide)
                have e5 : vs 5 = .pointer (some ⟨t9, 0, none⟩) := hp 5 (by decide)
                have e6 : vs 6 = .int .i64 a := hp 6 (by decide)
                have e7 : vs 7 = .int .i64 (bits BinOp.and .i64 fl a) := hp 7 (by decide)
                have e8 : vs 8 = .bool z := hp 8 (by decide)
                clear hp
                have HE := Lib.hid hE
                clear hE
                rw [puts_range [some 51, some 52, some 53, some 54, some 55, some 56, some 57, some 58, some 59] (by kernel_rfl)]
                simp only [putL, Nat.reduceAdd, e0, e1, e2, e3, e4, e5, e6, e7, e8]
                clear e0 e1 e2 e3 e4 e5 e6 e7 e8
                go_simp
                have HG7 := Lib.hid (HG6.out.keep HE.out)
                have HT7 := Lib.hid (HT9.out.keep HE.out)
                have HW7 := Lib.hid (show WsAt b2 ps u from Row.keep HW6.out HE.out)
                have HO7 := Lib.hid (((HK5.out.2.1).trans (One.of_below HB6.out)).trans (One.of_below HE.out))
                clear k1 k4 k6
                cases z with
                | true =>
                  go_wp2
                  go_roundw
                  case rel => exact ⟨j + 1, n, o, A, b, c, by omega, by go_num, rfl, rfl, hon2, hA, by rw [HFD.out]; unfold stepP; rw [HZ.out]; rfl, hcv, HG7.out, HO7.out⟩
                  case measure => simp [intOf] <;> omega
                | false =>
                  have HSP := Lib.hid (show stepP fl a (b, ps.drop o, c) = match ((b, ps.drop o, c) : PSt) with | (true, x :: r, c) => ((readF a x c).2, r, (readF a x c).1) | (_, ws, c) => (false, ws.drop 1, c) by unfold stepP; rw [HZ.out]; rfl)
                  obtain ⟨U, hU⟩ : ∃ U : World, U = u := ⟨_, rfl⟩
                  subst hU
                  have hsplit : ∀ D : Nat, True := fun _ => trivial
                  clear hsplit
                  cases b with
                  | false =>
                    go_wp2_with fail
                    refine AnyO.wp_anyI (by kernel_rfl) (by kernel_rfl) (AnyO.InvG (σ := Unit) (fun σ => AnyO.pvL [some (.bool false), some (.bool false), some (undef), some (undef), some (undef), some (.bool false), some (.bool false), some (undef), some (undef), some (undef), some (undef), some (undef), some (undef), some (.bool false), some (.bool false)]) (fun _ _ x => Below U.heap.size U x)) (AnyO.InvG.start (g := ()) ((Below.refl _ _).drew)) ?_ ?_
                    · intro i hi
                      have hi2 : i = 0 ∨ i = 1 ∨ i = 2 ∨ i = 3 ∨ i = 4 ∨ i = 5 ∨ i = 6 ∨ i = 7 ∨ i = 8 ∨ i = 9 ∨ i = 10 ∨ i = 11 ∨ i = 12 ∨ i = 13 ∨ i = 14 := by simp only [List.size_toArray, List.length_cons, List.length_nil] at hi; omega
                      clear hi
                      rcases hi2 with rfl | rfl | rfl | rfl | rfl | rfl | rfl | rfl | rfl | rfl | rfl | rfl | rfl | rfl | rfl
                      · -- 0: Op.move (Operand.tmp 7)
                        refine AnyO.StepI.mk rfl [] (by kernel_rfl) ?_
                        intro D vs u hI h0 hC hp ac hb K hK
                        obtain ⟨σ, hP, hW⟩ := hI
                        have s7 : ac.tmps[7]?.getD undef = .bool false := by rw [hb]; kernel_rfl
                        rw [if_pos (AnyO.wanted_none rfl)]
                        clear hb hp
                        clear hC
                        clear h0
                        have HP := Lib.hid hP
                        have HWq := Lib.hid hW
                        clear hP hW
                        go_simp
                        have hP := HP.out
                        have hW := HWq.out
                        clear HP HWq
                        exact hK _ _ (AnyO.InvG.step (g := σ) hP rfl hW)
                      · -- 1: Op.move (Operand.tmp 60)
                        refine AnyO.StepI.mk rfl [0] (by kernel_rfl) ?_
                        intro D vs u hI h0 hC hp ac hb K hK
                        obtain ⟨σ, hP, hW⟩ := hI
                        have s60 : ac.tmps[60]?.getD undef = .bool false := by rw [hb]; exact (show _ = vs 0 by kernel_rfl).trans (show vs 0 = .bool false from hP 0 (hp 0 (by decide)))
                        rw [if_pos (AnyO.wanted_none rfl)]
                        clear hb hp
                        clear hC
                        clear h0
                        have HP := Lib.hid hP
                        have HWq := Lib.hid hW
                        clear hP hW
                        go_simp
                        have hP := HP.out
                        have hW := HWq.out
                        clear HP HWq
                        exact hK _ _ (AnyO.InvG.step (g := σ) hP rfl hW)
                      · -- 2: Op.move (Operand.tmp 4)
                        refine AnyO.StepI.mk rfl [1] (by kernel_rfl) ?_
                        intro D vs u hI h0 hC hp ac hb K hK
                        obtain ⟨σ, hP, hW⟩ := hI
                        have s4 : ac.tmps[4]?.getD undef = .slice (some A) n n := by rw [hb]; kernel_rfl
                        have s61 : ac.tmps[61]?.getD undef = .bool false := by rw [hb]; exact (show _ = vs 1 by kernel_rfl).trans (show vs 1 = .bool false from hP 1 (hp 1 (by decide)))
                        rw [if_neg (AnyO.wanted_not (g := 1) (t := 61) (want := true) rfl rfl s61 (fun e => by cases e))]
                        exact hK undef _ (AnyO.InvG.step (g := σ) hP rfl hW)
                      · -- 3: Op.call { callee := Callee.builtin Builtin.len, args := #[Op
                        refine AnyO.StepI.mk rfl [2, 1] (by kernel_rfl) ?_
                        intro D vs u hI h0 hC hp ac hb K hK
                        obtain ⟨σ, hP, hW⟩ := hI
                        have s62 : ac.tmps[62]?.getD undef = undef := by rw [hb]; exact (show _ = vs 2 by kernel_rfl).trans (show vs 2 = undef from hP 2 (hp 2 (by decide)))
                        have s61 : ac.tmps[61]?.getD undef = .bool false := by rw [hb]; exact (show _ = vs 1 by kernel_rfl).trans (show vs 1 = .bool false from hP 1 (hp 1 (by decide)))
                        rw [if_neg (AnyO.wanted_not (g := 1) (t := 61) (want := true) rfl rfl s61 (fun e => by cases e))]
                        exact hK undef _ (AnyO.InvG.step (g := σ) hP rfl hW)
                      · -- 4: Op.binOp BinOp.gtr 3 (Operand.tmp 63) (Operand.const (Value.
                        refine AnyO.StepI.mk rfl [3, 1] (by kernel_rfl) ?_
                        intro D vs u hI h0 hC hp ac hb K hK
                        obtain ⟨σ, hP, hW⟩ := hI
                        have s63 : ac.tmps[63]?.getD undef = undef := by rw [hb]; exact (show _ = vs 3 by kernel_rfl).trans (show vs 3 = undef from hP 3 (hp 3 (by decide)))
                        have s61 : ac.tmps[61]?.getD undef = .bool false := by rw [hb]; exact (show _ = vs 1 by kernel_rfl).trans (show vs 1 = .bool false from hP 1 (hp 1 (by decide)))
                        rw [if_neg (AnyO.wanted_not (g := 1) (t := 61) (want := true) rfl rfl s61 (fun e => by cases e))]
                        exact hK undef _ (AnyO.InvG.step (g := σ) hP rfl hW)
                      · -- 5: Op.pick (Operand.tmp 61) (Operand.tmp 64) (Operand.const (Va
                        refine AnyO.StepI.mk rfl [1, 4] (by kernel_rfl) ?_
                        intro D vs u hI h0 hC hp ac hb K hK
                        obtain ⟨σ, hP, hW⟩ := hI
                        have s61 : ac.tmps[61]?.getD undef = .bool false := by rw [hb]; exact (show _ = vs 1 by kernel_rfl).trans (show vs 1 = .bool false from hP 1 (hp 1 (by decide)))
                        have s64 : ac.tmps[64]?.getD undef = undef := by rw [hb]; exact (show _ = vs 4 by kernel_rfl).trans (show vs 4 = undef from hP 4 (hp 4 (by decide)))
                        rw [if_pos (AnyO.wanted_none rfl)]
                        clear hb hp
                        clear hC
                        clear h0
                        have HP := Lib.hid hP
                        have HWq := Lib.hid hW
                        clear hP hW
                        go_simp
                        have hP := HP.out
                        have hW := HWq.out
                        clear HP HWq
                        exact hK _ _ (AnyO.InvG.step (g := σ) hP rfl hW)
                      · -- 6: Op.move (Operand.tmp 65)
                        refine AnyO.StepI.mk rfl [5, 1] (by kernel_rfl) ?_
                        intro D vs u hI h0 hC hp ac hb K hK
                        obtain ⟨σ, hP, hW⟩ := hI
                        have s65 : ac.tmps[65]?.getD undef = .bool false := by rw [hb]; exact (show _ = vs 5 by kernel_rfl).trans (show vs 5 = .bool false from hP 5 (hp 5 (by decide)))
                        rw [if_pos (AnyO.wanted_none rfl)]
                        clear hb hp
                        clear hC
                        clear h0
                        have HP := Lib.hid hP
                        have HWq := Lib.hid hW
                        clear hP hW
                        go_simp
                        have hP := HP.out
                        have hW := HWq.out
                        clear HP HWq
                        exact hK _ _ (AnyO.InvG.step (g := σ) hP rfl hW)
                      · -- 7: Op.fieldAddr 100 (Operand.tmp 9) 1
                        refine AnyO.StepI.mk rfl [6] (by kernel_rfl) ?_
                        intro D vs u hI h0 hC hp ac hb K hK
                        obtain ⟨σ, hP, hW⟩ := hI
                        have s9 : ac.tmps[9]?.getD undef = .pointer (some ⟨t9, 0, none⟩) := by rw [hb]; kernel_rfl
                        have s66 : ac.tmps[66]?.getD undef = .bool false := by rw [hb]; exact (show _ = vs 6 by kernel_rfl).trans (show vs 6 = .bool false from hP 6 (hp 6 (by decide)))
                        rw [if_neg (AnyO.wanted_not (g := 6) (t := 66) (want := true) rfl rfl s66 (fun e => by cases e))]
                        exact hK undef _ (AnyO.InvG.step (g := σ) hP rfl hW)
                      · -- 8: Op.load 35 (Operand.tmp 67)
                        refine AnyO.StepI.mk rfl [7, 6] (by kernel_rfl) ?_
                        intro D vs u hI h0 hC hp ac hb K hK
                        obtain ⟨σ, hP, hW⟩ := hI
                        have s67 : ac.tmps[67]?.getD undef = undef := by rw [hb]; exact (show _ = vs 7 by kernel_rfl).trans (show vs 7 = undef from hP 7 (hp 7 (by decide)))
                        have s66 : ac.tmps[66]?.getD undef = .bool false := by rw [hb]; exact (show _ = vs 6 by kernel_rfl).trans (show vs 6 = .bool false from hP 6 (hp 6 (by decide)))
                        rw [if_neg (AnyO.wanted_not (g := 6) (t := 66) (want := true) rfl rfl s66 (fun e => by cases e))]
                        exact hK undef _ (AnyO.InvG.step (g := σ) hP rfl hW)
                      · -- 9: Op.move (Operand.tmp 4)
                        refine AnyO.StepI.mk rfl [6] (by kernel_rfl) ?_
                        intro D vs u hI h0 hC hp ac hb K hK
                        obtain ⟨σ, hP, hW⟩ := hI
                        have s4 : ac.tmps[4]?.getD undef = .slice (some A) n n := by rw [hb]; kernel_rfl
                        have s66 : ac.tmps[66]?.getD undef = .bool false := by rw [hb]; exact (show _ = vs 6 by kernel_rfl).trans (show vs 6 = .bool false from hP 6 (hp 6 (by decide)))
                        rw [if_neg (AnyO.wanted_not (g := 6) (t := 66) (want := true) rfl rfl s66 (fun e => by cases e))]
                        exact hK undef _ (AnyO.InvG.step (g := σ) hP rfl hW)
                      · -- 10: Op.indexAddr 72 (Operand.tmp 69) (Operand.const (Value.int I
                        refine AnyO.StepI.mk rfl [9, 6] (by kernel_rfl) ?_
                        intro D vs u hI h0 hC hp ac hb K hK
                        obtain ⟨σ, hP, hW⟩ := hI
                        have s69 : ac.tmps[69]?.getD undef = undef := by rw [hb]; exact (show _ = vs 9 by kernel_rfl).trans (show vs 9 = undef from hP 9 (hp 9 (by decide)))
                        have s66 : ac.tmps[66]?.getD undef = .bool false := by rw [hb]; exact (show _ = vs 6 by kernel_rfl).trans (show vs 6 = .bool false from hP 6 (hp 6 (by decide)))
                        rw [if_neg (AnyO.wanted_not (g := 6) (t := 66) (want := true) rfl rfl s66 (fun e => by cases e))]
                        exact hK undef _ (AnyO.InvG.step (g := σ) hP rfl hW)
                      · -- 11: Op.load 9 (Operand.tmp 70)
                        refine AnyO.StepI.mk rfl [10, 6] (by kernel_rfl) ?_
                        intro D vs u hI h0 hC hp ac hb K hK
                        obtain ⟨σ, hP, hW⟩ := hI
                        have s70 : ac.tmps[70]?.getD undef = undef := by rw [hb]; exact (show _ = vs 10 by kernel_rfl).trans (show vs 10 = undef from hP 10 (hp 10 (by decide)))
                        have s66 : ac.tmps[66]?.getD undef = .bool false := by rw [hb]; exact (show _ = vs 6 by kernel_rfl).trans (show vs 6 = .bool false from hP 6 (hp 6 (by decide)))
                        rw [if_neg (AnyO.wanted_not (g := 6) (t := 66) (want := true) rfl rfl s66 (fun e => by cases e))]
                        exact hK undef _ (AnyO.InvG.step (g := σ) hP rfl hW)
                      · -- 12: Op.call { callee := Callee.value (Operand.tmp 68), args := #
                        refine AnyO.StepI.mk rfl [8, 11, 6, 6] (by kernel_rfl) ?_
                        intro D vs u hI h0 hC hp ac hb K hK
                        obtain ⟨σ, hP, hW⟩ := hI
                        have s68 : ac.tmps[68]?.getD undef = undef := by rw [hb]; exact (show _ = vs 8 by kernel_rfl).trans (show vs 8 = undef from hP 8 (hp 8 (by decide)))
                        have s71 : ac.tmps[71]?.getD undef = undef := by rw [hb]; exact (show _ = vs 11 by kernel_rfl).trans (show vs 11 = undef from hP 11 (hp 11 (by decide)))
                        have s66 : ac.tmps[66]?.getD undef = .bool false := by rw [hb]; exact (show _ = vs 6 by kernel_rfl).trans (show vs 6 = .bool false from hP 6 (hp 6 (by decide)))
                        rw [if_neg (AnyO.wanted_not (g := 6) (t := 66) (want := true) rfl rfl s66 (fun e => by cases e))]
                        exact hK undef _ (AnyO.InvG.step (g := σ) hP rfl hW)
                      · -- 13: Op.pick (Operand.tmp 66) (Operand.tmp 72) (Operand.const (Va
                        refine AnyO.StepI.mk rfl [6, 12] (by kernel_rfl) ?_
                        intro D vs u hI h0 hC hp ac hb K hK
                        obtain ⟨σ, hP, hW⟩ := hI
                        have s66 : ac.tmps[66]?.getD undef = .bool false := by rw [hb]; exact (show _ = vs 6 by kernel_rfl).trans (show vs 6 = .bool false from hP 6 (hp 6 (by decide)))
                        have s72 : ac.tmps[72]?.getD undef = undef := by rw [hb]; exact (show _ = vs 12 by kernel_rfl).trans (show vs 12 = undef from hP 12 (hp 12 (by decide)))
                        rw [if_pos (AnyO.wanted_none rfl)]
                        clear hb hp
                        clear hC
                        clear h0
                        have HP := Lib.hid hP
                        have HWq := Lib.hid hW
                        clear hP hW
                        go_simp
                        have hP := HP.out
                        have hW := HWq.out
                        clear HP HWq
                        exact hK _ _ (AnyO.InvG.step (g := σ) hP rfl hW)
                      · -- 14: Op.assign (Operand.tmp 73)
                        refine AnyO.StepI.mk rfl [13, 12, 0, 1, 2, 3, 4, 5, 6, 7, 8, 9, 10, 11, 12, 13] (by kernel_rfl) ?_
                        intro D vs u hI h0 hC hp ac hb K hK
                        obtain ⟨σ, hP, hW⟩ := hI
                        have s73 : ac.tmps[73]?.getD undef = .bool false := by rw [hb]; exact (show _ = vs 13 by kernel_rfl).trans (show vs 13 = .bool false from hP 13 (hp 13 (by decide)))
                        rw [if_pos (AnyO.wanted_none rfl)]
                        clear hb hp
                        clear hC
                        clear h0
                        have HP := Lib.hid hP
                        have HWq := Lib.hid hW
                        clear hP hW
                        go_simp
                        have hP := HP.out
                        have hW := HWq.out
                        clear HP HWq
                        exact hK _ _ (AnyO.InvG.step (g := σ) hP rfl hW)
                    · intro D vs u hI hD
                      obtain ⟨σ, hP, hW⟩ := hI
                      have e0 : vs 0 = .bool false := hP 0 (hD 0 (by decide))
                      have e1 : vs 1 = .bool false := hP 1 (hD 1 (by decide))
                      have e2 : vs 2 = undef := hP 2 (hD 2 (by decide))
                      have e3 : vs 3 = undef := hP 3 (hD 3 (by decide))
                      have e4 : vs 4 = undef := hP 4 (hD 4 (by decide))
                      have e5 : vs 5 = .bool false := hP 5 (hD 5 (by decide))
                      have e6 : vs 6 = .bool false := hP 6 (hD 6 (by decide))
                      have e7 : vs 7 = undef := hP 7 (hD 7 (by decide))
                      have e8 : vs 8 = undef := hP 8 (hD 8 (by decide))
                      have e9 : vs 9 = undef := hP 9 (hD 9 (by decide))
                      have e10 : vs 10 = undef := hP 10 (hD 10 (by decide))
                      have e11 : vs 11 = undef := hP 11 (hD 11 (by decide))
                      have e12 : vs 12 = undef := hP 12 (hD 12 (by decide))
                      have e13 : vs 13 = .bool false := hP 13 (hD 13 (by decide))
                      have e14 : vs 14 = .bool false := hP 14 (hD 14 (by decide))
                      have HW := Lib.hid hW
                      clear hW hP hD
                      rw [puts_range [some 60, some 61, some 62, some 63, some 64, some 65, some 66, some 67, some 68, some 69, some 70, some 71, some 72, some 73, some 7] (by kernel_rfl)]
                      simp only [putL, Nat.reduceAdd, e0, e1, e2, e3, e4, e5, e6, e7, e8, e9, e10, e11, e12, e13, e14]
                      clear e0 e1 e2 e3 e4 e5 e6 e7 e8 e9 e10 e11 e12 e13 e14
                      go_simp
                      have hru := HG7.out.keep HW.out
                      have hou := HO7.out.trans (One.of_below HW.out)
                      have HU := Lib.hid (And.intro hru hou)
                      clear hru hou
                      rcases n with _ | _ | q
                      · go_wp2
                        go_roundw
                        case rel => exact ⟨j + 1, 0, o, _, false, c, by omega, by go_num, rfl, rfl, by omega, (fun h => absurd h (by omega)), by rw [HFD.out, HSP.out]; (rw [(show ps.drop o = [] from List.drop_eq_nil_of_le (by rw [HN.out.1]; omega))]; rfl), hcv, HU.out.1, HU.out.2⟩
                        case measure => simp [intOf] <;> omega
                      · go_wp2
                        go_roundw
                        case rel => exact ⟨j + 1, 0, o + 1, _, false, c, by omega, by go_num, rfl, rfl, by omega, (fun h => absurd h (by omega)), by rw [HFD.out, HSP.out]; (show ((false, (ps.drop o).drop 1, c) : PSt) = _; rw [List.drop_drop]), hcv, HU.out.1, HU.out.2⟩
                        case measure => simp [intOf] <;> omega
                      · obtain rfl := hA (by omega)
                        have hmin : min 1 ((q : Int) + 1 + 1) = 1 := by omega
                        go_wp2
                        go_roundw
                        case rel => exact ⟨j + 1, q + 1, o + 1, ⟨b2, o + 1, none⟩, false, c, by omega, by go_num, rfl, rfl, by omega, (fun _ => rfl), by rw [HFD.out, HSP.out]; (show ((false, (ps.drop o).drop 1, c) : PSt) = _; rw [List.drop_drop]), hcv, HU.out.1, HU.out.2⟩
                        case measure => simp [intOf] <;> omega
                  | true =>
                    by_cases hn0 : n = 0
                    · subst hn0
                      go_wp2_with fail
                      refine AnyO.wp_anyI (by kernel_rfl) (by kernel_rfl) (AnyO.InvG (σ := Unit) (fun σ => AnyO.pvL [some (.bool true), some (.bool true), some (.slice (some A) 0 0), some (.int .i64 0), some (.bool false), some (.bool false), some (.bool false), some (undef), some (undef), some (undef), some (undef), some (undef), some (undef), some (.bool false), some (.bool false)]) (fun _ _ x => Below U.heap.size U x)) (AnyO.InvG.start (g := ()) ((Below.refl _ _).drew)) ?_ ?_
                      · intro i hi
                        have hi2 : i = 0 ∨ i = 1 ∨ i = 2 ∨ i = 3 ∨ i = 4 ∨ i = 5 ∨ i = 6 ∨ i = 7 ∨ i = 8 ∨ i = 9 ∨ i = 10 ∨ i = 11 ∨ i = 12 ∨ i = 13 ∨ i = 14 := by simp only [List.size_toArray, List.length_cons, List.length_nil] at hi; omega
                        clear hi
                        rcases hi2 with rfl | rfl | rfl | rfl | rfl | rfl | rfl | rfl | rfl | rfl | rfl | rfl | rfl | rfl | rfl
                        · -- 0: Op.move (Operand.tmp 7)
                          refine AnyO.StepI.mk rfl [] (by kernel_rfl) ?_
                          intro D vs u hI h0 hC hp ac hb K hK
                          obtain ⟨σ, hP, hW⟩ := hI
                          have s7 : ac.tmps[7]?.getD undef = .bool true := by rw [hb]; kernel_rfl
                          rw [if_pos (AnyO.wanted_none rfl)]
                          clear hb hp
                          clear hC
                          clear h0
                          have HP := Lib.hid hP
                          have HWq := Lib.hid hW
                          clear hP hW
                          go_simp
                          have hP := HP.out
                          have hW := HWq.out
                          clear HP HWq
                          exact hK _ _ (AnyO.InvG.step (g := σ) hP rfl hW)
                        · -- 1: Op.move (Operand.tmp 60)
                          refine AnyO.StepI.mk rfl [0] (by kernel_rfl) ?_
                          intro D vs u hI h0 hC hp ac hb K hK
                          obtain ⟨σ, hP, hW⟩ := hI
                          have s60 : ac.tmps[60]?.getD undef = .bool true := by rw [hb]; exact (show _ = vs 0 by kernel_rfl).trans (show vs 0 = .bool true from hP 0 (hp 0 (by decide)))
                          rw [if_pos (AnyO.wanted_none rfl)]
                          clear hb hp
                          clear hC
                          clear h0
                          have HP := Lib.hid hP
                          have HWq := Lib.hid hW
                          clear hP hW
                          go_simp
                          have hP := HP.out
                          have hW := HWq.out
                          clear HP HWq
                          exact hK _ _ (AnyO.InvG.step (g := σ) hP rfl hW)
                        · -- 2: Op.move (Operand.tmp 4)
                          refine AnyO.StepI.mk rfl [1] (by kernel_rfl) ?_
                          intro D vs u hI h0 hC hp ac hb K hK
                          obtain ⟨σ, hP, hW⟩ := hI
                          have s4 : ac.tmps[4]?.getD undef = .slice (some A) 0 0 := by rw [hb]; kernel_rfl
                          have s61 : ac.tmps[61]?.getD undef = .bool true := by rw [hb]; exact (show _ = vs 1 by kernel_rfl).trans (show vs 1 = .bool true from hP 1 (hp 1 (by decide)))
                          rw [if_pos (AnyO.wanted_some (g := 1) (t := 61) (want := true) rfl rfl s61)]
                          clear hb hp
                          clear hC
                          clear h0
                          have HP := Lib.hid hP
                          have HWq := Lib.hid hW
                          clear hP hW
                          go_simp
                          have hP := HP.out
                          have hW := HWq.out
                          clear HP HWq
                          exact hK _ _ (AnyO.InvG.step (g := σ) hP rfl hW)
                        · -- 3: Op.call { callee := Callee.builtin Builtin.len, args := #[Op
                          refine AnyO.StepI.mk rfl [2, 1] (by kernel_rfl) ?_
                          intro D vs u hI h0 hC hp ac hb K hK
                          obtain ⟨σ, hP, hW⟩ := hI
                          have s62 : ac.tmps[62]?.getD undef = .slice (some A) 0 0 := by rw [hb]; exact (show _ = vs 2 by kernel_rfl).trans (show vs 2 = .slice (some A) 0 0 from hP 2 (hp 2 (by decide)))
                          have s61 : ac.tmps[61]?.getD undef = .bool true := by rw [hb]; exact (show _ = vs 1 by kernel_rfl).trans (show vs 1 = .bool true from hP 1 (hp 1 (by decide)))
                          rw [if_pos (AnyO.wanted_some (g := 1) (t := 61) (want := true) rfl rfl s61)]
                          clear hb hp
                          clear hC
                          clear h0
                          have HP := Lib.hid hP
                          have HWq := Lib.hid hW
                          clear hP hW
                          go_simp
                          have hP := HP.out
                          have hW := HWq.out
                          clear HP HWq
                          exact hK _ _ (AnyO.InvG.step (g := σ) hP rfl hW)
                        · -- 4: Op.binOp BinOp.gtr 3 (Operand.tmp 63) (Operand.const (Value.
                          refine AnyO.StepI.mk rfl [3, 1] (by kernel_rfl) ?_
                          intro D vs u hI h0 hC hp ac hb K hK
                          obtain ⟨σ, hP, hW⟩ := hI
                          have s63 : ac.tmps[63]?.getD undef = .int .i64 0 := by rw [hb]; exact (show _ = vs 3 by kernel_rfl).trans (show vs 3 = .int .i64 0 from hP 3 (hp 3 (by decide)))
                          have s61 : ac.tmps[61]?.getD undef = .bool true := by rw [hb]; exact (show _ = vs 1 by kernel_rfl).trans (show vs 1 = .bool true from hP 1 (hp 1 (by decide)))
                          rw [if_pos (AnyO.wanted_some (g := 1) (t := 61) (want := true) rfl rfl s61)]
                          clear hb hp
                          clear hC
                          clear h0
                          have HP := Lib.hid hP
                          have HWq := Lib.hid hW
                          clear hP hW
                          go_simp
                          have hP := HP.out
                          have hW := HWq.out
                          clear HP HWq
                          exact hK _ _ (AnyO.InvG.step (g := σ) hP rfl hW)
                        · -- 5: Op.pick (Operand.tmp 61) (Operand.tmp 64) (Operand.const (Va
                          refine AnyO.StepI.mk rfl [1, 4] (by kernel_rfl) ?_
                          intro D vs u hI h0 hC hp ac hb K hK
                          obtain ⟨σ, hP, hW⟩ := hI
                          have s61 : ac.tmps[61]?.getD undef = .bool true := by rw [hb]; exact (show _ = vs 1 by kernel_rfl).trans (show vs 1 = .bool true from hP 1 (hp 1 (by decide)))
                          have s64 : ac.tmps[64]?.getD undef = .bool false := by rw [hb]; exact (show _ = vs 4 by kernel_rfl).trans (show vs 4 = .bool false from hP 4 (hp 4 (by decide)))
                          rw [if_pos (AnyO.wanted_none rfl)]
                          clear hb hp
                          clear hC
                          clear h0
                          have HP := Lib.hid hP
                          have HWq := Lib.hid hW
                          clear hP hW
                          go_simp
                          have hP := HP.out
                          have hW := HWq.out
                          clear HP HWq
                          exact hK _ _ (AnyO.InvG.step (g := σ) hP rfl hW)
                        · -- 6: Op.move (Operand.tmp 65)
                          refine AnyO.StepI.mk rfl [5, 1] (by kernel_rfl) ?_
                          intro D vs u hI h0 hC hp ac hb K hK
                          obtain ⟨σ, hP, hW⟩ := hI
                          have s65 : ac.tmps[65]?.getD undef = .bool false := by rw [hb]; exact (show _ = vs 5 by kernel_rfl).trans (show vs 5 = .bool false from hP 5 (hp 5 (by decide)))
                          rw [if_pos (AnyO.wanted_none rfl)]
                          clear hb hp
                          clear hC
                          clear h0
                          have HP := Lib.hid hP
                          have HWq := Lib.hid hW
                          clear hP hW
                          go_simp
                          have hP := HP.out
                          have hW := HWq.out
                          clear HP HWq
                          exact hK _ _ (AnyO.InvG.step (g := σ) hP rfl hW)
                        · -- 7: Op.fieldAddr 100 (Operand.tmp 9) 1
                          refine AnyO.StepI.mk rfl [6] (by kernel_rfl) ?_
                          intro D vs u hI h0 hC hp ac hb K hK
                          obtain ⟨σ, hP, hW⟩ := hI
                          have s9 : ac.tmps[9]?.getD undef = .pointer (some ⟨t9, 0, none⟩) := by rw [hb]; kernel_rfl
                          have s66 : ac.tmps[66]?.getD undef = .bool false := by rw [hb]; exact (show _ = vs 6 by kernel_rfl).trans (show vs 6 = .bool false from hP 6 (hp 6 (by decide)))
                          rw [if_neg (AnyO.wanted_not (g := 6) (t := 66) (want := true) rfl rfl s66 (fun e => by cases e))]
                          exact hK undef _ (AnyO.InvG.step (g := σ) hP rfl hW)
                        · -- 8: Op.load 35 (Operand.tmp 67)
                          refine AnyO.StepI.mk rfl [7, 6] (by kernel_rfl) ?_
                          intro D vs u hI h0 hC hp ac hb K hK
                          obtain ⟨σ, hP, hW⟩ := hI
                          have s67 : ac.tmps[67]?.getD undef = undef := by rw [hb]; exact (show _ = vs 7 by kernel_rfl).trans (show vs 7 = undef from hP 7 (hp 7 (by decide)))
                          have s66 : ac.tmps[66]?.getD undef = .bool false := by rw [hb]; exact (show _ = vs 6 by kernel_rfl).trans (show vs 6 = .bool false from hP 6 (hp 6 (by decide)))
                          rw [if_neg (AnyO.wanted_not (g := 6) (t := 66) (want := true) rfl rfl s66 (fun e => by cases e))]
                          exact hK undef _ (AnyO.InvG.step (g := σ) hP rfl hW)
                        · -- 9: Op.move (Operand.tmp 4)
                          refine AnyO.StepI.mk rfl [6] (by kernel_rfl) ?_
                          intro D vs u hI h0 hC hp ac hb K hK
                          obtain ⟨σ, hP, hW⟩ := hI
                          have s4 : ac.tmps[4]?.getD undef = .slice (some A) 0 0 := by rw [hb]; kernel_rfl
                          have s66 : ac.tmps[66]?.getD undef = .bool false := by rw [hb]; exact (show _ = vs 6 by kernel_rfl).trans (show vs 6 = .bool false from hP 6 (hp 6 (by decide)))
                          rw [if_neg (AnyO.wanted_not (g := 6) (t := 66) (want := true) rfl rfl s66 (fun e => by cases e))]
                          exact hK undef _ (AnyO.InvG.step (g := σ) hP rfl hW)
                        · -- 10: Op.indexAddr 72 (Operand.tmp 69) (Operand.const (Value.int I
                          refine AnyO.StepI.mk rfl [9, 6] (by kernel_rfl) ?_
                          intro D vs u hI h0 hC hp ac hb K hK
                          obtain ⟨σ, hP, hW⟩ := hI
                          have s69 : ac.tmps[69]?.getD undef = undef := by rw [hb]; exact (show _ = vs 9 by kernel_rfl).trans (show vs 9 = undef from hP 9 (hp 9 (by decide)))
                          have s66 : ac.tmps[66]?.getD undef = .bool false := by rw [hb]; exact (show _ = vs 6 by kernel_rfl).trans (show vs 6 = .bool false from hP 6 (hp 6 (by decide)))
                          rw [if_neg (AnyO.wanted_not (g := 6) (t := 66) (want := true) rfl rfl s66 (fun e => by cases e))]
                          exact hK undef _ (AnyO.InvG.step (g := σ) hP rfl hW)
                        · -- 11: Op.load 9 (Operand.tmp 70)
                          refine AnyO.StepI.mk rfl [10, 6] (by kernel_rfl) ?_
                          intro D vs u hI h0 hC hp ac hb K hK
                          obtain ⟨σ, hP, hW⟩ := hI
                          have s70 : ac.tmps[70]?.getD undef = undef := by rw [hb]; exact (show _ = vs 10 by kernel_rfl).trans (show vs 10 = undef from hP 10 (hp 10 (by decide)))
                          have s66 : ac.tmps[66]?.getD undef = .bool false := by rw [hb]; exact (show _ = vs 6 by kernel_rfl).trans (show vs 6 = .bool false from hP 6 (hp 6 (by decide)))
                          rw [if_neg (AnyO.wanted_not (g := 6) (t := 66) (want := true) rfl rfl s66 (fun e => by cases e))]
                          exact hK undef _ (AnyO.InvG.step (g := σ) hP rfl hW)
                        · -- 12: Op.call { callee := Callee.value (Operand.tmp 68), args := #
                          refine AnyO.StepI.mk rfl [8, 11, 6, 6] (by kernel_rfl) ?_
                          intro D vs u hI h0 hC hp ac hb K hK
                          obtain ⟨σ, hP, hW⟩ := hI
                          have s68 : ac.tmps[68]?.getD undef = undef := by rw [hb]; exact (show _ = vs 8 by kernel_rfl).trans (show vs 8 = undef from hP 8 (hp 8 (by decide)))
                          have s71 : ac.tmps[71]?.getD undef = undef := by rw [hb]; exact (show _ = vs 11 by kernel_rfl).trans (show vs 11 = undef from hP 11 (hp 11 (by decide)))
                          have s66 : ac.tmps[66]?.getD undef = .bool false := by rw [hb]; exact (show _ = vs 6 by kernel_rfl).trans (show vs 6 = .bool false from hP 6 (hp 6 (by decide)))
                          rw [if_neg (AnyO.wanted_not (g := 6) (t := 66) (want := true) rfl rfl s66 (fun e => by cases e))]
                          exact hK undef _ (AnyO.InvG.step (g := σ) hP rfl hW)
                        · -- 13: Op.pick (Operand.tmp 66) (Operand.tmp 72) (Operand.const (Va
                          refine AnyO.StepI.mk rfl [6, 12] (by kernel_rfl) ?_
                          intro D vs u hI h0 hC hp ac hb K hK
                          obtain ⟨σ, hP, hW⟩ := hI
                          have s66 : ac.tmps[66]?.getD undef = .bool false := by rw [hb]; exact (show _ = vs 6 by kernel_rfl).trans (show vs 6 = .bool false from hP 6 (hp 6 (by decide)))
                          have s72 : ac.tmps[72]?.getD undef = undef := by rw [hb]; exact (show _ = vs 12 by kernel_rfl).trans (show vs 12 = undef from hP 12 (hp 12 (by decide)))
                          rw [if_pos (AnyO.wanted_none rfl)]
                          clear hb hp
                          clear hC
                          clear h0
                          have HP := Lib.hid hP
                          have HWq := Lib.hid hW
                          clear hP hW
                          go_simp
                          have hP := HP.out
                          have hW := HWq.out
                          clear HP HWq
                          exact hK _ _ (AnyO.InvG.step (g := σ) hP rfl hW)
                        · -- 14: Op.assign (Operand.tmp 73)
                          refine AnyO.StepI.mk rfl [13, 12, 0, 1, 2, 3, 4, 5, 6, 7, 8, 9, 10, 11, 12, 13] (by kernel_rfl) ?_
                          intro D vs u hI h0 hC hp ac hb K hK
                          obtain ⟨σ, hP, hW⟩ := hI
                          have s73 : ac.tmps[73]?.getD undef = .bool false := by rw [hb]; exact (show _ = vs 13 by kernel_rfl).trans (show vs 13 = .bool false from hP 13 (hp 13 (by decide)))
                          rw [if_pos (AnyO.wanted_none rfl)]
                          clear hb hp
                          clear hC
                          clear h0
                          have HP := Lib.hid hP
                          have HWq := Lib.hid hW
                          clear hP hW
                          go_simp
                          have hP := HP.out
                          have hW := HWq.out
                          clear HP HWq
                          exact hK _ _ (AnyO.InvG.step (g := σ) hP rfl hW)
                      · intro D vs u hI hD
                        obtain ⟨σ, hP, hW⟩ := hI
                        have e0 : vs 0 = .bool true := hP 0 (hD 0 (by decide))
                        have e1 : vs 1 = .bool true := hP 1 (hD 1 (by decide))
                        have e2 : vs 2 = .slice (some A) 0 0 := hP 2 (hD 2 (by decide))
                        have e3 : vs 3 = .int .i64 0 := hP 3 (hD 3 (by decide))
                        have e4 : vs 4 = .bool false := hP 4 (hD 4 (by decide))
                        have e5 : vs 5 = .bool false := hP 5 (hD 5 (by decide))
                        have e6 : vs 6 = .bool false := hP 6 (hD 6 (by decide))
                        have e7 : vs 7 = undef := hP 7 (hD 7 (by decide))
                        have e8 : vs 8 = undef := hP 8 (hD 8 (by decide))
                        have e9 : vs 9 = undef := hP 9 (hD 9 (by decide))
                        have e10 : vs 10 = undef := hP 10 (hD 10 (by decide))
                        have e11 : vs 11 = undef := hP 11 (hD 11 (by decide))
                        have e12 : vs 12 = undef := hP 12 (hD 12 (by decide))
                        have e13 : vs 13 = .bool false := hP 13 (hD 13 (by decide))
                        have e14 : vs 14 = .bool false := hP 14 (hD 14 (by decide))
                        have HW := Lib.hid hW
                        clear hW hP hD
                        rw [puts_range [some 60, some 61, some 62, some 63, some 64, some 65, some 66, some 67, some 68, some 69, some 70, some 71, some 72, some 73, some 7] (by kernel_rfl)]
                        simp only [putL, Nat.reduceAdd, e0, e1, e2, e3, e4, e5, e6, e7, e8, e9, e10, e11, e12, e13, e14]
                        clear e0 e1 e2 e3 e4 e5 e6 e7 e8 e9 e10 e11 e12 e13 e14
                        go_simp
                        have hru := HG7.out.keep HW.out
                        have hou := HO7.out.trans (One.of_below HW.out)
                        have HU := Lib.hid (And.intro hru hou)
                        clear hru hou
                        go_wp2
                        go_roundw
                        case rel => exact ⟨j + 1, 0, o, _, false, c, by omega, by go_num, rfl, rfl, by omega, (fun h => absurd h (by omega)), by rw [HFD.out, HSP.out]; (rw [(show ps.drop o = [] from List.drop_eq_nil_of_le (by rw [HN.out.1]; omega))]; rfl), hcv, HU.out.1, HU.out.2⟩
                        case measure => simp [intOf] <;> omega
                    · have hnp : 0 < n := by omega
                      obtain rfl := hA hnp
                      have hol : o < ps.length := by rw [HN.out.1]; omega
                      obtain ⟨x0, hx0⟩ : ∃ x, ps[o] = x := ⟨_, rfl⟩
                      have hdr : ps.drop o = x0 :: ps.drop (o + 1) := by rw [List.drop_eq_getElem_cons hol, hx0]
                      have hxs : x0.size ≤ 1000000 := HN.out.2.1 x0 (by rw [← hx0]; exact List.getElem_mem hol)
                      obtain ⟨⟨c2, rb⟩, hrf⟩ : ∃ r, readF a x0 c = r := ⟨_, rfl⟩
                      have hc2 : c2.verb = (v : Int) := by rw [← hcv, ← readF_verb a x0 c, hrf]
                      have kx : U.cell? ⟨b2, o, none⟩ = some (.string x0) := by rw [← hx0]; exact WsAt.cell HW7.out hol
                      have HRF := Lib.hid hrf
                      have HX0 := Lib.hid (And.intro kx hdr)
                      clear hx0 hrf kx hdr
                      go_wp2_with fail
                      refine AnyO.wp_anyI (by kernel_rfl) (by kernel_rfl) (AnyO.InvG (σ := Unit) (fun σ => AnyO.pvL [some (.bool true), some (.bool true), some (.slice (some ⟨b2, o, none⟩) n n), some (.int .i64 (n : Int)), some (.bool true), some (.bool true), some (.bool true), some (.pointer (some ⟨t9, 1, none⟩)), some (.func (.func F) #[] #[.pointer (some ⟨g, 0, none⟩)]), some (.slice (some ⟨b2, o, none⟩) n n), some (.pointer (some ⟨b2, o, none⟩)), some (.string x0), some (.bool rb), some (.bool rb), some (.bool rb)]) (fun _ D x => (D 12 = false → Below U.heap.size U x) ∧ (D 12 = true → Row x g (cC c2) 27 ∧ One g U x))) (AnyO.InvG.start (g := ()) (⟨fun _ => (Below.refl _ _).drew, fun h => by cases h⟩)) ?_ ?_
                      · intro i hi
                        have hi2 : i = 0 ∨ i = 1 ∨ i = 2 ∨ i = 3 ∨ i = 4 ∨ i = 5 ∨ i = 6 ∨ i = 7 ∨ i = 8 ∨ i = 9 ∨ i = 10 ∨ i = 11 ∨ i = 12 ∨ i = 13 ∨ i = 14 := by simp only [List.size_toArray, List.length_cons, List.length_nil] at hi; omega
                        clear hi
                        rcases hi2 with rfl | rfl | rfl | rfl | rfl | rfl | rfl | rfl | rfl | rfl | rfl | rfl | rfl | rfl | rfl
                        · -- 0: Op.move (Operand.tmp 7)
                          refine AnyO.StepI.mk rfl [] (by kernel_rfl) ?_
                          intro D vs u hI h0 hC hp ac hb K hK
                          obtain ⟨σ, hP, hW⟩ := hI
                          have s7 : ac.tmps[7]?.getD undef = .bool true := by rw [hb]; kernel_rfl
                          rw [if_pos (AnyO.wanted_none rfl)]
                          clear hb hp
                          clear hC
                          clear h0
                          have HP := Lib.hid hP
                          have HWq := Lib.hid hW
                          clear hP hW
                          go_simp
                          have hP := HP.out
                          have hW := HWq.out
                          clear HP HWq
                          exact hK _ _ (AnyO.InvG.step (g := σ) hP rfl hW)
                        · -- 1: Op.move (Operand.tmp 60)
                          refine AnyO.StepI.mk rfl [0] (by kernel_rfl) ?_
                          intro D vs u hI h0 hC hp ac hb K hK
                          obtain ⟨σ, hP, hW⟩ := hI
                          have s60 : ac.tmps[60]?.getD undef = .bool true := by rw [hb]; exact (show _ = vs 0 by kernel_rfl).trans (show vs 0 = .bool true from hP 0 (hp 0 (by decide)))
                          rw [if_pos (AnyO.wanted_none rfl)]
                          clear hb hp
                          clear hC
                          clear h0
                          have HP := Lib.hid hP
                          have HWq := Lib.hid hW
                          clear hP hW
                          go_simp
                          have hP := HP.out
                          have hW := HWq.out
                          clear HP HWq
                          exact hK _ _ (AnyO.InvG.step (g := σ) hP rfl hW)
                        · -- 2: Op.move (Operand.tmp 4)
                          refine AnyO.StepI.mk rfl [1] (by kernel_rfl) ?_
                          intro D vs u hI h0 hC hp ac hb K hK
                          obtain ⟨σ, hP, hW⟩ := hI
                          have s4 : ac.tmps[4]?.getD undef = .slice (some ⟨b2, o, none⟩) n n := by rw [hb]; kernel_rfl
                          have s61 : ac.tmps[61]?.getD undef = .bool true := by rw [hb]; exact (show _ = vs 1 by kernel_rfl).trans (show vs 1 = .bool true from hP 1 (hp 1 (by decide)))
                          rw [if_pos (AnyO.wanted_some (g := 1) (t := 61) (want := true) rfl rfl s61)]
                          clear hb hp
                          clear hC
                          clear h0
                          have HP := Lib.hid hP
                          have HWq := Lib.hid hW
                          clear hP hW
                          go_simp
                          have hP := HP.out
                          have hW := HWq.out
                          clear HP HWq
                          exact hK _ _ (AnyO.InvG.step (g := σ) hP rfl hW)
                        · -- 3: Op.call { callee := Callee.builtin Builtin.len, args := #[Op
                          refine AnyO.StepI.mk rfl [2, 1] (by kernel_rfl) ?_
                          intro D vs u hI h0 hC hp ac hb K hK
                          obtain ⟨σ, hP, hW⟩ := hI
                          have s62 : ac.tmps[62]?.getD undef = .slice (some ⟨b2, o, none⟩) n n := by rw [hb]; exact (show _ = vs 2 by kernel_rfl).trans (show vs 2 = .slice (some ⟨b2, o, none⟩) n n from hP 2 (hp 2 (by decide)))
                          have s61 : ac.tmps[61]?.getD undef = .bool true := by rw [hb]; exact (show _ = vs 1 by kernel_rfl).trans (show vs 1 = .bool true from hP 1 (hp 1 (by decide)))
                          rw [if_pos (AnyO.wanted_some (g := 1) (t := 61) (want := true) rfl rfl s61)]
                          clear hb hp
                          clear hC
                          clear h0
                          have HP := Lib.hid hP
                          have HWq := Lib.hid hW
                          clear hP hW
                          go_simp
                          have hP := HP.out
                          have hW := HWq.out
                          clear HP HWq
                          exact hK _ _ (AnyO.InvG.step (g := σ) hP rfl hW)
                        · -- 4: Op.binOp BinOp.gtr 3 (Operand.tmp 63) (Operand.const (Value.
                          refine AnyO.StepI.mk rfl [3, 1] (by kernel_rfl) ?_
                          intro D vs u hI h0 hC hp ac hb K hK
                          obtain ⟨σ, hP, hW⟩ := hI
                          have s63 : ac.tmps[63]?.getD undef = .int .i64 (n : Int) := by rw [hb]; exact (show _ = vs 3 by kernel_rfl).trans (show vs 3 = .int .i64 (n : Int) from hP 3 (hp 3 (by decide)))
                          have s61 : ac.tmps[61]?.getD undef = .bool true := by rw [hb]; exact (show _ = vs 1 by kernel_rfl).trans (show vs 1 = .bool true from hP 1 (hp 1 (by decide)))
                          rw [if_pos (AnyO.wanted_some (g := 1) (t := 61) (want := true) rfl rfl s61)]
                          clear hb hp
                          clear hC
                          clear h0
                          have HP := Lib.hid hP
                          have HWq := Lib.hid hW
                          clear hP hW
                          go_simp
                          have hP := HP.out
                          have hW := HWq.out
                          clear HP HWq
                          exact hK _ _ (AnyO.InvG.step (g := σ) hP rfl hW)
                        · -- 5: Op.pick (Operand.tmp 61) (Operand.tmp 64) (Operand.const (Va
                          refine AnyO.StepI.mk rfl [1, 4] (by kernel_rfl) ?_
                          intro D vs u hI h0 hC hp ac hb K hK
                          obtain ⟨σ, hP, hW⟩ := hI
                          have s61 : ac.tmps[61]?.getD undef = .bool true := by rw [hb]; exact (show _ = vs 1 by kernel_rfl).trans (show vs 1 = .bool true from hP 1 (hp 1 (by decide)))
                          have s64 : ac.tmps[64]?.getD undef = .bool true := by rw [hb]; exact (show _ = vs 4 by kernel_rfl).trans (show vs 4 = .bool true from hP 4 (hp 4 (by decide)))
                          rw [if_pos (AnyO.wanted_none rfl)]
                          clear hb hp
                          clear hC
                          clear h0
                          have HP := Lib.hid hP
                          have HWq := Lib.hid hW
                          clear hP hW
                          go_simp
                          have hP := HP.out
                          have hW := HWq.out
                          clear HP HWq
                          exact hK _ _ (AnyO.InvG.step (g := σ) hP rfl hW)
                        · -- 6: Op.move (Operand.tmp 65)
                          refine AnyO.StepI.mk rfl [5, 1] (by kernel_rfl) ?_
                          intro D vs u hI h0 hC hp ac hb K hK
                          obtain ⟨σ, hP, hW⟩ := hI
                          have s65 : ac.tmps[65]?.getD undef = .bool true := by rw [hb]; exact (show _ = vs 5 by kernel_rfl).trans (show vs 5 = .bool true from hP 5 (hp 5 (by decide)))
                          rw [if_pos (AnyO.wanted_none rfl)]
                          clear hb hp
                          clear hC
                          clear h0
                          have HP := Lib.hid hP
                          have HWq := Lib.hid hW
                          clear hP hW
                          go_simp
                          have hP := HP.out
                          have hW := HWq.out
                          clear HP HWq
                          exact hK _ _ (AnyO.InvG.step (g := σ) hP rfl hW)
                        · -- 7: Op.fieldAddr 100 (Operand.tmp 9) 1
                          refine AnyO.StepI.mk rfl [6] (by kernel_rfl) ?_
                          intro D vs u hI h0 hC hp ac hb K hK
                          obtain ⟨σ, hP, hW⟩ := hI
                          have s9 : ac.tmps[9]?.getD undef = .pointer (some ⟨t9, 0, none⟩) := by rw [hb]; kernel_rfl
                          have s66 : ac.tmps[66]?.getD undef = .bool true := by rw [hb]; exact (show _ = vs 6 by kernel_rfl).trans (show vs 6 = .bool true from hP 6 (hp 6 (by decide)))
                          rw [if_pos (AnyO.wanted_some (g := 6) (t := 66) (want := true) rfl rfl s66)]
                          clear hb hp
                          clear hC
                          clear h0
                          have HP := Lib.hid hP
                          have HWq := Lib.hid hW
                          clear hP hW
                          go_simp
                          have hP := HP.out
                          have hW := HWq.out
                          clear HP HWq
                          exact hK _ _ (AnyO.InvG.step (g := σ) hP rfl hW)
                        · -- 8: Op.load 35 (Operand.tmp 67)
                          refine AnyO.StepI.mk rfl [7, 6] (by kernel_rfl) ?_
                          intro D vs u hI h0 hC hp ac hb K hK
                          obtain ⟨σ, hP, hW⟩ := hI
                          have s67 : ac.tmps[67]?.getD undef = .pointer (some ⟨t9, 1, none⟩) := by rw [hb]; exact (show _ = vs 7 by kernel_rfl).trans (show vs 7 = .pointer (some ⟨t9, 1, none⟩) from hP 7 (hp 7 (by decide)))
                          have s66 : ac.tmps[66]?.getD undef = .bool true := by rw [hb]; exact (show _ = vs 6 by kernel_rfl).trans (show vs 6 = .bool true from hP 6 (hp 6 (by decide)))
                          rw [if_pos (AnyO.wanted_some (g := 6) (t := 66) (want := true) rfl rfl s66)]
                          clear hb hp
                          have hf12 : D 12 = false := by
                            rcases hd : D 12 with _ | _
                            · rfl
                            · have hz := hC 12 hd 8 (by rw [show AnyO.pre _ 12 = [8, 11, 6, 6] from by kernel_rfl]; decide)
                              rw [h0] at hz
                              cases hz
                          have hWb := hW.1 hf12
                          have rr : u.cell? ⟨t9, 1, none⟩ = some (.func (.func F) #[] #[.pointer (some ⟨g, 0, none⟩)]) := (HT7.out.keep hWb).cell 1
                          clear hC
                          clear h0
                          have HP := Lib.hid hP
                          have HWq := Lib.hid hW
                          clear hP hW
                          go_simp
                          have hP := HP.out
                          have hW := HWq.out
                          clear HP HWq
                          exact hK _ _ (AnyO.InvG.step (g := σ) hP rfl hW)
                        · -- 9: Op.move (Operand.tmp 4)
                          refine AnyO.StepI.mk rfl [6] (by kernel_rfl) ?_
                          intro D vs u hI h0 hC hp ac hb K hK
                          obtain ⟨σ, hP, hW⟩ := hI
                          have s4 : ac.tmps[4]?.getD undef = .slice (some ⟨b2, o, none⟩) n n := by rw [hb]; kernel_rfl
                          have s66 : ac.tmps[66]?.getD undef = .bool true := by rw [hb]; exact (show _ = vs 6 by kernel_rfl).trans (show vs 6 = .bool true from hP 6 (hp 6 (by decide)))
                          rw [if_pos (AnyO.wanted_some (g := 6) (t := 66) (want := true) rfl rfl s66)]
                          clear hb hp
                          clear hC
                          clear h0
                          have HP := Lib.hid hP
                          have HWq := Lib.hid hW
                          clear hP hW
                          go_simp
                          have hP := HP.out
                          have hW := HWq.out
                          clear HP HWq
                          exact hK _ _ (AnyO.InvG.step (g := σ) hP rfl hW)
                        · -- 10: Op.indexAddr 72 (Operand.tmp 69) (Operand.const (Value.int I
                          refine AnyO.StepI.mk rfl [9, 6] (by kernel_rfl) ?_
                          intro D vs u hI h0 hC hp ac hb K hK
                          obtain ⟨σ, hP, hW⟩ := hI
                          have s69 : ac.tmps[69]?.getD undef = .slice (some ⟨b2, o, none⟩) n n := by rw [hb]; exact (show _ = vs 9 by kernel_rfl).trans (show vs 9 = .slice (some ⟨b2, o, none⟩) n n from hP 9 (hp 9 (by decide)))
                          have s66 : ac.tmps[66]?.getD undef = .bool true := by rw [hb]; exact (show _ = vs 6 by kernel_rfl).trans (show vs 6 = .bool true from hP 6 (hp 6 (by decide)))
                          rw [if_pos (AnyO.wanted_some (g := 6) (t := 66) (want := true) rfl rfl s66)]
                          clear hb hp
                          clear hC
                          clear h0
                          have HP := Lib.hid hP
                          have HWq := Lib.hid hW
                          clear hP hW
                          go_simp
                          have hP := HP.out
                          have hW := HWq.out
                          clear HP HWq
                          exact hK _ _ (AnyO.InvG.step (g := σ) hP rfl hW)
                        · -- 11: Op.load 9 (Operand.tmp 70)
                          refine AnyO.StepI.mk rfl [10, 6] (by kernel_rfl) ?_
                          intro D vs u hI h0 hC hp ac hb K hK
                          obtain ⟨σ, hP, hW⟩ := hI
                          have s70 : ac.tmps[70]?.getD undef = .pointer (some ⟨b2, o, none⟩) := by rw [hb]; exact (show _ = vs 10 by kernel_rfl).trans (show vs 10 = .pointer (some ⟨b2, o, none⟩) from hP 10 (hp 10 (by decide)))
                          have s66 : ac.tmps[66]?.getD undef = .bool true := by rw [hb]; exact (show _ = vs 6 by kernel_rfl).trans (show vs 6 = .bool true from hP 6 (hp 6 (by decide)))
                          rw [if_pos (AnyO.wanted_some (g := 6) (t := 66) (want := true) rfl rfl s66)]
                          clear hb hp
                          have hf12 : D 12 = false := by
                            rcases hd : D 12 with _ | _
                            · rfl
                            · have hz := hC 12 hd 11 (by rw [show AnyO.pre _ 12 = [8, 11, 6, 6] from by kernel_rfl]; decide)
                              rw [h0] at hz
                              cases hz
                          have hWb := hW.1 hf12
                          have rr := cell_below HX0.out.1 hWb
                          clear hC
                          clear h0
                          have HP := Lib.hid hP
                          have HWq := Lib.hid hW
                          clear hP hW
                          go_simp
                          have hP := HP.out
                          have hW := HWq.out
                          clear HP HWq
                          exact hK _ _ (AnyO.InvG.step (g := σ) hP rfl hW)
                        · -- 12: Op.call { callee := Callee.value (Operand.tmp 68), args := #
                          refine AnyO.StepI.mk rfl [8, 11, 6, 6] (by kernel_rfl) ?_
                          intro D vs u hI h0 hC hp ac hb K hK
                          obtain ⟨σ, hP, hW⟩ := hI
                          have s68 : ac.tmps[68]?.getD undef = .func (.func F) #[] #[.pointer (some ⟨g, 0, none⟩)] := by rw [hb]; exact (show _ = vs 8 by kernel_rfl).trans (show vs 8 = .func (.func F) #[] #[.pointer (some ⟨g, 0, none⟩)] from hP 8 (hp 8 (by decide)))
                          have s71 : ac.tmps[71]?.getD undef = .string x0 := by rw [hb]; exact (show _ = vs 11 by kernel_rfl).trans (show vs 11 = .string x0 from hP 11 (hp 11 (by decide)))
                          have s66 : ac.tmps[66]?.getD undef = .bool true := by rw [hb]; exact (show _ = vs 6 by kernel_rfl).trans (show vs 6 = .bool true from hP 6 (hp 6 (by decide)))
                          rw [if_pos (AnyO.wanted_some (g := 6) (t := 66) (want := true) rfl rfl s66)]
                          clear hb hp
                          clear hC
                          have HP := Lib.hid hP
                          have HWq := Lib.hid hW
                          clear hP hW
                          go_simp
                          have hP := HP.out
                          have hW := HWq.out
                          clear HP HWq
                          have hWb := hW.1 h0
                          have hcall := HRd.out x0 c g u hxs (HG7.out.keep hWb)
                          rw [HRF.out] at hcall
                          refine hcall.mono ?_
                          rintro e w2 ⟨rfl, hr9, ho9⟩
                          exact hK _ _ (AnyO.InvG.step (g := σ) hP rfl ⟨fun h => (by cases h), fun _ => ⟨hr9, (One.of_below hWb).trans ho9⟩⟩)
                        · -- 13: Op.pick (Operand.tmp 66) (Operand.tmp 72) (Operand.const (Va
                          refine AnyO.StepI.mk rfl [6, 12] (by kernel_rfl) ?_
                          intro D vs u hI h0 hC hp ac hb K hK
                          obtain ⟨σ, hP, hW⟩ := hI
                          have s66 : ac.tmps[66]?.getD undef = .bool true := by rw [hb]; exact (show _ = vs 6 by kernel_rfl).trans (show vs 6 = .bool true from hP 6 (hp 6 (by decide)))
                          have s72 : ac.tmps[72]?.getD undef = .bool rb := by rw [hb]; exact (show _ = vs 12 by kernel_rfl).trans (show vs 12 = .bool rb from hP 12 (hp 12 (by decide)))
                          rw [if_pos (AnyO.wanted_none rfl)]
                          clear hb hp
                          clear hC
                          clear h0
                          have HP := Lib.hid hP
                          have HWq := Lib.hid hW
                          clear hP hW
                          go_simp
                          have hP := HP.out
                          have hW := HWq.out
                          clear HP HWq
                          exact hK _ _ (AnyO.InvG.step (g := σ) hP rfl hW)
                        · -- 14: Op.assign (Operand.tmp 73)
                          refine AnyO.StepI.mk rfl [13, 12, 0, 1, 2, 3, 4, 5, 6, 7, 8, 9, 10, 11, 12, 13] (by kernel_rfl) ?_
                          intro D vs u hI h0 hC hp ac hb K hK
                          obtain ⟨σ, hP, hW⟩ := hI
                          have s73 : ac.tmps[73]?.getD undef = .bool rb := by rw [hb]; exact (show _ = vs 13 by kernel_rfl).trans (show vs 13 = .bool rb from hP 13 (hp 13 (by decide)))
                          rw [if_pos (AnyO.wanted_none rfl)]
                          clear hb hp
                          clear hC
                          clear h0
                          have HP := Lib.hid hP
                          have HWq := Lib.hid hW
                          clear hP hW
                          go_simp
                          have hP := HP.out
                          have hW := HWq.out
                          clear HP HWq
                          exact hK _ _ (AnyO.InvG.step (g := σ) hP rfl hW)
                      · intro D vs u hI hD
                        obtain ⟨σ, hP, hW⟩ := hI
                        have e0 : vs 0 = .bool true := hP 0 (hD 0 (by decide))
                        have e1 : vs 1 = .bool true := hP 1 (hD 1 (by decide))
                        have e2 : vs 2 = .slice (some ⟨b2, o, none⟩) n n := hP 2 (hD 2 (by decide))
                        have e3 : vs 3 = .int .i64 (n : Int) := hP 3 (hD 3 (by decide))
                        have e4 : vs 4 = .bool true := hP 4 (hD 4 (by decide))
                        have e5 : vs 5 = .bool true := hP 5 (hD 5 (by decide))
                        have e6 : vs 6 = .bool true := hP 6 (hD 6 (by decide))
                        have e7 : vs 7 = .pointer (some ⟨t9, 1, none⟩) := hP 7 (hD 7 (by decide))
                        have e8 : vs 8 = .func (.func F) #[] #[.pointer (some ⟨g, 0, none⟩)] := hP 8 (hD 8 (by decide))
                        have e9 : vs 9 = .slice (some ⟨b2, o, none⟩) n n := hP 9 (hD 9 (by decide))
                        have e10 : vs 10 = .pointer (some ⟨b2, o, none⟩) := hP 10 (hD 10 (by decide))
                        have e11 : vs 11 = .string x0 := hP 11 (hD 11 (by decide))
                        have e12 : vs 12 = .bool rb := hP 12 (hD 12 (by decide))
                        have e13 : vs 13 = .bool rb := hP 13 (hD 13 (by decide))
                        have e14 : vs 14 = .bool rb := hP 14 (hD 14 (by decide))
                        have hz := hW.2 (hD 12 (by decide))
                        replace hW := hz
                        have HW := Lib.hid hW
                        clear hW hP hD
                        rw [puts_range [some 60, some 61, some 62, some 63, some 64, some 65, some 66, some 67, some 68, some 69, some 70, some 71, some 72, some 73, some 7] (by kernel_rfl)]
                        simp only [putL, Nat.reduceAdd, e0, e1, e2, e3, e4, e5, e6, e7, e8, e9, e10, e11, e12, e13, e14]
                        clear e0 e1 e2 e3 e4 e5 e6 e7 e8 e9 e10 e11 e12 e13 e14
                        go_simp
                        have HU := Lib.hid (And.intro HW.out.1 (HO7.out.trans HW.out.2))
                        rcases n with _ | _ | q
                        · exact absurd hnp (by omega)
                        · go_wp2
                          go_roundw
                          case rel => exact ⟨j + 1, 0, o + 1, _, rb, c2, by omega, by go_num, rfl, rfl, by omega, (fun h => absurd h (by omega)), by rw [HFD.out, HSP.out]; (rw [HX0.out.2]; show (((readF a x0 c).2, ps.drop (o + 1), (readF a x0 c).1) : PSt) = _; rw [HRF.out]), hc2, HU.out.1, HU.out.2⟩
                          case measure => simp [intOf] <;> omega
                        · have hmin : min 1 ((q : Int) + 1 + 1) = 1 := by omega
                          go_wp2
                          go_roundw
                          case rel => exact ⟨j + 1, q + 1, o + 1, ⟨b2, o + 1, none⟩, rb, c2, by omega, by go_num, rfl, rfl, by omega, (fun _ => rfl), by rw [HFD.out, HSP.out]; (rw [HX0.out.2]; show (((readF a x0 c).2, ps.drop (o + 1), (readF a x0 c).1) : PSt) = _; rw [HRF.out]), hc2, HU.out.1, HU.out.2⟩
                          case measure => simp [intOf] <;> omega
            · obtain rfl : j = 6 := by omega
              have hrr5 := ho5.row HO4.out (show r0 ≠ g by omega)
              have ro := hrr5.rowOk (cC_length zC)
              obtain ⟨q1, q2⟩ := hr5.okw (cC_length c)
              change rdA _ _ 39 = vC c at q2
              have HBF := Lib.hid (HBX.out.trans (ho5.below (show r0 ≤ g by omega) (show r0 ≤ W4.heap.size by omega)))
              have hpw : parseW ps = if b = true ∧ ps.drop o = [] then (c, true) else (zC, false) := by
                unfold parseW
                rw [HX.out, if_neg hv0]
                rw [show rdL.take 6 = rdL from rfl] at hfold
                rw [hfold]
              have HPW := Lib.hid hpw
              clear hr5 ho5 hfold hrr5 hpw
              cases b with
              | false =>
                have HE := Lib.hid (show parseW ps = (zC, false) by rw [HPW.out]; simp)
                go_wp2
                exact bodyPost_ret (v := .tuple #[vC zC, .bool false]) (results_c2 (ad := ⟨r0, 0, none⟩) rfl rfl (ld_setRow zC ro) rfl) rfl ⟨by rw [HE.out], Below.setRow HBF.out (Nat.le_refl _) _⟩
              | true =>
                by_cases hn0 : n = 0
                · subst hn0
                  have HE := Lib.hid (show parseW ps = (c, true) by rw [HPW.out, if_pos ⟨rfl, List.drop_eq_nil_of_le (by rw [HN.out.1]; omega)⟩])
                  go_wp2
                  exact bodyPost_ret (v := .tuple #[vC c, .bool true]) (results_c2 (ad := ⟨r0, 0, none⟩) rfl rfl (ld_setRow c ro) rfl) rfl ⟨by rw [HE.out], Below.setRow HBF.out (Nat.le_refl _) _⟩
                · have hnp : 0 < n := by omega
                  have HE := Lib.hid (show parseW ps = (zC, false) by
                    rw [HPW.out, if_neg]
                    rintro ⟨_, h⟩
                    have h2 := congrArg List.length h
                    rw [List.length_drop, HN.out.1] at h2
                    simp at h2
                    omega)
                  go_wp2
                  exact bodyPost_ret (v := .tuple #[vC zC, .bool false]) (results_c2 (ad := ⟨r0, 0, none⟩) rfl rfl (ld_setRow zC ro) rfl) rfl ⟨by rw [HE.out], Below.setRow HBF.out (Nat.le_refl _) _⟩
end Go.Proofs.YtfbpipknhghneaaDoor
