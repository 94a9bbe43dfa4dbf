/- ascii.Words: the words of a string. -/
import Derived.Test.YtnljplnjdbjplaaDoorFold
namespace Go.Proofs.YtnljplnjdbjplaaDoor
open Go.RowKit
theorem underSs : Tryd.prog.underlying 27 = some (.slice 9) := Tryd.underlying27
theorem rowS : (Tryd.prog.info? 9).map (fun i => (i.zero.map (·.cells.size), i.size, i.bytes)) = some (some 1, 1, 16) := by kernel_rfl
/-- The cell of a string. -/
def cS (s : ByteArray) : List Value := [.string s]
theorem cS_length (s : ByteArray) : (cS s).length = 1 := rfl
theorem cS_one (s : ByteArray) : ∀ u ∈ cS s, u.oneCell' = true := by
  intro u hu
  obtain rfl : u = .string s := by simpa [cS] using hu
  rfl
theorem sl_newS (w : World) (s : ByteArray) : Sl (w.alloc (.cells #[.string s] 9)) cS (some ⟨w.heap.size, 0, none⟩) [s] :=
  fun _ => ⟨_, rfl, at_new w [.string s] 9 _ rfl⟩
def isSlS (xs : List ByteArray) : Value → World → Prop := fun v w => ∃ A n c, v = .slice A n c ∧ xs.length = n ∧ n ≤ c ∧ Sl w cS A xs
theorem Mono.slS (xs : List ByteArray) : Mono (isSlS xs) := fun _ _ _ hb ⟨A, n, c, h1, h2, h3, h4⟩ => ⟨A, n, c, h1, h2, h3, h4.keep hb⟩
/-- What Words keeps in the two boxes: the string, and the words collected. -/
structure WSt (B bs bw : Nat) (w0 : World) (s : ByteArray) (v : Value) (xs : List ByteArray) (w : World) : Prop where
  bl : Below B w0 w
  cs : w.cell? ⟨bs, 0, none⟩ = some (.string s)
  cw : w.cell? ⟨bw, 0, none⟩ = some v
  fw : w.frozen? ⟨bw, 0, none⟩ = false
  o1 : B ≤ bs
  o2 : bs < bw
  o3 : bw + 1 ≤ w.heap.size
  own : Own w (bw + 1) 9 1 cS v xs
theorem Own.keepSet {w : World} {base g : Nat} {e : TypeId} {v : Value} {xs : List ByteArray} (h : Own w base e 1 cS v xs) (hg : g < base) (u : Value) : Own (w.setCell ⟨g, 0, none⟩ u) base e 1 cS v xs := by
  refine ⟨h.1, h.2.imp id fun ⟨g', cap, cur, a1, a2, a3, r⟩ => ⟨g', cap, cur, a1, a2, ?_, r⟩⟩
  rw [Below.heap_setCell w ⟨g, 0, none⟩ u g' (by dsimp only; omega)]
  exact a3
theorem WSt.step {B bs bw : Nat} {w0 : World} {s : ByteArray} {v v2 : Value} {xs ys : List ByteArray} {w u w2 : World} (h : WSt B bs bw w0 s v xs w) (hE : Below w.heap.size w u) (ho : Own w2 (bw + 1) 9 1 cS v2 (xs ++ ys)) (hg : u.grownBy w2 v.ownBlock) :
    w2.cell? ⟨bw, 0, none⟩ = some v ∧ w2.frozen? ⟨bw, 0, none⟩ = false ∧ WSt B bs bw w0 s v2 (xs ++ ys) (w2.setCell ⟨bw, 0, none⟩ v2) := by
  have hs := hE.size
  have o1 := h.o1
  have o2 := h.o2
  have o3 := h.o3
  have hgs := hg.size
  have hne : ∀ k, k ≤ bw → some k ≠ v.ownBlock := fun k hk e => by have := Own.lt h.own k e.symm; omega
  have hblk : ∀ k, k ≤ bw → w2.heap[k]? = w.heap[k]? := fun k hk => (hg.block k (by omega) (hne k hk)).trans (hE.block k (by omega))
  have c1 : w2.cell? ⟨bw, 0, none⟩ = some v := (World.cell?_of_block (hblk bw (Nat.le_refl _))).trans h.cw
  have c2 : w2.frozen? ⟨bw, 0, none⟩ = false := (World.frozen?_of_block (hblk bw (Nat.le_refl _))).trans h.fw
  have c3 : w2.cell? ⟨bs, 0, none⟩ = some (.string s) := (World.cell?_of_block (hblk bs (by omega))).trans h.cs
  refine ⟨c1, c2, ?_, ?_, World.cell?_setCell_same' _ _ _ (by rw [c1]; rfl), by rw [World.frozen?_setCell]; exact c2, o1, o2, by simp only [World.setCell, Array.size_modify]; omega, Own.keepSet ho (by omega) _⟩
  · refine Below.setCell (p := ⟨bw, 0, none⟩) ?_ (by dsimp only; omega) _
    exact Below.grown (h.bl.trans (hE.mono (by omega))) hg (by omega) fun k hk => by have := Own.lt h.own k hk; omega
  · refine (World.cell?_setCell_other w2 _ _ v2 ?_).trans c3
    intro e
    injection e with e1 _ _
    omega
set_option maxRecDepth 100000 in
set_option maxHeartbeats 1600000 in
theorem collect51 (B bs bw : Nat) (w0 : World) (s : ByteArray) (v : Value) (xs : List ByteArray) (w : World) (hw : WSt B bs bw w0 s v xs w) (from_ to : Nat) (h1 : from_ ≤ to) (h2 : to ≤ s.size) (hx : xs.length ≤ 4294967296) (hlt : from_ < to) :
    Calls Tryd.prog 51 #[.int .i64 (from_ : Int), .int .i64 (to : Int), .pointer (some ⟨bw, 0, none⟩), .pointer (some ⟨bs, 0, none⟩)] w fun e w' => e = .returned (.tuple #[]) ∧ ∃ v', WSt B bs bw w0 s v' (xs ++ [s.extract from_ to]) w' := by
  have HW := Lib.hid hw
  have HT := Lib.hid (And.intro h1 (And.intro h2 hx))
  have hc : (to : Int) > (from_ : Int) := by omega
  clear hw h1 h2 hx hlt
  go_enter Tryd.func51, Tryd.ntmps51
  go_wp2_with fail
  refine AnyO.wp_any_tail 6 (by kernel_rfl) (by kernel_rfl) (by kernel_rfl) (by kernel_rfl) (by kernel_rfl) (by kernel_rfl) (pstP [isV (v), isV (.string s), isV (.int .i64 (from_ : Int)), isV (.int .i64 (to : Int)), isV (.string (s.extract from_ to)), isSlS [s.extract from_ to]]) (MonoL.cons (Mono.v _) (MonoL.cons (Mono.v _) (MonoL.cons (Mono.v _) (MonoL.cons (Mono.v _) (MonoL.cons (Mono.v _) (MonoL.cons (Mono.slS _) MonoL.nil)))))) ?_ ?_
  · intro i hi
    have hi2 : i = 0 ∨ i = 1 ∨ i = 2 ∨ i = 3 ∨ i = 4 ∨ i = 5 := by omega
    clear hi
    rcases hi2 with rfl | rfl | rfl | rfl | rfl | rfl
    · -- 0: Op.load 27 (Operand.tmp 2)
      refine AnyO.Step.mk rfl [] (by kernel_rfl) ?_
      intro vs u hE hp ac hb K hK
      have s2 : ac.tmps[2]?.getD undef = .pointer (some ⟨bw, 0, none⟩) := by rw [hb]; kernel_rfl
      rw [if_pos (AnyO.wanted_none rfl)]
      clear hb hp
      have r1 := cell_below HW.out.cw (Below.step (below_drew w) hE)
      go_simp
      exact hK _ _ (Below.refl _ _) rfl
    · -- 1: Op.load 9 (Operand.tmp 3)
      refine AnyO.Step.mk rfl [] (by kernel_rfl) ?_
      intro vs u hE hp ac hb K hK
      have s3 : ac.tmps[3]?.getD undef = .pointer (some ⟨bs, 0, none⟩) := by rw [hb]; kernel_rfl
      rw [if_pos (AnyO.wanted_none rfl)]
      clear hb hp
      have r1 := cell_below HW.out.cs (Below.step (below_drew w) hE)
      go_simp
      exact hK _ _ (Below.refl _ _) rfl
    · -- 2: Op.move (Operand.tmp 0)
      refine AnyO.Step.mk rfl [] (by kernel_rfl) ?_
      intro vs u hE hp ac hb K hK
      have s0 : ac.tmps[0]?.getD undef = .int .i64 (from_ : Int) := by rw [hb]; kernel_rfl
      rw [if_pos (AnyO.wanted_none rfl)]
      clear hb hp
      go_simp
      exact hK _ _ (Below.refl _ _) rfl
    · -- 3: Op.move (Operand.tmp 1)
      refine AnyO.Step.mk rfl [] (by kernel_rfl) ?_
      intro vs u hE hp ac hb K hK
      have s1 : ac.tmps[1]?.getD undef = .int .i64 (to : Int) := by rw [hb]; kernel_rfl
      rw [if_pos (AnyO.wanted_none rfl)]
      clear hb hp
      go_simp
      exact hK _ _ (Below.refl _ _) rfl
    · -- 4: Op.slice 9 (Operand.tmp 10) (some (Operand.tmp 11)) (some (O
      refine AnyO.Step.mk rfl [1, 2, 3] (by kernel_rfl) ?_
      intro vs u hE hp ac hb K hK
      have s10 : ac.tmps[10]?.getD undef = .string s := by rw [hb]; exact (show _ = vs 1 by kernel_rfl).trans (hp 1 (by decide))
      have s11 : ac.tmps[11]?.getD undef = .int .i64 (from_ : Int) := by rw [hb]; exact (show _ = vs 2 by kernel_rfl).trans (hp 2 (by decide))
      have s12 : ac.tmps[12]?.getD undef = .int .i64 (to : Int) := by rw [hb]; exact (show _ = vs 3 by kernel_rfl).trans (hp 3 (by decide))
      rw [if_pos (AnyO.wanted_none rfl)]
      clear hb hp
      have r1 : (from_ : Int) ≤ (to : Int) := by have := HT.out.1; omega
      have r2 : (to : Int) ≤ (s.size : Int) := by have := HT.out.2.1; omega
      go_simp
      exact hK _ _ (Below.refl _ _) rfl
    · -- 5: Op.buildSlice 27 1 #[(0, Operand.tmp 13)]
      refine AnyO.Step.mk rfl [4] (by kernel_rfl) ?_
      intro vs u hE hp ac hb K hK
      have s13 : ac.tmps[13]?.getD undef = .string (s.extract from_ to) := by rw [hb]; exact (show _ = vs 4 by kernel_rfl).trans (hp 4 (by decide))
      rw [if_pos (AnyO.wanted_none rfl)]
      clear hb hp
      go_simp
      exact hK _ _ (below_alloc _ _) ⟨_, _, _, rfl, rfl, Nat.le_refl _, sl_newS _ _⟩
  · intro vs u hE hp
    have e0 : vs 0 = v := hp 0 (by decide)
    have e1 : vs 1 = .string s := hp 1 (by decide)
    have e2 : vs 2 = .int .i64 (from_ : Int) := hp 2 (by decide)
    have e3 : vs 3 = .int .i64 (to : Int) := hp 3 (by decide)
    have e4 : vs 4 = .string (s.extract from_ to) := hp 4 (by decide)
    obtain ⟨A_5, n_5, c_5, e5, h_5⟩ := show isSlS [s.extract from_ to] (vs 5) u from hp 5 (by decide)
    clear hp
    have HE := Lib.hid (And.intro hE h_5); clear hE h_5
    rw [puts_range [some 9, some 10, some 11, some 12, some 13, some 14] (by kernel_rfl)]
    simp only [putL, Nat.reduceAdd, List.drop_succ_cons, List.drop_zero, e0, e1, e2, e3, e4, e5]
    clear e0 e1 e2 e3 e4 e5
    go_simp
    go_wp2_with (at_builtin; refine wpList_append_sl _ rfl (.tmp 9) (.tmp 14) 27 rfl (bw + 1) 9 1 16 cS underSs rowS (by decide) cS_length cS_one v xs rfl (Own.keep HW.out.own HE.out.1) _ _ _ [s.extract from_ to] HE.out.2.1 rfl HE.out.2.2.2 (by have := HT.out.2.2; have : 1 = n_5 := HE.out.2.1; omega) (by have := HT.out.2.2; have : 1 = n_5 := HE.out.2.1; omega) (by have := HW.out.o3; have := HE.out.1.size; omega) ?_)
    intro v2 w2 ho hg
    have hst := WSt.step HW.out HE.out.1 ho hg
    have r1 : w2.cell? ⟨bw, 0, none⟩ = some v := hst.1
    have r2 : w2.frozen? ⟨bw, 0, none⟩ = false := hst.2.1
    have H2 := Lib.hid hst.2.2
    have hs2 : ∃ A c n, v2 = .slice A n c := by obtain ⟨A, c, e, _, _⟩ := ho.sl; exact ⟨A, c, _, e⟩
    obtain ⟨A2, c2, n2, rfl⟩ := hs2
    clear ho hg hst
    go_wp2
    go_end0
    exact ⟨rfl, _, H2.out⟩
set_option maxHeartbeats 400000 in
theorem collect51_no (k : Nat) (bs bw : Nat) (w : World) :
    Calls Tryd.prog 51 #[.int .i64 (k : Int), .int .i64 (k : Int), .pointer (some ⟨bw, 0, none⟩), .pointer (some ⟨bs, 0, none⟩)] w fun e w' => e = .returned (.tuple #[]) ∧ w' = w := by
  go_enter Tryd.func51, Tryd.ntmps51
  go_wp2
  go_end0
  exact ⟨rfl, rfl⟩
end Go.Proofs.YtnljplnjdbjplaaDoor
