/- digest: Burst: its text as lines; the state of its loop. -/
import Derived.Test.YtibelollgdnidaaGreatDoorMCts
namespace Go.Proofs.YtibelollgdnidaaGreatDoor
open Go.RowKit
/-! slices of items -/
def aIts (xs : List It) : Array Value := (xs.flatMap cIt).toArray
theorem underIts : Tryz.prog.underlying 30 = some (.slice 36) := Tryz.underlying30
theorem rowIt : (Tryz.prog.info? 36).map (fun i => (i.zero.map (·.cells.size), i.size, i.bytes)) = some (some 36, 36, 88) := by kernel_rfl
@[go_sem ↓] theorem bsIt (n : Nat) (parts : Array (Nat × Value)) : Instr.buildSlice 30 n parts = bsA 30 n parts := rfl
theorem run_bsIt (w : World) (xs : List It) (h : xs.length ≤ 100) : (bsA 30 xs.length (xs.zipIdx.map fun x => (x.2, vIt x.1)).toArray).run Tryz.prog w = .ok (.slice (some ⟨w.heap.size, 0, none⟩) xs.length xs.length) (w.alloc (.cells (aIts xs) 36)) := by
 obtain ⟨i, z, h1, h2, h3⟩ := info_of rowIt
 exact run_bsA w vIt 30 36 i z 36 Tryz.underlying30 h1 h2 h3 (fun x => cIt_length x) xs (by omega)
@[go_sem] theorem run_bsIt_1 (w : World) (x : It) : (bsA 30 1 #[(0, vIt x)]).run Tryz.prog w = .ok (.slice (some ⟨w.heap.size, 0, none⟩) 1 1) (w.alloc (.cells (aIts [x]) 36)) := run_bsIt w [x] (by simp)
theorem sl_newIt (w : World) (x : It) : Sl (w.alloc (.cells (aIts [x]) 36)) cIt (some ⟨w.heap.size, 0, none⟩) [x] := fun _ => ⟨_, rfl, at_new w ([x].flatMap cIt) 36 w.heap.size rfl⟩
/-! the lines of a digest -/
def endL (t : List UInt8) (n : Nat) : List UInt8 := [69, 110, 100, 32, 111, 102, 32] ++ hdL t n
def itsL : List It → List (List UInt8) → List (List UInt8)
 | [], ls => ls
 | x :: xs, ls => itF x :: itR x (itsL xs ls)
def topL : List UInt8 := [84, 111, 112, 105, 99, 115, 58]
def dgL (t : List UInt8) (n dt : Nat) (xs : List It) : List (List UInt8) := hdL t n :: ([68, 97, 116, 101, 58, 32] ++ dayT dt) :: topL :: ((ctS (xs.map (·.subj))).map ctL ++ sepL :: itsL xs [endL t n])
theorem itR_app (x : It) (ls : List (List UInt8)) : itR x ls = itR x [] ++ ls := by simp [itR]
theorem lnT_suf {a b : List (List UInt8)} {n : Nat} (h : (lnT (a ++ b)).length ≤ n) : (lnT b).length ≤ n := by
 rw [lnT_append, List.length_append] at h
 omega
theorem lnT_num : ∀ l : List (List UInt8), l.length ≤ (lnT l).length
 | [] => Nat.le_refl _
 | x :: l => by
  have := lnT_num l
  rw [lnT_cons, List.length_append, List.length_cons, List.length_cons]
  omega
theorem itsL_ne (xs : List It) (e : List UInt8) : itsL xs [e] ≠ [] := by
 cases xs with
 | nil => exact List.cons_ne_nil _ _
 | cons x xs => exact List.cons_ne_nil _ _
theorem mem_joinTail (sep : List UInt8) {c : UInt8} : ∀ r : List (List UInt8), c ∈ Lib.joinTail sep r → c ∈ sep ∨ ∃ x ∈ r, c ∈ x
 | [], h => by simp [Lib.joinTail] at h
 | x :: r, h => by
  unfold Lib.joinTail at h
  rw [List.map_cons, List.flatten_cons] at h
  rcases List.mem_append.1 h with h | h
  ·rcases List.mem_append.1 h with h | h
   ·exact Or.inl h
   ·exact Or.inr ⟨x, List.mem_cons_self, h⟩
  ·rcases mem_joinTail sep r h with h | ⟨y, hy, hc⟩
   ·exact Or.inl h
   ·exact Or.inr ⟨y, List.mem_cons_of_mem _ hy, hc⟩
theorem mem_join {c : UInt8} {xs : List (List UInt8)} {sep : List UInt8} (h : c ∈ Lib.join xs sep) : c ∈ sep ∨ ∃ x ∈ xs, c ∈ x := by
 cases xs with
 | nil => simp [Lib.join] at h
 | cons x r =>
  rw [Lib.join_cons] at h
  rcases List.mem_append.1 h with h | h
  ·exact Or.inr ⟨x, List.mem_cons_self, h⟩
  ·rcases mem_joinTail sep r h with h | ⟨y, hy, hc⟩
   ·exact Or.inl h
   ·exact Or.inr ⟨y, List.mem_cons_of_mem _ hy, hc⟩
theorem ctT_nl {ss : List (List UInt8)} {s : List UInt8} (h8 : ss.length ≤ 8) (h : nlB s) : nlB (ctT ss s) := by
 unfold nlB ctT at *
 intro hm
 rcases List.mem_append.1 hm with hm | hm
 ·split at hm
  ·exact absurd hm (by decide)
  ·exact h hm
 ·rcases List.mem_append.1 hm with hm | hm
  ·rcases List.mem_append.1 hm with hm | hm
   ·exact absurd hm (by decide)
   ·rcases mem_join hm with hm | ⟨x, hx, hc⟩
    ·exact absurd hm (by decide)
    ·unfold numS at hx
     obtain ⟨p, hp, rfl⟩ := List.mem_map.1 hx
     have := List.mem_zipIdx' (List.mem_filter.1 hp).1
     exact dg_ne (by omega) (List.mem_singleton.1 hc).symm
  ·exact absurd hm (by decide)
theorem ctS_nl {ss : List (List UInt8)} (h8 : ss.length ≤ 8) (h : ∀ s ∈ ss, nlB s) : ∀ l ∈ ctS ss, nlB l := by
 intro l hl
 obtain ⟨s, hs, rfl⟩ := List.mem_map.1 hl
 exact ctT_nl h8 (h s (mem_ordS.1 hs))
theorem ctS_ne {ss : List (List UInt8)} (h : ss ≠ []) : ctS ss ≠ [] := by
 obtain ⟨s, r, rfl⟩ := List.exists_cons_of_ne_nil h
 intro e
 have h1 : s ∈ ordS (s :: r) := mem_ordS.2 List.mem_cons_self
 rw [List.map_eq_nil_iff.1 e] at h1
 cases h1
theorem ctS_len (ss : List (List UInt8)) : (ctS ss).length ≤ ss.length := by unfold ctS; rw [List.length_map]; exact ordS_len ss
theorem eqStr {w : World} {B1 B2 : Nat} {e : TypeId} {v1 v2 : Value} {xs : List ByteArray} (h1 : Own w B1 e 1 cS v1 xs) (h2 : Own w B2 e 1 cS v2 xs) (hne : xs ≠ []) (hn : xs.length ≤ 1000000) : Calls Tryz.prog 30 #[v1, v2] w fun e w' => e = .returned (.bool true) ∧ Below w.heap.size w w' := by
 have hg : ∀ g : Nat, (∀ (j : Nat) x, xs[j]? = some x → w.cell? ⟨g, 0 + j, none⟩ = some (.string x)) → ∀ j, j < xs.length → w.cell? ⟨g, 0 + j, none⟩ = some (.string (xs.getD j ByteArray.empty)) := by
  intro g h j hj
  rw [h j xs[j] (List.getElem?_eq_getElem hj), List.getD_eq_getElem?_getD, List.getElem?_eq_getElem hj]
  rfl
 rcases own_str h1 with ⟨_, e⟩ | ⟨g1, c1', rfl, hc1, hl1, hx1⟩
 ·exact absurd e hne
 ·rcases own_str h2 with ⟨_, e⟩ | ⟨g2, c2', rfl, hc2, hl2, hx2⟩
  ·exact absurd e hne
  ·refine (Tryz.slices_Equal_string g1 0 xs.length c1' g2 0 xs.length c2' xs xs w (Nat.le_refl _) (Nat.le_refl _) (by omega) (by omega) (hg g1 hx1) (hg g2 hx2)).mono ?_
   rintro e w' ⟨rfl, q, rfl⟩
   exact ⟨by rw [decide_eq_true rfl], below_drewN _ _⟩
/-! the state -/
structure HeS (w0 w : World) (b0 b1 : Nat) (cs : List Value) (ls : List (List UInt8)) (L : Nat) (W : World) : Prop where
 dg : Row W b0 cs 39
 rd : RdR W b1 ls L
 bel : Below w.heap.size w W
 ldz : Ldz w0 W
 o1 : w.heap.size ≤ b0
 o2 : b0 < b1
 hw : w0.heap.size ≤ w.heap.size
section
variable {w0 w W W' : World} {b0 b1 r : Nat} {cs : List Value} {ls ls' : List (List UInt8)} {L L' : Nat}
theorem HeS.one (h : HeS w0 w b0 b1 cs ls L W) (hr : RdR W' b1 ls' L') (ho : One b1 W W') : HeS w0 w b0 b1 cs ls' L' W' :=
 ⟨ho.row h.dg (by have := h.o2; omega), hr, h.bel.trans (ho.below (by have := h.o1; have := h.o2; omega) h.bel.size), h.ldz.one ho (by have := h.o1; have := h.o2; have := h.hw; omega), h.o1, h.o2, h.hw⟩
theorem HeS.below (h : HeS w0 w b0 b1 cs ls L W) (hb : Below W.heap.size W W') : HeS w0 w b0 b1 cs ls L W' :=
 ⟨h.dg.keep hb, Row.keep h.rd hb, Below.step h.bel hb, h.ldz.keep hb, h.o1, h.o2, h.hw⟩
theorem HeS.setm (h : HeS w0 w b0 b1 cs ls L W) {r : Nat} (ho : One r W W') (h1 : r ≠ b0) (h2 : r ≠ b1) (h3 : w.heap.size ≤ r) : HeS w0 w b0 b1 cs ls L W' :=
 ⟨ho.row h.dg h1.symm, ho.row h.rd h2.symm, h.bel.trans (ho.below h3 h.bel.size), h.ldz.one ho (by have := h.hw; omega), h.o1, h.o2, h.hw⟩
theorem HeS.set (h : HeS w0 w b0 b1 cs ls L W) (k : Nat) (v : Value) : HeS w0 w b0 b1 (cs.set k v) ls L (W.setCell ⟨b0, k, none⟩ v) :=
 ⟨h.dg.set k v, Row.same h.rd (heap_set_other W b0 k v b1 (by have := h.o2; omega)), h.bel.trans ((One.set k v).below h.o1 h.bel.size), h.ldz.one (One.set k v) (by have := h.o1; have := h.hw; omega), h.o1, h.o2, h.hw⟩
end
structure BuS (w0 w : World) (b0 b1 r : Nat) (t : List UInt8) (n dt : Nat) (vc : Value) (cl : List ByteArray) (v4 : Value) (ys : List It) (is : List Id) (ls : List (List UInt8)) (L : Nat) (W : World) : Prop where
 he : HeS w0 w b0 b1 [.string (tx t), .int .i64 1, .int .i64 (n : Int), .int .i64 (dt : Int), v4] ls L W
 ids : IdS W r is
 own : Own W (r + 1) 36 36 cIt v4 ys
 con : Own W (b1 + 1) 9 1 cS vc cl
 conlt : ∀ k, vc.ownBlock = some k → k < r
 o3 : b1 < r
section
variable {w0 w W W' : World} {b0 b1 r : Nat} {t : List UInt8} {n dt : Nat} {vc : Value} {cl : List ByteArray} {v4 v' : Value} {ys ys' : List It} {is is' : List Id} {ls ls' : List (List UInt8)} {L L' : Nat}
theorem BuS.one (h : BuS w0 w b0 b1 r t n dt vc cl v4 ys is ls L W) (hr : RdR W' b1 ls' L') (ho : One b1 W W') : BuS w0 w b0 b1 r t n dt vc cl v4 ys is ls' L' W' :=
 ⟨h.he.one hr ho, h.ids.same (ho.out r h.ids.lt (by have := h.o3; omega)), h.own.one ho (by have := h.o3; omega), h.con.one ho (by omega), h.conlt, h.o3⟩
theorem BuS.below (h : BuS w0 w b0 b1 r t n dt vc cl v4 ys is ls L W) (hb : Below W.heap.size W W') : BuS w0 w b0 b1 r t n dt vc cl v4 ys is ls L W' :=
 ⟨h.he.below hb, h.ids.keep hb, h.own.keep hb, h.con.keep hb, h.conlt, h.o3⟩
theorem BuS.mapped (h : BuS w0 w b0 b1 r t n dt vc cl v4 ys is ls L W) (hi : IdS W' r is') (ho : One r W W') : BuS w0 w b0 b1 r t n dt vc cl v4 ys is' ls L W' :=
 ⟨h.he.setm ho (by have := h.he.o2; have := h.o3; omega) (by have := h.o3; omega) (by have := h.he.o1; have := h.he.o2; have := h.o3; omega), hi, h.own.one ho (by omega), h.con.same (fun k hk => ho.out k (h.con.lt k hk).2 (by have := h.conlt k hk; omega)), h.conlt, h.o3⟩
theorem BuS.app (h : BuS w0 w b0 b1 r t n dt vc cl v4 ys is ls L W) (ho : Own W' (r + 1) 36 36 cIt v' ys') (hg : W.grownBy W' v4.ownBlock) : BuS w0 w b0 b1 r t n dt vc cl v' ys' is ls L (W'.setCell ⟨b0, 4, none⟩ v') := by
 have hne : ∀ k, k ≤ r → some k ≠ v4.ownBlock := fun k hk e => by have := (h.own.lt k e.symm).1; omega
 have h2 := h.he.o2
 have h3 := h.o3
 have hB : Below (r + 1) W W' := h.own.grew hg (Below.refl _ _) (Nat.le_refl _) h.ids.lt
 have hh : HeS w0 w b0 b1 [.string (tx t), .int .i64 1, .int .i64 (n : Int), .int .i64 (dt : Int), v4] ls L W' :=
  ⟨h.he.dg.same (hB.block b0 (by omega)), Row.same h.he.rd (hB.block b1 (by omega)), h.he.bel.trans (hB.mono (by have := h.he.o1; omega)), ⟨h.he.ldz.max, h.he.ldz.tab, h.he.ldz.bel.trans (hB.mono (by have := h.he.o1; have := h.he.hw; omega))⟩, h.he.o1, h.he.o2, h.he.hw⟩
 refine ⟨hh.set 4 v', h.ids.same ((heap_set_other W' b0 4 v' r (by omega)).trans (hB.block r (by omega))), ho.same (fun k hk => heap_set_other W' b0 4 v' k (by have := (ho.lt k hk).1; omega)), h.con.same (fun k hk => (heap_set_other W' b0 4 v' k (by have := (h.con.lt k hk).1; omega)).trans (hB.block k (by have := h.conlt k hk; omega))), h.conlt, h.o3⟩
theorem BuS.dgg (h : BuS w0 w b0 b1 r t n dt vc cl v4 ys is ls L W) (hg : W.grownBy W' v4.ownBlock) : Row W' b0 [.string (tx t), .int .i64 1, .int .i64 (n : Int), .int .i64 (dt : Int), v4] 39 :=
 h.he.dg.same (hg.block b0 h.he.dg.lt (fun e => by have := (h.own.lt b0 e.symm).1; have := h.he.o2; have := h.o3; omega))
end
end Go.Proofs.YtibelollgdnidaaGreatDoor
