/- A range over strings.SplitSeq(s, one byte): the iterator keeps what is left in a cell. -/
import Derived.Test.YtibelollgdnidaaGreatDoorMItr
import Derived.RangeFuncNested
import Derived.RangeFuncBound
import Derived.RangeFuncCalls
import Derived.RangeFuncLeaves
import Derived.Shelf.Abstract
import Derived.Shelf.RegionOpen
import Derived.OwnWalkIn
import Derived.TacticsInMore
import Derived.LoopNIn
import Derived.LoopIn
namespace Go.Proofs.YtibelollgdnidaaGreatDoor
open Go.RowKit
attribute [local go_sem] Oper.semAt_some
theorem split_in {x y : List UInt8} (h : nlB x) : piecesL (x ++ 10 :: y) = x :: piecesL y := by
 suffices ∀ cur : List UInt8, splitGo 10 cur (x ++ 10 :: y) = (cur ++ x) :: splitGo 10 [] y by
  exact this []
 induction x with
 | nil => intro cur; rw [List.nil_append, splitGo, if_pos rfl, List.append_nil]
 | cons c x ih =>
  intro cur
  have hc : ¬ c = 10 := fun e => h (by rw [e]; exact List.mem_cons_self)
  rw [List.cons_append, splitGo, if_neg hc, ih (fun hm => h (List.mem_cons_of_mem _ hm))]
  simp
theorem split_out {x : List UInt8} (h : nlB x) : piecesL x = [x] := by
 suffices ∀ cur : List UInt8, splitGo 10 cur x = [cur ++ x] by
  exact this []
 induction x with
 | nil => intro cur; rw [splitGo, List.append_nil]
 | cons c x ih =>
  intro cur
  have hc : ¬ c = 10 := fun e => h (by rw [e]; exact List.mem_cons_self)
  rw [splitGo, if_neg hc, ih (fun hm => h (List.mem_cons_of_mem _ hm))]
  simp
theorem nl_part : ∀ s : List UInt8, ¬ nlB s → ∃ x y, s = x ++ 10 :: y ∧ nlB x
 | [], h => absurd (by unfold nlB; simp) h
 | c :: s, h => by
  by_cases hc : c = 10
  ·subst hc
   exact ⟨[], s, rfl, by unfold nlB; simp⟩
  ·have h2 : ¬ nlB s := fun hn => h (by unfold nlB at *; intro hm; rcases List.mem_cons.1 hm with e | hm; exact hc e.symm; exact hn hm)
   obtain ⟨x, y, rfl, hx⟩ := nl_part s h2
   exact ⟨c :: x, y, rfl, by unfold nlB at *; intro hm; rcases List.mem_cons.1 hm with e | hm; exact hc e.symm; exact hx hm⟩
theorem indexByte_out : ∀ {x : List UInt8}, nlB x → Lib.indexByte x 10 = -1
 | [], _ => rfl
 | d :: x, h => by
  have hd : (d == 10) = false := by rw [beq_eq_false_iff_ne]; exact fun e => h (by rw [e]; exact List.mem_cons_self)
  rw [Lib.indexByte, hd, indexByte_out (fun e => h (List.mem_cons_of_mem _ e))]
  rfl
def lenAt (W : World) (b : Nat) : Nat := match W.cell? ⟨b, 0, none⟩ with | some (.string t) => t.size | _ => 0
structure Sp3 (bs bx bn : Nat) (rest : List UInt8) (W : World) : Prop where
 s : Row W bs [.string ⟨#[10]⟩] 9
 x : Row W bx [.string (tx rest)] 9
 n : Row W bn [.int .i64 0] 3
structure K3 (bs bx bn : Nat) (W W' : World) : Prop where
 s : W'.heap[bs]? = W.heap[bs]?
 x : W'.heap[bx]? = W.heap[bx]?
 n : W'.heap[bn]? = W.heap[bn]?
theorem Sp3.keep {bs bx bn : Nat} {rest : List UInt8} {W W' : World} (h : Sp3 bs bx bn rest W) (k : K3 bs bx bn W W') : Sp3 bs bx bn rest W' := ⟨h.s.same k.s, h.x.same k.x, h.n.same k.n⟩
theorem Sp3.store {bs bx bn : Nat} {rest : List UInt8} {W : World} (h : Sp3 bs bx bn rest W) (h1 : bs ≠ bx) (h2 : bn ≠ bx) (y : List UInt8) : Sp3 bs bx bn y (W.setCell ⟨bx, 0, none⟩ (.string (tx y))) :=
 ⟨h.s.same (heap_set_other W bx 0 _ bs h1), h.x.set 0 (.string (tx y)), h.n.same (heap_set_other W bx 0 _ bn h2)⟩
theorem Sp3.len {bs bx bn : Nat} {rest : List UInt8} {W : World} (h : Sp3 bs bx bn rest W) : lenAt W bx = rest.length := by
 unfold lenAt
 rw [show W.cell? ⟨bx, 0, none⟩ = some (.string (tx rest)) from h.x.cell 0]
 rfl
set_option maxRecDepth 100000 in
set_option maxHeartbeats 800000 in
theorem splitSeq_it (m : Nat) (l bs bx bn : Nat) (h1 : bs ≠ bx) (h2 : bn ≠ bx) (s : List UInt8) (hs : s.length ≤ 1000000) (J : List (List UInt8) → World → Prop)
  (hJs : ∀ pre W v, J pre W → J pre (W.setCell ⟨bx, 0, none⟩ v))
  (hY : ∀ pre x W, (∃ r, piecesL s = pre ++ x :: r) → J pre W → YieldAt Fence.wide m Tryz.prog l #[.string (tx x)] W fun e W' => e = .returned (.bool true) ∧ J (pre ++ [x]) W' ∧ K3 bs bx bn W W')
  (W : World) (h3 : Sp3 bs bx bn s W) (h0 : J [] W) :
  CallsIn Fence.wide (m + 1) Tryz.prog 162 #[.func (.yield l) #[] #[], .pointer (some ⟨bs, 0, none⟩), .pointer (some ⟨bx, 0, none⟩), .pointer (some ⟨bn, 0, none⟩)] W fun e W' => (∃ v, e = .returned v) ∧ J (piecesL s) W' := by
 have hsc := h3.s.cell 0
 dsimp only [List.getElem?_cons_zero] at hsc
 have HJ := Lib.hid (And.intro h0 (And.intro h3 hs))
 clear h3 h0
 refine callsIn_of_wp Tryz.func162 rfl trivial ?_
 simp only [Tryz.ntmps162, List.size_toArray, List.length_cons, List.length_nil, Nat.reduceAdd, Nat.reduceSub, Array.replicate_succ, Array.replicate_zero, List.push_toArray, List.append_toArray, List.nil_append, List.cons_append]
 gi_wp2
 gi_loopw [7] (fun _ wr => ∃ pre rest, piecesL s = pre ++ piecesL rest ∧ Sp3 bs bx bn rest wr ∧ J pre wr ∧ rest.length ≤ s.length) (fun _ wr => lenAt wr bx)
 case atStart => exact ⟨[], s, rfl, HJ.out.2.1, HJ.out.1, Nat.le_refl _⟩
 case round =>
  obtain ⟨pre, rest, hp, h3, hj, hrl⟩ := hrel
  have cs : wr.cell? ⟨bs, 0, none⟩ = some (.string ⟨#[10]⟩) := h3.s.cell 0
  have cx : wr.cell? ⟨bx, 0, none⟩ = some (.string (tx rest)) := h3.x.cell 0
  have cn : wr.cell? ⟨bn, 0, none⟩ = some (.int .i64 0) := h3.n.cell 0
  have hlen := h3.len
  by_cases hn : nlB rest
  ·have hI := Tryz.strings_Index_one (tx rest) 10 wr
   rw [tx_data, indexByte_out hn] at hI
   rw [split_out hn] at hp
   have hy0 := hY pre rest wr ⟨[], hp⟩ hj
   obtain ⟨fn, tmps, assign, body, hy, hR⟩ := hy0
   have HI := Lib.hid (And.intro hI hp)
   clear hI hp h3 hj hJs hY
   gi_wp2_with (refine ⟨trivial, ?_⟩; gi_at_call 27; refine (callsIn_wide.2 HI.out.1).mono ?_; rintro e w2 ⟨rfl, rfl⟩)
   refine hR.mono ?_
   rintro e W2 ⟨rfl, hj2, -⟩
   have HJ2 := Lib.hid hj2
   clear hj2 hR
   gi_wp2
   go_end0
   exact ⟨⟨_, rfl⟩, by rw [HI.out.2]; exact HJ2.out⟩
  ·obtain ⟨x, y, rfl, hx⟩ := nl_part rest hn
   have hI := Tryz.strings_Index_one (tx (x ++ 10 :: y)) 10 wr
   rw [tx_data, indexByte_at hx] at hI
   rw [split_in hx] at hp
   obtain ⟨fn, tmps, assign, body, hy, hR⟩ := hY pre x wr ⟨_, hp⟩ hj
   have hxl : x.length + 1 + y.length ≤ 1000000 := by
    have := HJ.out.2.2
    rw [List.length_append, List.length_cons] at hrl
    omega
   have hz : (tx (x ++ 10 :: y)).size = x.length + 1 + y.length := by rw [tx_size, List.length_append, List.length_cons]; omega
   have he1 : (tx (x ++ 10 :: y)).extract 0 x.length = tx x := by
    apply bl_inj
    unfold bl
    rw [Lib.extract_data, tx_data, tx_data, List.drop_zero, Nat.sub_zero, List.take_left]
   have he2 : (tx (x ++ 10 :: y)).extract (x.length + 1) (x.length + 1 + y.length) = tx y := by
    apply bl_inj
    unfold bl
    rw [Lib.extract_data, tx_data, tx_data, show x ++ 10 :: y = (x ++ [10]) ++ y by simp, show x.length + 1 = (x ++ [10]).length by simp, List.drop_left, List.take_of_length_le (by omega)]
   obtain ⟨k, hk⟩ : ∃ k, x.length = k := ⟨_, rfl⟩
   obtain ⟨q, hq⟩ : ∃ q, y.length = q := ⟨_, rfl⟩
   have HQ := Lib.hid (And.intro hk (And.intro hq (show y.length ≤ s.length by rw [List.length_append, List.length_cons] at hrl; omega)))
   rw [hk] at hI hxl hz he1 he2
   rw [hq] at hxl hz he2
   obtain ⟨u, hu⟩ : ∃ u, tx (x ++ 10 :: y) = u := ⟨_, rfl⟩
   obtain ⟨v, hv⟩ : ∃ v, tx x = v := ⟨_, rfl⟩
   rw [hu] at hI hz he1 he2 cx
   rw [hv] at he1 hy
   have HU := Lib.hid (And.intro hu hv)
   have hki : (k : Int) + 1 + (q : Int) ≤ 1000000 := by omega
   have hzi : (u.size : Int) = (k : Int) + 1 + (q : Int) := by omega
   have H3 := Lib.hid h3
   have HI := Lib.hid (And.intro hI hp)
   have HJS := Lib.hid hJs
   clear hI hp h3 hj hJs hY hk hq hn hu hv hrl
   gi_wp2_with (refine ⟨trivial, ?_⟩; gi_at_call 27; refine (callsIn_wide.2 HI.out.1).mono ?_; rintro e w2 ⟨rfl, rfl⟩)
   refine hR.mono ?_
   rintro e W2 ⟨rfl, hj2, hk2⟩
   have h4 := H3.out.keep hk2
   have cs2 : W2.cell? ⟨bs, 0, none⟩ = some (.string ⟨#[10]⟩) := h4.s.cell 0
   have cx2 : W2.cell? ⟨bx, 0, none⟩ = some (.string u) := by rw [← HU.out.1]; exact h4.x.cell 0
   have fx2 : W2.frozen? ⟨bx, 0, none⟩ = false := h4.x.fz 0
   have h5 := h4.store h1 h2 y
   have H5 := Lib.hid (And.intro h5 (HJS.out _ _ (.string (tx y)) hj2))
   clear h4 hk2 hj2 hR cs cx hy h5
   gi_wp2
   go_roundw
   case rel => exact ⟨pre ++ [x], y, by rw [HI.out.2]; simp, H5.out.1, H5.out.2, HQ.out.2.2⟩
   case measure => rw [H5.out.1.len, hlen, List.length_append, List.length_cons]; omega
set_option maxHeartbeats 800000 in
theorem range_split {m : Nat} {g : Operand} {p : Tmp} (q : Tmp) {assign body : Code} {Q : Exit → Act → World → Prop} {a : Act} {w : World} (bs bx bn : Nat) (h1 : bs ≠ bx) (h2 : bn ≠ bx) (s : List UInt8) (hs : s.length ≤ 1000000)
  (hg : a.eval g = .func (.func 162) #[] #[.pointer (some ⟨bs, 0, none⟩), .pointer (some ⟨bx, 0, none⟩), .pointer (some ⟨bn, 0, none⟩)])
  (h3 : Sp3 bs bx bn s w) (I : List (List UInt8) → World → Prop)
  (hIs : ∀ pre W v, I pre W → I pre (W.setCell ⟨bx, 0, none⟩ v))
  (hIo : ∀ pre W k o o', w.heap.size ≤ k → W.heap[k]? = some o → o.isCells = false → I pre W → I pre (W.putObj k o'))
  (hIa : ∀ pre W o, I pre W → w.heap.size ≤ W.heap.size → I pre (W.alloc o)) (h0 : I [] w)
  (hassign : ∀ (l : Nat) (x : List UInt8) (W : World) (K : Act → World → Prop), K { tmps := (a.tmps.setIfInBounds p (.string (tx x))).setIfInBounds q (.string (tx x)), defers := [] } W →
   assign.wpIn (Fence.wide.inRound l) m Tryz.prog (Exit.then K (fun _ _ _ => False)) { tmps := ((#[p] : Array Tmp).zip #[Value.string (tx x)]).foldl (fun t (q, v) => t.setIfInBounds q v) a.tmps, defers := [] } W)
  (hbody : ∀ (l : Nat) (pre : List (List UInt8)) (x : List UInt8) (W : World) (tm : Array Value), tm = (a.tmps.setIfInBounds p (.string (tx x))).setIfInBounds q (.string (tx x)) → (∃ r, piecesL s = pre ++ x :: r) → w.heap.size ≤ W.heap.size → I pre W →
   body.wpIn (Fence.wide.inRound l) m Tryz.prog (fun e _ W' => e = .normal ∧ KeepsFrom w.heap.size W W' ∧ K3 bs bx bn W W' ∧ I (pre ++ [x]) W') { tmps := tm, defers := [] } W)
  (hdone : ∀ (D : Nat) (W : World), w.heap.size ≤ D → I (piecesL s) W → W.heap[D]? = some (.deferred (some [])) → Q .normal { a with defers := { target := .collected D, args := #[] } :: a.defers } W) :
  (Code.rangeFunc g #[p] assign body).wpIn Fence.wide (m + 2) Tryz.prog Q a w := by
 refine wpIn_rangeFunc ?_
 intro fn hfn
 obtain ⟨rc, hrc⟩ : ∃ rc : LoopState → Loop, rc = fun st => { state := st, pending := none, fn, tmps := a.tmps, params := #[p], assign, body, defers := w.heap.size } := ⟨_, rfl⟩
 obtain ⟨W1, hW1⟩ : ∃ W1, (w.alloc (.deferred (some []))).alloc (.loop (rc .ready)) = W1 := ⟨_, rfl⟩
 have hb1 : Below w.heap.size w W1 := by rw [← hW1]; exact Below.step (below_alloc _ _) (below_alloc _ _)
 have hz1 : W1.heap.size = w.heap.size + 2 := by rw [← hW1, World.size_alloc, World.size_alloc]
 have hL1 : W1.heap[w.heap.size + 1]? = some (.loop (rc .ready)) := by
  rw [← hW1]
  have := World.alloc_heap_new (w.alloc (.deferred (some []))) (.loop (rc .ready))
  rwa [World.size_alloc] at this
 have hD1 : W1.heap[w.heap.size]? = some (.deferred (some [])) := by
  rw [← hW1]
  exact ((below_alloc (w.alloc (.deferred (some []))) (.loop (rc .ready))).block w.heap.size (by rw [World.size_alloc]; omega)).trans (World.alloc_heap_new w _)
 have hI1 : I [] W1 := by
  rw [← hW1]
  exact hIa _ _ _ (hIa _ _ _ h0 (Nat.le_refl _)) (below_alloc _ _).size
 have h31 : Sp3 bs bx bn s W1 := ⟨h3.s.keep hb1, h3.x.keep hb1, h3.n.keep hb1⟩
 have hlts := h3.s.lt
 have hltx := h3.x.lt
 have hltn := h3.n.lt
 refine ⟨w.heap.size + 1, [{ target := .collected w.heap.size, args := #[] }], W1, { target := .fn (.func 162) #[.pointer (some ⟨bs, 0, none⟩), .pointer (some ⟨bx, 0, none⟩), .pointer (some ⟨bn, 0, none⟩)], args := #[.func (.yield (w.heap.size + 1)) #[] #[]] }, W1, 162,
  #[.func (.yield (w.heap.size + 1)) #[] #[], .pointer (some ⟨bs, 0, none⟩), .pointer (some ⟨bx, 0, none⟩), .pointer (some ⟨bn, 0, none⟩)], W1, ?_, ?_, fun _ _ => trivial, ?_, fun _ => by omega, ?_⟩
 ·rw [← hW1, hrc]
  exact run_enterLoop_outer _ _ _ _ _
 ·simp only [resolve, hg]
  simp [go_sem]
 ·have eg := enters_of (P := Tryz.prog) Tryz.func162 (by kernel_rfl) rfl
  simp [invoke, go_sem, eg]
 ·refine (splitSeq_it m (w.heap.size + 1) bs bx bn h1 h2 s hs (fun pre W => I pre W ∧ W.heap[w.heap.size + 1]? = some (.loop (rc .ready)) ∧ W.heap[w.heap.size]? = some (.deferred (some [])))
   (fun pre W v ⟨hi, hl, hd⟩ => ⟨hIs _ _ _ hi, (heap_set_other W bx 0 v _ (by omega)).trans hl, (heap_set_other W bx 0 v _ (by omega)).trans hd⟩) ?_ W1 h31 ⟨hI1, hL1, hD1⟩).mono ?_
  ·rintro pre x W hx ⟨hi, hl, hd⟩
   have hlt : w.heap.size + 1 < W.heap.size := (Array.getElem?_eq_some_iff.1 hl).1
   have hy := run_yield (P := Tryz.prog) (args := #[.string (tx x)]) hl (by rw [hrc]; rfl)
   rw [hrc] at hy
   refine ⟨fn, _, assign, body, hy, roundIn_of_wpIn hfn (hassign _ x W _ ?_)⟩
   clear hy
   refine ⟨_, run_beginRound hl (by rw [hrc]), ?_⟩
   obtain ⟨Wb, hWb⟩ : ∃ Wb, W.putObj (w.heap.size + 1) (.loop { rc .ready with state := .busy }) = Wb := ⟨_, rfl⟩
   have hl2 : Wb.heap[w.heap.size + 1]? = some (.loop { rc .ready with state := .busy }) := by rw [← hWb]; exact World.putObj_heap_same hlt
   have hoth : ∀ k, k ≠ w.heap.size + 1 → Wb.heap[k]? = W.heap[k]? := fun k hk => by rw [← hWb]; exact World.putObj_heap_other hk
   have hd2 : Wb.heap[w.heap.size]? = some (.deferred (some [])) := (hoth _ (by omega)).trans hd
   have hi2 : I pre Wb := by rw [← hWb]; exact hIo _ _ _ _ _ (by omega) hl rfl hi
   have hz2 : w.heap.size ≤ Wb.heap.size := by have := (Array.getElem?_eq_some_iff.1 hl2).1; omega
   rw [hWb]
   refine wpIn_mono (hbody _ pre x Wb _ rfl hx hz2 hi2) ?_
   rintro e a3 W3 ⟨rfl, hk3, hK3, hi3⟩
   have hl3 := hk3.same _ _ (by omega) hl2 rfl
   have hd3 := hk3.same _ _ (Nat.le_refl _) hd2 rfl
   have hr := run_endRound (P := Tryz.prog) none hl3
   refine ⟨_, _, hr, rfl, ⟨hIo _ _ _ _ _ (by omega) hl3 rfl hi3, ?_, ?_⟩, ?_⟩
   ·rw [World.putObj_heap_same (Array.getElem?_eq_some_iff.1 hl3).1, hrc]
    rfl
   ·exact (World.putObj_heap_other (by omega)).trans hd3
   ·exact ⟨((World.putObj_heap_other (by omega)).trans hK3.s).trans (hoth _ (by omega)), ((World.putObj_heap_other (by omega)).trans hK3.x).trans (hoth _ (by omega)), ((World.putObj_heap_other (by omega)).trans hK3.n).trans (hoth _ (by omega))⟩
  ·rintro e W2 ⟨⟨v, rfl⟩, hi, hl, hd⟩
   exact ⟨none, _, by have := run_endLoop (P := Tryz.prog) hl (by rw [hrc]; simp); rw [hrc] at this; exact this, hdone _ _ (Nat.le_refl _) (hIo _ _ _ _ _ (by omega) hl rfl hi) ((World.putObj_heap_other (by omega)).trans hd)⟩
end Go.Proofs.YtibelollgdnidaaGreatDoor
