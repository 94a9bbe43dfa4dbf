/- The iterator Ancestors: it hands its caller the elements, the last one first. -/
import Derived.Test.YtcchpenaiomeeaaDigits
import Derived.Test.YtcchpenaiomeeaaTailIn
import Derived.RangeFuncNested
import Derived.RangeFuncBound
import Derived.RangeFuncCalls
import Derived.RangeFuncLeaves
import Derived.OwnWalkIn
import Derived.TacticsInMore
import Derived.LoopNIn
import Derived.LoopIn
namespace Go.Proofs.Ytcchpenaiomeeaa
open Go.RowKit
attribute [local go_sem] Oper.semAt_some
/-- The blocks from lo to m are as they were. -/
def KpR (lo m : Nat) (W W' : World) : Prop := W.heap.size ≤ W'.heap.size ∧ ∀ k, lo ≤ k → k < m → W'.heap[k]? = W.heap[k]?
theorem KpR.refl (lo m : Nat) (W : World) : KpR lo m W W := ⟨Nat.le_refl _, fun _ _ _ => rfl⟩
theorem KpR.trans {lo m : Nat} {A B C : World} (h : KpR lo m A B) (k : KpR lo m B C) : KpR lo m A C := ⟨Nat.le_trans h.1 k.1, fun i h1 h2 => (k.2 i h1 h2).trans (h.2 i h1 h2)⟩
theorem KpR.below {lo m : Nat} {W W' : World} (h : Below m W W') : KpR lo m W W' := ⟨h.size, fun k _ h2 => h.block k h2⟩
theorem KpR.setCell {lo m : Nat} {W W' : World} (h : KpR lo m W W') {p : Addr} (hp : p.block < lo ∨ m ≤ p.block) (u : Value) : KpR lo m W (W'.setCell p u) := by
  refine ⟨by have := h.1; simpa [World.setCell] using this, fun k h1 h2 => ?_⟩
  rw [Below.heap_setCell W' p u k (by omega)]
  exact h.2 k h1 h2
theorem kpR_b {lo m : Nat} {w : World} (hm : m ≤ w.heap.size) (W : World) (l : Nat) (o o' : Obj) (hl : w.heap.size ≤ l) (h : W.heap[l]? = some o) (h1 : o.isCells = false) (h2 : o.isWalk = false) : KpR lo m W (W.putObj l o') :=
  KpR.below (belowK_b (w := w) hm W l o o' hl h h1 h2)
/-- A slice whose elements lie in a block from lo to m. -/
def SlR (w : World) (lo m : Nat) (A : Option Addr) (xs : List Id) : Prop := xs ≠ [] → ∃ ad, A = some ad ∧ lo ≤ ad.block ∧ ad.block < m ∧ At w ad (xs.flatMap cI)
theorem SlR.keep {w w' : World} {lo m : Nat} {A : Option Addr} {xs : List Id} (h : SlR w lo m A xs) (hk : KpR lo m w w') : SlR w' lo m A xs := by
  intro hx
  obtain ⟨ad, rfl, h1, h2, h3⟩ := h hx
  refine ⟨ad, rfl, h1, h2, Nat.lt_of_lt_of_le h3.1 hk.1, fun j u hu => ?_⟩
  rw [← h3.2 j u hu]
  exact World.cell?_of_block (hk.2 _ (by rw [block_of_add]; exact h1) (by rw [block_of_add]; exact h2))
theorem SlR.sl {w : World} {lo m : Nat} {A : Option Addr} {xs : List Id} (h : SlR w lo m A xs) : Sl w cI A xs := fun hx => let ⟨ad, e, _, _, h3⟩ := h hx; ⟨ad, e, h3⟩
theorem Own.slR {w : World} {base : Nat} {e : TypeId} {v : Value} {xs : List Id} (h : Own w base e 32 cI v xs) : ∃ A c, v = .slice A xs.length c ∧ xs.length ≤ c ∧ SlR w base w.heap.size A xs := by
  have hsl := h.sl
  rcases h.2 with ⟨rfl, hn⟩ | ⟨g, cap, cur, rfl, hb, hg, hnc, _⟩
  · have : xs = [] := List.eq_nil_of_length_eq_zero hn
    subst this
    exact ⟨none, 0, rfl, Nat.le_refl _, fun h => absurd rfl h⟩
  · refine ⟨_, cap, rfl, hnc, fun hx => ?_⟩
    obtain ⟨A, c, e, _, hs⟩ := hsl
    obtain ⟨ad, rfl, hat⟩ := hs hx
    obtain rfl : (⟨g, 0, none⟩ : Addr) = ad := by injection e with e; injection e
    exact ⟨_, rfl, hb, (Array.getElem?_eq_some_iff.1 hg).1, hat⟩
set_option maxHeartbeats 400000 in
theorem clone34r (A : Option Addr) (c n : Nat) (xs : List Id) (w : World) (hl : xs.length = n) (hx : Sl w cI A xs) (hn : xs.length * 32 ≤ 140737488355328) :
    Calls Try.prog 34 #[.slice A n c] w fun e w' => ∃ v, e = .returned v ∧ Below w.heap.size w w' ∧ Own w' w.heap.size 33 32 cI v xs := by
  subst hl
  cases A with
  | none =>
    obtain rfl := Sl.none_ hx
    clear hx hn
    go_enter Try.func34, Try.ntmps34
    go_wp2
    go_ret
    exact ⟨_, rfl, Below.refl _ _, Own.nil _ _ _ _ _⟩
  | some ad =>
    go_enter Try.func34, Try.ntmps34
    have HX := Lib.hid hx; clear hx
    go_wp2_with ((at_builtin; refine wpList_append_sl _ rfl (.tmp 5) (.tmp 6) 24 rfl w.heap.size 33 32 32 cI under24 row33 (by decide) cI_length cI_one _ [] rfl ?hown _ _ _ xs rfl rfl ?hsl ?h1 ?h2 ?h3 ?_))
    case hown => exact Own.newI w w.heap.size 33 [] (Nat.le_refl _) (by simp)
    case hsl => exact HX.out.keep (below_alloc _ _)
    case h1 => simp; omega
    case h2 => simp; omega
    case h3 => simp
    intro v' w' ho hg
    have hb := Own.grew (Own.newI w w.heap.size 33 [] (Nat.le_refl _) (by simp)) hg (below_alloc _ _) (Nat.le_refl _) (by simp)
    have H := Lib.hid (And.intro hb ho); clear hb ho hg
    go_wp2
    go_ret
    exact ⟨_, rfl, H.out.1, H.out.2⟩
/-- What Ancestors hands back: a function over a variable of its own that holds a slice of its own. -/
def AncP (w : World) (xs : List Id) (e : Ending) (w' : World) : Prop :=
  ∃ b A c, e = .returned (.func (.func 35) #[] #[.pointer (some ⟨b, 0, none⟩)]) ∧ Below w.heap.size w w' ∧ w.heap.size ≤ b ∧ b < w'.heap.size ∧ w'.cell? ⟨b, 0, none⟩ = some (.slice A xs.length c) ∧ xs.length ≤ c ∧ SlR w' w.heap.size w'.heap.size A xs
set_option maxHeartbeats 400000 in
theorem anc19 (A : Option Addr) (c n : Nat) (xs : List Id) (w : World) (hl : xs.length = n) (hx : Sl w cI A xs) (hn : xs.length * 32 ≤ 140737488355328) :
    Calls Try.prog 19 #[.slice A n c] w (AncP w xs) := by
  have HX := Lib.hid (And.intro hl (And.intro hx hn))
  clear hl hx hn
  go_enter Try.func19, Try.ntmps19
  go_wp2_with (go_at_call 34; refine (clone34r _ _ _ xs _ HX.out.1 HX.out.2.1 HX.out.2.2).mono ?_; rintro e w1 ⟨v, rfl, hb1, ho⟩; obtain ⟨A1, c1', rfl, hc1, hs1⟩ := Own.slR ho; have H1 := Lib.hid (And.intro hb1 (And.intro hc1 hs1)); clear hb1 ho hc1 hs1)
  go_ret
  refine ⟨w1.heap.size, A1, c1', rfl, H1.out.1.alloc H1.out.1.size _, H1.out.1.size, by simp, by simp [World.cell?_alloc_at], H1.out.2.1, fun hne => ?_⟩
  obtain ⟨ad, h0, h1, h2, h3⟩ := H1.out.2.2 hne
  exact ⟨ad, h0, h1, by simp; omega, h3.keep (below_alloc _ _)⟩
/-- The k last elements with their places, the last one first. -/
def items (xs : List Id) (k : Nat) : List (Nat × Id) := (List.range k).map fun j => (xs.length - 1 - j, xs.getD (xs.length - 1 - j) zI)
theorem items_succ (xs : List Id) (k : Nat) : items xs (k + 1) = items xs k ++ [(xs.length - 1 - k, xs.getD (xs.length - 1 - k) zI)] := by simp [items, List.range_succ]
theorem items_length (xs : List Id) (k : Nat) : (items xs k).length = k := by simp [items]
set_option maxRecDepth 100000 in
set_option maxHeartbeats 2000000 in
theorem all35_in (n : Nat) (hn : 1 ≤ n) (l Bs lo m c : Nat) (A : Option Addr) (xs : List Id) (hb1 : lo ≤ Bs) (hb2 : Bs < m) (hm : xs.length ≤ 4294967296) (J Jx : List (Nat × Id) → World → Prop)
    (hY : ∀ pre x W, J pre W → pre.length < xs.length → YieldAt Fence.wide (n - 1) Try.prog l #[.int .i64 (x.1 : Int), vI x.2] W fun e W' =>
      (e = .returned (.bool true) ∧ J (pre ++ [x]) W' ∧ KpR lo m W W') ∨ (e = .returned (.bool false) ∧ Jx (pre ++ [x]) W'))
    (W : World) (hBs : W.cell? ⟨Bs, 0, none⟩ = some (.slice A xs.length c)) (hsl : SlR W lo m A xs) (h0 : J [] W) :
    CallsIn Fence.wide n Try.prog 35 #[.func (.yield l) #[] #[], .pointer (some ⟨Bs, 0, none⟩)] W fun e W' => (∃ v, e = .returned v) ∧
      ((∃ ys, ys = items xs xs.length ∧ J ys W') ∨ (∃ pre, (∃ k, k ≤ xs.length ∧ pre = items xs k) ∧ Jx pre W')) := by
  have HS := Lib.hid hsl
  clear hsl
  refine callsIn_of_wp Try.func35 rfl trivial ?_ rfl
  simp only [Try.ntmps35, List.size_toArray, List.length_cons, List.length_nil, Nat.reduceAdd, Nat.reduceSub, Array.replicate_succ, Array.replicate_zero, List.push_toArray, List.append_toArray, List.nil_append, List.cons_append]
  gi_wp2
  gi_loopw [3] (fun i wr => ∃ (k : Nat) (d : Int), k ≤ xs.length ∧ i = .int .i64 d ∧ d + k + 1 = xs.length ∧ J (items xs k) wr ∧ KpR lo m W wr) (fun i _ => (intOf i + 1).toNat)
  case atStart => exact ⟨0, _, Nat.zero_le _, rfl, by omega, h0, KpR.refl _ _ _⟩
  case round =>
    obtain ⟨k, d, hk, rfl, hd, hJs, hkp⟩ := hrel
    have hcell := (World.cell?_of_block (a := ⟨Bs, 0, none⟩) (hkp.2 Bs hb1 hb2)).trans hBs
    by_cases hlt : k < xs.length
    · obtain ⟨d', rfl⟩ : ∃ d' : Nat, d = (d' : Int) := ⟨d.toNat, by omega⟩
      have hd2 : d' < xs.length := by omega
      obtain ⟨ad, rfl, hok, hrd⟩ := Sl.rd (HS.out.keep hkp).sl hd2
      have hit : (xs.length - 1 - k, xs.getD (xs.length - 1 - k) zI) = (d', xs[d']) := by
        have : xs.length - 1 - k = d' := by omega
        rw [this, List.getD_eq_getElem?_getD, List.getElem?_eq_getElem hd2]
        rfl
      have hsu := items_succ xs k
      rw [hit] at hsu
      have HI := Lib.hid (And.intro hsu hd)
      obtain ⟨fn, tmps, assign, body, hy, hR⟩ := hY _ (d', xs[d']) wr hJs (by rw [items_length]; exact hlt)
      dsimp only at hy
      have h4 : (0 : Int) ≤ (d' : Int) := by omega
      have h5 : (d' : Int) < (xs.length : Int) := by omega
      clear hit hsu hd
      gi_wp2
      refine hR.mono ?_
      rintro e W3 (⟨rfl, hJ3, hk3⟩ | ⟨rfl, hJx3⟩)
      · gi_wp2
        go_roundw
        case rel => exact ⟨k + 1, _, hlt, rfl, by have := HI.out.2; omega, by rw [HI.out.1]; exact hJ3, hkp.trans hk3⟩
        case measure => simp [intOf]
      · gi_wp2
        refine bodyPost_ret (results_none rfl _ _ _) rfl ?_
        exact ⟨⟨_, rfl⟩, .inr ⟨_, ⟨k + 1, hlt, rfl⟩, by rw [HI.out.1]; exact hJx3⟩⟩
    · have hkn : k = xs.length := by omega
      have hd0 : d = -1 := by omega
      subst hkn
      subst hd0
      gi_wp2
      go_end0
      exact ⟨⟨_, rfl⟩, .inl ⟨_, rfl, hJs⟩⟩
theorem anc_stops (n : Nat) (hn : 1 ≤ n) (Bs lo m c : Nat) (A : Option Addr) (xs : List Id) (hb1 : lo ≤ Bs) (hb2 : Bs < m) (hm : xs.length ≤ 4294967296) (w : World) (hmw : m ≤ w.heap.size) (hBs : w.cell? ⟨Bs, 0, none⟩ = some (.slice A xs.length c)) (hsl : SlR w lo m A xs) :
    SeqStopsK Fence.wide n Try.prog 35 #[.pointer (some ⟨Bs, 0, none⟩)] (fun x : Nat × Id => #[Value.int .i64 (x.1 : Int), vI x.2]) (KpR lo m) (fun ys => ys = items xs xs.length)
      (fun pre => ∃ k, k ≤ xs.length ∧ pre = items xs k) xs.length w := fun l J Jx W hW _ _ hY h0 =>
  all35_in n hn l Bs lo m c A xs hb1 hb2 hm J Jx hY W ((World.cell?_of_block (a := ⟨Bs, 0, none⟩) (hW.block Bs (by omega))).trans hBs) (hsl.keep (KpR.below (hW.mono hmw))) h0
end Go.Proofs.Ytcchpenaiomeeaa
