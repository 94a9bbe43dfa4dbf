/- A region that draws its order, head and forced tail, by an invariant that knows which operations have come up and what each has come to: stores and appends among the head too. -/
import Derived.Test.YtibelollgdnidaaGreatDoorMRow
namespace Go.Proofs.YtibelollgdnidaaGreatDoor
open Go.RowKit
namespace AnyO
variable {P : Program} {ops : Array Oper} {Q : Exit → Act → World → Prop}
def addD (D : Nat → Bool) (i : Nat) : Nat → Bool := fun j => if j = i then true else D j
def addV (vs : Nat → Value) (i : Nat) (v : Value) : Nat → Value := fun j => if j = i then v else vs j
def StepI (P : Program) (ops : Array Oper) (Inv : (Nat → Bool) → (Nat → Value) → World → Prop) (a0 : Act) (i : Nat) : Prop :=
 ∀ o, ops[i]? = some o → ∀ (D : Nat → Bool) (vs : Nat → Value) (w : World), Inv D vs w → D i = false → (∀ k, D k = true → ∀ j ∈ pre ops k, D j = true) → (∀ j ∈ pre ops i, D j = true) →
  ∀ K : Act → World → Prop, (∀ v w', Inv (addD D i) (addV vs i v) w' → K ((puts ops vs (pre ops i) a0).put o.dst v) w') →
   if Region.wanted o (yielded ops (puts ops vs (pre ops i) a0).tmps) = true then o.wp P (puts ops vs (pre ops i) a0) w K (fun _ _ _ => False) else K ((puts ops vs (pre ops i) a0).put o.dst undef) w
theorem StepI.mk {Inv : (Nat → Bool) → (Nat → Value) → World → Prop} {a0 : Act} {i : Nat} {o : Oper} (ho : ops[i]? = some o) (l : List Nat) (hl : pre ops i = l)
  (h : ∀ (D : Nat → Bool) (vs : Nat → Value) (w : World), Inv D vs w → D i = false → (∀ k, D k = true → ∀ j ∈ pre ops k, D j = true) → (∀ j ∈ l, D j = true) → ∀ b : Act, b = puts ops vs l a0 →
   ∀ K : Act → World → Prop, (∀ v w', Inv (addD D i) (addV vs i v) w' → K (b.put o.dst v) w') →
    if Region.wanted o (yielded ops b.tmps) = true then o.wp P b w K (fun _ _ _ => False) else K (b.put o.dst undef) w) : StepI P ops Inv a0 i := by
 subst hl
 intro o' ho' D vs w hE h0 hC hp K hK
 rw [ho] at ho'
 injection ho' with ho'
 subst ho'
 exact h D vs w hE h0 hC hp _ rfl K hK

/-! ### one slice made, one append -/
def pvL (L : List (Option Value)) (j : Nat) (v : Value) : Prop := match L[j]? with | some (some x) => v = x | _ => True
def InvA (m s : Nat) (PV : Nat → Value → Prop) (w1 : World) (SL AP : Value → World → Prop) (D : Nat → Bool) (vs : Nat → Value) (u : World) : Prop :=
 (∀ j, D j = true → PV j (vs j)) ∧ (D m = false → Below w1.heap.size w1 u ∧ (D s = true → SL (vs s) u)) ∧ (D m = true → AP (vs m) u)
section
variable {m s i : Nat} {PV : Nat → Value → Prop} {w1 : World} {SL AP : Value → World → Prop} {D : Nat → Bool} {vs : Nat → Value} {u u' : World} {v : Value}
theorem InvA.start (_hsm : s ≠ m) : InvA m s PV w1 SL AP (fun _ => false) (fun _ => undef) w1.drew :=
 ⟨fun _ h => (by cases h), fun _ => ⟨(Below.refl _ _).drew, fun h => (by cases h)⟩, fun h => (by cases h)⟩
theorem InvA.vals (h : InvA m s PV w1 SL AP D vs u) (hv : PV i v) : ∀ j, addD D i j = true → PV j (addV vs i v j) := by
 intro j hj
 unfold addD at hj
 unfold addV
 by_cases e : j = i
 ·subst e; rw [if_pos rfl]; exact hv
 ·rw [if_neg e] at hj ⊢; exact h.1 j hj
theorem InvA.pure (h : InvA m s PV w1 SL AP D vs u) (him : i ≠ m) (his : i ≠ s) (hv : PV i v) : InvA m s PV w1 SL AP (addD D i) (addV vs i v) u := by
 refine ⟨h.vals hv, fun hm => ?_, fun hm => ?_⟩
 ·unfold addD at hm
  rw [if_neg (fun e => him e.symm)] at hm
  refine ⟨(h.2.1 hm).1, fun hs => ?_⟩
  unfold addD at hs
  unfold addV
  rw [if_neg (fun e => his e.symm)] at hs ⊢
  exact (h.2.1 hm).2 hs
 ·unfold addD at hm
  unfold addV
  rw [if_neg (fun e => him e.symm)] at hm ⊢
  exact h.2.2 hm
theorem InvA.slice (h : InvA m s PV w1 SL AP D vs u) (hsm : s ≠ m) (hm : D m = false) (hb : Below u.heap.size u u') (hv : PV s v) (hS : SL v u') : InvA m s PV w1 SL AP (addD D s) (addV vs s v) u' := by
 refine ⟨h.vals hv, fun _ => ⟨(h.2.1 hm).1.trans (hb.mono (h.2.1 hm).1.size), fun _ => ?_⟩, fun hm' => ?_⟩
 ·unfold addV
  rw [if_pos rfl]
  exact hS
 ·unfold addD at hm'
  rw [if_neg (fun e => hsm e.symm), hm] at hm'
  cases hm'
theorem InvA.app (h : InvA m s PV w1 SL AP D vs u) (hv : PV m v) (hA : AP v u') : InvA m s PV w1 SL AP (addD D m) (addV vs m v) u' := by
 refine ⟨h.vals hv, fun hm => ?_, fun _ => ?_⟩
 ·unfold addD at hm
  rw [if_pos rfl] at hm
  cases hm
 ·unfold addV
  rw [if_pos rfl]
  exact hA
end
end AnyO
end Go.Proofs.YtibelollgdnidaaGreatDoor
namespace Go.Proofs.YtibelollgdnidaaGreatDoor
open Go.RowKit
namespace AnyO
variable {P : Program} {ops : Array Oper} {Q : Exit → Act → World → Prop}
theorem walkJ (hok : ok ops = true) (Inv : (Nat → Bool) → (Nat → Value) → World → Prop) (a0 : Act)
  (hstep : ∀ i, i < ops.size → StepI P ops Inv a0 i)
  (hfin : ∀ (D : Nat → Bool) (vs : Nat → Value) (w : World), Inv D vs w → (∀ i, i < ops.size → D i = true) → Q .normal (puts ops vs (List.range ops.size) a0) w) :
  ∀ (fuel : Nat) (listed : Array Bool) (vs : Nat → Value) (w : World), listed.size = ops.size → (unl ops listed).length ≤ fuel → Inv (fun j => listed.getD j false) vs w →
   (∀ i, listed.getD i false = true → ∀ j ∈ pre ops i, listed.getD j false = true) → wpAny P .any ops Q fuel listed (puts ops vs (listedL ops listed) a0) w := by
 have hspec : ∀ i, i < ops.size → (∀ j ∈ pre ops i, j < i) ∧ (∀ j, j < ops.size → j ≠ i → ∀ s, dst ops i = some s → dst ops j ≠ some s) ∧
   (∀ o, ops[i]? = some o → (∀ cs b, o.op ≠ .select cs b) ∧ ∀ t ∈ o.looksAt ops, ∀ j, j < ops.size → dst ops j = some t → j ∈ pre ops i ∨ i ∈ pre ops j) := by
  intro i hi
  have h := List.all_eq_true.1 hok i (List.mem_range.2 hi)
  simp only [Bool.and_eq_true] at h
  obtain ⟨⟨h1, h2⟩, h3⟩ := h
  refine ⟨fun j hj => by simpa using List.all_eq_true.1 h1 j hj, fun j hj hne s hs hs' => ?_, fun o ho => ?_⟩
  ·have := List.all_eq_true.1 h2 j (List.mem_range.2 hj)
   rw [hs, hs'] at this
   simp [hne] at this
  ·rw [ho] at h3
   simp only [Bool.and_eq_true] at h3
   refine ⟨fun cs b e => by rw [e] at h3; simp at h3, fun t ht j hj hd => ?_⟩
   have := List.all_eq_true.1 (List.all_eq_true.1 h3.2 t ht) j (List.mem_range.2 hj)
   rw [hd] at this
   simpa using this
 have hlt : ∀ i s, dst ops i = some s → i < ops.size := fun i s h => by
  unfold dst at h
  rcases Nat.lt_or_ge i ops.size with h' | h'
  ·exact h'
  ·rw [Array.getElem?_eq_none h'] at h; cases h
 have honce : Once ops := fun i j s hi hj => by
  by_cases e : j = i
  ·exact e.symm
  ·exact absurd hj ((hspec i (hlt i s hi)).2.1 j (hlt j s hj) e s hi)
 have hready : ∀ listed : Array Bool, listed.size = ops.size → Region.ready .any ops listed = [] → ∀ i, i < ops.size → listed.getD i false = true := by
  intro listed hsz hr i
  induction i using Nat.strongRecOn with
  | ind i ih =>
   intro hi
   rcases hb : listed.getD i false with _ | _
   ·exfalso
    have hmem : i ∈ Region.ready .any ops listed := by
     rw [mem_ready]
     refine ⟨?_, ops[i], Array.getElem?_eq_getElem hi, fun e he hbi => ?_⟩
     ·rw [Array.getD_eq_getD_getElem?, Array.getElem?_eq_getElem (by omega)] at hb ⊢
      simpa using hb
     ·have hp : e.on ∈ pre ops i := by
       unfold pre
       rw [Array.getElem?_eq_getElem hi]
       exact List.mem_filterMap.2 ⟨e, by simpa using he, by simp [hbi]⟩
      have := (hspec i hi).1 _ hp
      exact ih _ this (by omega)
    rw [hr] at hmem
    cases hmem
   ·rfl
 intro fuel
 induction fuel with
 | zero =>
  intro listed vs w hsz hfu hE hC
  have hall : ∀ i, i < ops.size → listed.getD i false = true := by
   intro i hi
   have hnil : unl ops listed = [] := List.eq_nil_of_length_eq_zero (by omega)
   unfold unl at hnil
   rw [List.filter_eq_nil_iff] at hnil
   have := hnil i (List.mem_range.2 hi)
   simpa using this
  have hset : puts ops vs (listedL ops listed) a0 = puts ops vs (List.range ops.size) a0 :=
   puts_same honce vs vs _ _ a0 (fun i => by
    unfold listedL
    rw [List.mem_filter, List.mem_range]
    exact ⟨fun h => h.1, fun h => ⟨h, hall i h⟩⟩) (fun _ _ => rfl)
  refine ⟨?_, ?_⟩
  ·cases hr : Region.ready .any ops listed with
   | nil => rfl
   | cons i l =>
    exfalso
    have hm : i ∈ Region.ready .any ops listed := by rw [hr]; exact List.mem_cons_self ..
    rw [mem_ready] at hm
    obtain ⟨h0, o, ho, _⟩ := hm
    have hi : i < ops.size := (Array.getElem?_eq_some_iff.1 ho).1
    have := hall i hi
    rw [Array.getD_eq_getD_getElem?, Array.getElem?_eq_getElem (by omega)] at h0 this
    simp at h0 this
    rw [h0] at this
    cases this
  ·rw [hset]
   exact hfin _ vs w hE hall
 | succ fuel ih =>
  intro listed vs w hsz hfu hE hC
  refine ⟨fun hr => ?_, fun i hi => ?_⟩
  ·have hall := hready listed hsz hr
   have hset : puts ops vs (listedL ops listed) a0 = puts ops vs (List.range ops.size) a0 :=
    puts_same honce vs vs _ _ a0 (fun i => by
     unfold listedL
     rw [List.mem_filter, List.mem_range]
     exact ⟨fun h => h.1, fun h => ⟨h, hall i h⟩⟩) (fun _ _ => rfl)
   rw [hset]
   exact hfin _ vs w hE hall
  ·rw [mem_ready] at hi
   obtain ⟨h0, o, ho, hall⟩ := hi
   have hi' : i < ops.size := (Array.getElem?_eq_some_iff.1 ho).1
   have h0' : listed.getD i false = false := by
    rw [Array.getD_eq_getD_getElem?, Array.getElem?_eq_getElem (by omega)] at h0 ⊢
    simpa using h0
   have hpre : ∀ j ∈ pre ops i, listed.getD j false = true := by
    intro j hj
    unfold pre at hj
    rw [ho] at hj
    obtain ⟨e, he, hb⟩ := List.mem_filterMap.1 hj
    split at hb
    ·rename_i hbi
     injection hb with hb
     subst hb
     exact hall e (by simpa using he) hbi
    ·cases hb
   obtain ⟨hp1, hp2, hp3⟩ := hspec i hi'
   obtain ⟨hsel, hlook⟩ := hp3 o ho
   -- the frame that the operation sees
   have hsee : ∀ t ∈ o.looksAt ops, (puts ops vs (pre ops i) a0).tmps[t]? = (puts ops vs (listedL ops listed) a0).tmps[t]? := by
    intro t ht
    by_cases hw : ∃ j, j < ops.size ∧ dst ops j = some t
    ·obtain ⟨j, hj, hd⟩ := hw
     rcases hlook t ht j hj hd with hpj | hpi
     ·have hlj : j ∈ listedL ops listed := by
       unfold listedL
       rw [List.mem_filter, List.mem_range]
       exact ⟨hj, hpre j hpj⟩
      by_cases hts : t < a0.tmps.size
      ·rw [puts_some vs t j hd _ a0 hts hpj (fun k _ hk => honce k j t hk hd), puts_some vs t j hd _ a0 hts hlj (fun k _ hk => honce k j t hk hd)]
      ·have n1 : (puts ops vs (pre ops i) a0).tmps[t]? = none := Array.getElem?_eq_none (by rw [puts_size]; exact Nat.le_of_not_lt hts)
       have n2 : (puts ops vs (listedL ops listed) a0).tmps[t]? = none := Array.getElem?_eq_none (by rw [puts_size]; exact Nat.le_of_not_lt hts)
       rw [n1, n2]
     ·have hnl : listed.getD j false = false := by
       rcases hb : listed.getD j false with _ | _
       ·rfl
       ·exfalso
        have := hC j hb i hpi
        rw [h0'] at this
        cases this
      have h1 : ∀ k ∈ pre ops i, dst ops k ≠ some t := fun k hk e => by
       have := honce k j t e hd
       subst this
       have := (hspec k hj).1 i hpi
       have := hp1 k hk
       omega
      have h2 : ∀ k ∈ listedL ops listed, dst ops k ≠ some t := fun k hk e => by
       have := honce k j t e hd
       subst this
       unfold listedL at hk
       rw [List.mem_filter] at hk
       rw [hnl] at hk
       cases hk.2
      rw [puts_none vs t _ a0 h1, puts_none vs t _ a0 h2]
    ·have h1 : ∀ l : List Nat, ∀ k ∈ l, dst ops k ≠ some t := fun l k _ e => hw ⟨k, hlt k t e, e⟩
     rw [puts_none vs t _ a0 (h1 _), puts_none vs t _ a0 (h1 _)]
   have hex : execOp (puts ops vs (listedL ops listed) a0).eval o = execOp (puts ops vs (pre ops i) a0).eval o := by
    refine execOp_congr o hsel fun x hx => ?_
    cases x with
    | tmp t =>
     have := hsee t (List.mem_append_left _ (List.mem_filterMap.2 ⟨.tmp t, by simpa using hx, rfl⟩))
     simp [Act.eval, this]
    | _ => rfl
   have hwant : Region.wanted o (yielded ops (puts ops vs (listedL ops listed) a0).tmps) = Region.wanted o (yielded ops (puts ops vs (pre ops i) a0).tmps) := by
    unfold Region.wanted
    cases hg : o.guard with
    | none => rfl
    | some gw =>
     obtain ⟨g, want⟩ := gw
     have hy : yielded ops (puts ops vs (listedL ops listed) a0).tmps g = yielded ops (puts ops vs (pre ops i) a0).tmps g := by
      unfold yielded
      cases ht : (ops[g]?).bind (·.dst) with
      | none => rfl
      | some t =>
       have := hsee t (by simp [Oper.looksAt, hg, ht])
       simp [this]
     simp only [hy]
   have hst := hstep i hi' o ho _ vs w hE h0' hC hpre (fun a' w' => ∃ v, a' = (puts ops vs (pre ops i) a0).put o.dst v ∧ Inv (addD (fun j => listed.getD j false) i) (addV vs i v) w') (fun v w' h1 => ⟨v, rfl, h1⟩)
   have hdst : dst ops i = o.dst := by unfold dst; rw [ho]; rfl
   have hnext : ∀ v w', Inv (addD (fun j => listed.getD j false) i) (addV vs i v) w' → wpAny P .any ops Q fuel (listed.setIfInBounds i true) ((puts ops vs (listedL ops listed) a0).put o.dst v) w' := by
    intro v w' h1
    have hil : i ∉ listedL ops listed := by
     unfold listedL
     rw [List.mem_filter]
     rintro ⟨_, h⟩
     rw [h0'] at h
     cases h
    let vs' : Nat → Value := addV vs i v
    have hmem : ∀ j, (listed.setIfInBounds i true).getD j false = true ↔ (j = i ∨ listed.getD j false = true) := by
     intro j
     by_cases hji : j = i
     ·subst hji
      simp [show j < listed.size by omega]
     ·rw [getD_set_ne false (Ne.symm hji)]
      simp [hji]
    have heq : (puts ops vs (listedL ops listed) a0).put o.dst v = puts ops vs' (listedL ops (listed.setIfInBounds i true)) a0 := by
     have e1 : puts ops vs (listedL ops listed) a0 = puts ops vs' (listedL ops listed) a0 := puts_same honce vs vs' _ _ a0 (fun _ => Iff.rfl) (fun j hj => by
      have : j ≠ i := fun e => hil (e ▸ hj)
      simp [vs', addV, this])
     have e2 : ((puts ops vs' (listedL ops listed) a0).put o.dst v) = puts ops vs' (listedL ops listed ++ [i]) a0 := by
      rw [puts_snoc, hdst]
      simp [vs', addV]
     rw [e1, e2]
     refine puts_same honce vs' vs' _ _ a0 (fun j => ?_) (fun _ _ => rfl)
     unfold listedL
     rw [List.mem_append, List.mem_filter, List.mem_filter, hmem j, List.mem_singleton, List.mem_range]
     constructor
     ·rintro (⟨hj, hl⟩ | rfl)
      ·exact ⟨hj, Or.inr hl⟩
      ·exact ⟨hi', Or.inl rfl⟩
     ·rintro ⟨hj, rfl | hl⟩
      ·exact Or.inr rfl
      ·exact Or.inl ⟨hj, hl⟩
    rw [heq]
    have hD : (fun j => (listed.setIfInBounds i true).getD j false) = addD (fun j => listed.getD j false) i := by
     funext j
     unfold addD
     by_cases hji : j = i
     ·subst hji
      rw [if_pos rfl]
      exact (hmem j).2 (Or.inl rfl)
     ·rw [if_neg hji, getD_set_ne false (Ne.symm hji)]
    refine ih _ vs' w' (by simpa using hsz) ?_ (by rw [hD]; exact h1) ?_
    ·have hun : unl ops (listed.setIfInBounds i true) = (unl ops listed).filter (fun j => j != i) := by
      unfold unl
      rw [List.filter_filter]
      refine List.filter_congr fun j hj => ?_
      rw [Bool.eq_iff_iff]
      have hm := hmem j
      by_cases hji : j = i
      ·subst hji
       have : (listed.setIfInBounds j true).getD j false = true := hm.2 (Or.inl rfl)
       rw [this]
       simp
      ·rw [getD_set_ne false (Ne.symm hji)]
       simp [hji]
     have hlt2 : ((unl ops listed).filter (fun j => j != i)).length < (unl ops listed).length := by
      rw [List.length_filter_lt_length_iff_exists]
      refine ⟨i, ?_, by simp⟩
      unfold unl
      rw [List.mem_filter, List.mem_range, h0']
      exact ⟨hi', rfl⟩
     rw [hun]
     omega
    ·intro j hj k hk
     rw [hmem]
     rcases (hmem j).1 hj with rfl | hl
     ·exact Or.inr (hpre k hk)
     ·exact Or.inr (hC j hl k hk)
   unfold wpOp
   rw [ho]
   show if Region.wanted o (yielded ops (puts ops vs (listedL ops listed) a0).tmps) = true then _ else _
   rw [hwant]
   split at hst
   ·rename_i hw
    rw [if_pos hw]
    refine Or.inl (Oper.wp_mono ?_ (wp_frame hex (by rw [puts_size, puts_size]) Q hst))
    rintro a' w' ⟨v, rfl, hr⟩
    exact hnext v w' hr
   ·rename_i hw
    rw [if_neg hw]
    obtain ⟨v, hv, hr⟩ := hst
    have : (puts ops vs (listedL ops listed) a0).put o.dst undef = (puts ops vs (listedL ops listed) a0).put o.dst v := by
     cases hd : o.dst with
     | none => rfl
     | some d =>
      rw [hd] at hv
      by_cases hlt' : d < a0.tmps.size
      ·have h1 := put_get_eq (puts ops vs (pre ops i) a0) undef d (by rw [puts_size]; exact hlt')
       rw [hv, put_get_eq (puts ops vs (pre ops i) a0) v d (by rw [puts_size]; exact hlt')] at h1
       rw [Option.some.inj h1]
      ·have hb : ¬ d < (puts ops vs (listedL ops listed) a0).tmps.size := by rw [puts_size]; exact hlt'
       simp [Act.put, Array.setIfInBounds, hb]
    rw [this]
    exact hnext v w hr

theorem wp_anyI {id : Nat} {a0 : Act} {w0 : World} (hm : P.follows .mixedOrders = true) (hok : ok ops = true) (Inv : (Nat → Bool) → (Nat → Value) → World → Prop) (h0i : Inv (fun _ => false) (fun _ => undef) w0.drew)
  (hstep : ∀ i, i < ops.size → StepI P ops Inv a0 i)
  (hfin : ∀ (D : Nat → Bool) (vs : Nat → Value) (w : World), Inv D vs w → (∀ i, i < ops.size → D i = true) → Q .normal (puts ops vs (List.range ops.size) a0) w) :
  (Code.region id ops true).wp P Q a0 w0 := by
 refine wp_region_any hm ?_
 have h00 : ∀ i, (Array.replicate ops.size false).getD i false = false := fun i => by
  rw [Array.getD_eq_getD_getElem?]
  rcases Nat.lt_or_ge i ops.size with h | h
  ·simp [h]
  ·simp [Nat.not_lt.2 h]
 have h0 : listedL ops (Array.replicate ops.size false) = [] := by
  unfold listedL
  rw [List.filter_eq_nil_iff]
  intro i hi
  rw [h00]
  simp
 have := walkJ (Q := Q) hok Inv a0 hstep hfin ops.size (Array.replicate ops.size false) (fun _ => undef) w0.drew (by simp) (by unfold unl; exact Nat.le_trans (List.length_filter_le _ _) (by simp)) (by rw [show (fun j => (Array.replicate ops.size false).getD j false) = fun _ => false from funext h00]; exact h0i)
  (fun i hi => by rw [h00] at hi; cases hi)
 rw [h0] at this
 exact this
/-! ### stores into rows of the call's own -/
abbrev Sto := Nat × Nat × TypeId × List Value × List Value
def InvS (PV : Nat → Value → Prop) (w1 : World) (S : List Sto) (D : Nat → Bool) (vs : Nat → Value) (u : World) : Prop :=
 (∀ j, D j = true → PV j (vs j)) ∧ (u.os = w1.os ∧ u.tape = w1.tape ∧ u.output = w1.output ∧ w1.heap.size ≤ u.heap.size) ∧ (∀ k, k < w1.heap.size → (∀ x ∈ S, k ≠ x.2.1) → u.heap[k]? = w1.heap[k]?) ∧
  ∀ x ∈ S, Row u x.2.1 (if D x.1 = true then x.2.2.2.2 else x.2.2.2.1) x.2.2.1
section
variable {m i : Nat} {PV : Nat → Value → Prop} {w1 : World} {S : List Sto} {D : Nat → Bool} {vs : Nat → Value} {u u' : World} {v : Value}
theorem InvS.start (h : ∀ x ∈ S, Row w1 x.2.1 x.2.2.2.1 x.2.2.1) : InvS PV w1 S (fun _ => false) (fun _ => undef) w1.drew :=
 ⟨fun _ h => (by cases h), ⟨rfl, rfl, rfl, Nat.le_refl _⟩, fun _ _ _ => rfl, fun x hx => by rw [if_neg (by simp)]; exact h x hx⟩
theorem InvS.vals (h : InvS PV w1 S D vs u) (hv : PV i v) : ∀ j, addD D i j = true → PV j (addV vs i v j) := by
 intro j hj
 unfold addD at hj
 unfold addV
 by_cases e : j = i
 ·subst e; rw [if_pos rfl]; exact hv
 ·rw [if_neg e] at hj ⊢; exact h.1 j hj
theorem InvS.pure (h : InvS PV w1 S D vs u) (hi : ∀ x ∈ S, x.1 ≠ i) (hv : PV i v) (hb : Below u.heap.size u u') : InvS PV w1 S (addD D i) (addV vs i v) u' := by
 have hvv := h.vals hv
 obtain ⟨_, ⟨h1, h2, h3, h4⟩, h5, h6⟩ := h
 refine ⟨hvv, ⟨hb.os.trans h1, hb.tape.trans h2, hb.output.trans h3, Nat.le_trans h4 hb.size⟩, fun k hk hx => (hb.block k (Nat.lt_of_lt_of_le hk h4)).trans (h5 k hk hx), fun x hx => ?_⟩
 have := h6 x hx
 unfold addD
 rw [if_neg (hi x hx)]
 exact this.keep hb
theorem InvS.store (h : InvS PV w1 S D vs u) {x : Sto} (hx : x ∈ S) (hi : x.1 = i) (hv : PV i v) (hr : Row u' x.2.1 x.2.2.2.2 x.2.2.1) (ho : ∀ k, k ≠ x.2.1 → u'.heap[k]? = u.heap[k]?) (hos : u'.os = u.os ∧ u'.tape = u.tape ∧ u'.output = u.output ∧ u.heap.size ≤ u'.heap.size)
  (hd : ∀ y ∈ S, y ≠ x → y.2.1 ≠ x.2.1 ∧ y.1 ≠ i) : InvS PV w1 S (addD D i) (addV vs i v) u' := by
 have hvv := h.vals hv
 obtain ⟨_, ⟨h1, h2, h3, h4⟩, h5, h6⟩ := h
 refine ⟨hvv, ⟨hos.1.trans h1, hos.2.1.trans h2, hos.2.2.1.trans h3, Nat.le_trans h4 hos.2.2.2⟩, fun k hk hy => (ho k (hy x hx)).trans (h5 k hk hy), fun y hy => ?_⟩
 by_cases e : y = x
 ·subst e
  unfold addD
  rw [if_pos (by rw [if_pos hi])]
  exact hr
 ·obtain ⟨e1, e2⟩ := hd y hy e
  have := h6 y hy
  unfold addD
  rw [if_neg e2]
  exact this.same (ho _ e1)
theorem InvS.row (h : InvS PV w1 S D vs u) {g : Nat} {cs : List Value} {ty : TypeId} (hr : Row w1 g cs ty) (hg : ∀ x ∈ S, g ≠ x.2.1) : Row u g cs ty := hr.same (h.2.2.1 g hr.lt hg)
end
end AnyO
end Go.Proofs.YtibelollgdnidaaGreatDoor
namespace Go.Proofs.YtibelollgdnidaaGreatDoor
open Go.RowKit
namespace AnyO
theorem fls {D : Nat → Bool} {i j : Nat} {l : List Nat} (hC : D j = true → ∀ k ∈ l, D k = true) (h0 : D i = false) (hm : l.contains i = true) : D j = false := by
 cases hd : D j with
 | false => rfl
 | true =>
  have h := hC hd i (List.contains_iff_mem.1 hm)
  rw [h0] at h
  cases h
variable {P : Program} {ops : Array Oper}
def InvG {σ : Type} (PV : σ → Nat → Value → Prop) (W : σ → (Nat → Bool) → World → Prop) (D : Nat → Bool) (vs : Nat → Value) (u : World) : Prop :=
 ∃ g : σ, (∀ j, D j = true → PV g j (vs j)) ∧ W g D u
section
variable {σ : Type} {PV : σ → Nat → Value → Prop} {W : σ → (Nat → Bool) → World → Prop} {i : Nat} {D : Nat → Bool} {vs : Nat → Value} {u : World} {v : Value} {g g' : σ}
theorem InvG.start (h : W g (fun _ => false) u) : InvG PV W (fun _ => false) (fun _ => undef) u := ⟨g, fun _ h => (by cases h), h⟩
theorem InvG.step (h : ∀ j, D j = true → PV g j (vs j)) (hv : PV g i v) (hW : W g (addD D i) u) : InvG PV W (addD D i) (addV vs i v) u := by
 refine ⟨g, fun j hj => ?_, hW⟩
 unfold addD at hj
 unfold addV
 by_cases e : j = i
 ·subst e; rw [if_pos rfl]; exact hv
 ·rw [if_neg e] at hj ⊢; exact h j hj
theorem InvG.ghost (g' : σ) (h : ∀ j, D j = true → PV g j (vs j)) (hg : ∀ j, D j = true → PV g j (vs j) → PV g' j (vs j)) (hv : PV g' i v) (hW : W g' (addD D i) u) : InvG PV W (addD D i) (addV vs i v) u :=
 InvG.step (g := g') (fun j hj => hg j hj (h j hj)) hv hW
end
theorem I {σ : Type} {PV : σ → Nat → Value → Prop} {W : σ → (Nat → Bool) → World → Prop} {a0 : Act} {i : Nat} {o : Oper} (ho : ops[i]? = some o) (l : List Nat)
  (h : ∀ (D : Nat → Bool) (vs : Nat → Value) (u : World) (g : σ), Hid ((∀ j, D j = true → PV g j (vs j)) ∧ W g D u) → D i = false → Hid (∀ k, D k = true → ∀ j ∈ pre ops k, D j = true) → Hid (∀ j ∈ l, D j = true) → ∀ b : Act, Hid (b = puts ops vs l a0) →
   ∀ K : Act → World → Prop, (∀ v w', InvG PV W (addD D i) (addV vs i v) w' → K (b.put o.dst v) w') → o.wp P b u K (fun _ _ _ => False))
  (hl : pre ops i = l := by kernel_rfl) (hg : o.guard = none := by rfl) : StepI P ops (InvG PV W) a0 i :=
 StepI.mk ho l hl fun D vs u ⟨g, hP, hW⟩ h0 hC hp b hb K hK => by
  rw [if_pos (wanted_none hg)]
  exact h D vs u g (Lib.hid ⟨hP, hW⟩) h0 (Lib.hid hC) (Lib.hid hp) b (Lib.hid hb) K hK
theorem J {σ : Type} {PV : σ → Nat → Value → Prop} {W : σ → (Nat → Bool) → World → Prop} {a0 : Act} {i : Nat} {o : Oper} (ho : ops[i]? = some o)
  (h : ∀ (D : Nat → Bool) (vs : Nat → Value) (u : World) (g : σ), Hid ((∀ j, D j = true → PV g j (vs j)) ∧ W g D u) → D i = false → Hid (∀ k, D k = true → ∀ j ∈ pre ops k, D j = true) → Hid (∀ j ∈ pre ops i, D j = true) → ∀ b : Act, Hid (b = puts ops vs (pre ops i) a0) →
   ∀ K : Act → World → Prop, (∀ v w', InvG PV W (addD D i) (addV vs i v) w' → K (b.put o.dst v) w') → o.wp P b u K (fun _ _ _ => False))
  (hg : o.guard = none := by rfl) : StepI P ops (InvG PV W) a0 i := I ho _ h rfl hg
end AnyO
end Go.Proofs.YtibelollgdnidaaGreatDoor
