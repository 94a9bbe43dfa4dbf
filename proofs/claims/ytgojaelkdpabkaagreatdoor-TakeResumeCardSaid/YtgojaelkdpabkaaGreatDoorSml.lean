/- bulletinlaw34.small. How operations come in. -/
import Derived.Test.YtgojaelkdpabkaaGreatDoorKn34
import Derived.Test.YtgojaelkdpabkaaGreatDoorTyT
import Derived.Test.YtgojaelkdpabkaaGreatDoorOpP
namespace Go.Proofs.YtgojaelkdpabkaaGreatDoor
section
open Go.RowKit
def okOp (o : Opn) : Bool := decide (o.cmd.text.size ≤ 200) && decide (o.cmd.name.size ≤ 100)
def smallL (l : List Opn) : Bool := l.all okOp && decide (l.length ≤ 60)
theorem Sl.op {w : World} {A : Option Addr} {xs : List Opn} (h : Sl w cO A xs) {k : Nat} (hk : k < xs.length) : ∃ ad, A = some ad ∧ At w (ad.add (k * 41)) (cO xs[k]) := by
  obtain ⟨ad, rfl, hat⟩ := Sl.at_ cO_length h hk
  exact ⟨ad, rfl, hat⟩
theorem cO_cmd (x : Opn) (k : Nat) (v : Value) (h : (cC x.cmd)[k]? = some v) : (cO x)[1 + k]? = some v := by
  unfold cO
  rw [Nat.add_comm, List.getElem?_cons_succ, List.getElem?_append_left (List.getElem?_eq_some_iff.1 h).1]
  exact h
theorem small_no {l : List Opn} {k : Nat} (hk : k < l.length) {p : Opn} (hp : l[k] = p) (h : ¬ (p.cmd.text.size ≤ 200 ∧ p.cmd.name.size ≤ 100)) : smallL l = false := by
  unfold smallL
  rw [Bool.and_eq_false_iff]
  left
  rw [List.all_eq_false]
  refine ⟨p, hp ▸ List.getElem_mem hk, ?_⟩
  unfold okOp
  rw [Bool.and_eq_true, decide_eq_true_eq, decide_eq_true_eq]
  exact h
theorem small_yes {l : List Opn} (h : ∀ j (hj : j < l.length), okOp l[j] = true) : smallL l = decide (l.length ≤ 60) := by
  unfold smallL
  have h1 : l.all okOp = true := by
    rw [List.all_eq_true]
    intro x hx
    obtain ⟨j, hj, rfl⟩ := List.mem_iff_getElem.1 hx
    exact h j hj
  rw [h1, Bool.true_and]
set_option maxRecDepth 100000 in
set_option maxHeartbeats 1600000 in
theorem small12 (A : Option Addr) (c : Nat) (l : List Opn) (w : World) (hl : Sl w cO A l) (hn : l.length ≤ 9223372036854775807) :
    Calls Tryz.prog 12 #[.slice A l.length c] w fun e w' => e = .returned (.bool (smallL l)) ∧ Below w.heap.size w w' := by
  have HS := Lib.hid hl
  clear hl
  go_enter Tryz.func12, Tryz.ntmps12
  go_wp2
  go_loopw [3] (fun i wr => ∃ k : Nat, i = .int .i64 k ∧ k ≤ l.length ∧ (∀ j (hj : j < k) (hj2 : j < l.length), okOp l[j] = true) ∧ wr = w) (fun i _ => l.length + 1 - (intOf i).toNat)
  case atStart => exact ⟨0, rfl, Nat.zero_le _, fun j hj => absurd hj (Nat.not_lt_zero _), rfl⟩
  case round =>
    obtain ⟨k, rfl, hk, hp, hw⟩ := hrel
    by_cases hlt : k < l.length
    · have hlt1 : (k : Int) < (l.length : Int) := by omega
      obtain ⟨ad, hae, hat⟩ := Sl.op HS.out hlt
      obtain ⟨p, hpp⟩ : ∃ p, l[k] = p := ⟨_, rfl⟩
      rw [hpp] at hat
      have q1 : w.cell? ⟨(ad.add (k * 41)).block, (ad.add (k * 41)).off + 1 + 38, none⟩ = some (.string p.cmd.text) := hat.2 39 _ (cO_cmd p 38 _ (cC_at (aC_38 p.cmd)))
      have q2 : w.cell? ⟨(ad.add (k * 41)).block, (ad.add (k * 41)).off + 1 + 1, none⟩ = some (.string p.cmd.name) := hat.2 2 _ (cO_cmd p 1 _ (cC_at (aC_1 p.cmd)))
      have HP := Lib.hid (And.intro hpp (And.intro hp hw))
      clear hat hpp hp
      by_cases h1 : p.cmd.text.size ≤ 200
      · by_cases h2 : p.cmd.name.size ≤ 100
        · have n1 : ¬ (200 : Int) < (p.cmd.text.size : Int) := by omega
          have n2 : ¬ (100 : Int) < (p.cmd.name.size : Int) := by omega
          have HX := Lib.hid (And.intro h1 h2)
          clear h1 h2
          go_wp2
          go_roundw
          case rel =>
            refine ⟨k + 1, by go_num, hlt, fun j hj hj2 => ?_, trivial⟩
            rcases Nat.lt_succ_iff_lt_or_eq.1 hj with h | h
            · exact HP.out.2.1 j h hj2
            · subst h
              rw [HP.out.1]
              unfold okOp
              rw [Bool.and_eq_true, decide_eq_true_eq, decide_eq_true_eq]
              exact HX.out
          case measure => simp [intOf] <;> omega
        · have n1 : ¬ (200 : Int) < (p.cmd.text.size : Int) := by omega
          have n2 : (100 : Int) < (p.cmd.name.size : Int) := by omega
          have HX := Lib.hid h2
          clear h1 h2
          go_wp2
          go_ret
          exact ⟨by rw [small_no hlt HP.out.1 (fun h => HX.out h.2)]; rfl, by rw [← HP.out.2.2]; exact Below.refl _ _⟩
      · have n1 : (200 : Int) < (p.cmd.text.size : Int) := by omega
        have HX := Lib.hid h1
        clear h1
        go_wp2
        go_ret
        exact ⟨by rw [small_no hlt HP.out.1 (fun h => HX.out h.1)]; rfl, by rw [← HP.out.2.2]; exact Below.refl _ _⟩
    · have hlt1 : ¬ (k : Int) < (l.length : Int) := by omega
      have HP := Lib.hid (And.intro hp hw)
      clear hp
      go_wp2
      go_ret
      exact ⟨by rw [small_yes (fun j hj => HP.out.1 j (by omega) hj)]; simp; omega, by rw [← HP.out.2]; exact Below.refl _ _⟩
end
section
open Go.ChangeShapes Go.WideShapes Go.ChangeAt Go.RowKit Go.Deep
structure Opn.ints (o : Opn) : Prop where
  cmd : o.cmd.ints
  res : -9223372036854775808 ≤ o.result ∧ o.result ≤ 9223372036854775807
section
variable {H : Type} {enc : TypeId × Value → H} {w : World}
theorem op_of_trod {fuel : Nat} {cs : List Value} {x : DataW H × List MemPlace} (h : DataW.trod enc Tryz.prog w 0 (fun _ => true) true fuel 37 cs = some x) : ∃ o : Opn, cs = cO o ∧ o.ints := by
  obtain ⟨xs, n, _, rfl, hl, hlen, hf⟩ := DataW.trod_struct Tryz.underlying37 h
  rw [show Tryz.prog.cellsOf 37 = 41 by kernel_rfl] at hl
  have c3 : Tryz.prog.cellsOf 3 = 1 := by kernel_rfl
  have c35 : Tryz.prog.cellsOf 35 = 39 := by kernel_rfl
  match xs, hlen with
  | [y0, y1, y2], _ =>
    have f0 : DataW.trod enc Tryz.prog w 0 (fun _ => true) true n 3 ((cs.drop 0).take (Tryz.prog.cellsOf 3)) = some y0 := by simpa using hf 0 _ rfl
    have f1 : DataW.trod enc Tryz.prog w 0 (fun _ => true) true n 35 ((cs.drop 1).take (Tryz.prog.cellsOf 35)) = some y1 := by simpa using hf 1 _ rfl
    have f2 : DataW.trod enc Tryz.prog w 0 (fun _ => true) true n 3 ((cs.drop 40).take (Tryz.prog.cellsOf 3)) = some y2 := by simpa using hf 2 _ rfl
    rw [c3] at f0 f2
    rw [c35] at f1
    obtain ⟨n0, h0, _⟩ := DataW.trod_int Tryz.underlying3 f0
    obtain ⟨c, h1, hc⟩ := rc_of_trod f1
    obtain ⟨n2, h2, _, w2⟩ := DataW.trod_int Tryz.underlying3 f2
    refine ⟨⟨n0, c, n2⟩, ?_, ⟨hc, i64_of_wf w2⟩⟩
    have e0 := drop_dec cs 0 1
    have e1 := drop_dec cs 1 39
    have e2 := drop_dec cs 40 1
    simp only [Nat.reduceAdd] at e0 e1 e2
    rw [List.drop_zero] at e0
    rw [e0, show cs.take 1 = _ from by simpa using h0, e1, h1, e2, h2, List.drop_of_length_le (by omega)]
    rfl
theorem op_val_of_trod {v : Value} {d : DataW H} {p : List MemPlace} (h : DataW.Trod enc Tryz.prog w 0 (fun _ => true) true 37 v d p) : ∃ o : Opn, v = vO o ∧ o.ints := by
  obtain ⟨fuel, hf⟩ := h
  obtain ⟨c, hc, hi⟩ := op_of_trod hf
  refine ⟨c, ?_, hi⟩
  have hl : v.cells.toList.length = 41 := by rw [hc, cO_length]
  cases v <;> simp [Value.cells] at hl hc
  · simp [vO, ← hc]
def OpI := { o : Opn // o.ints }
instance : Inhabited OpI := ⟨⟨zO, ⟨⟨⟨by decide, by decide⟩, ⟨by decide, by decide⟩, ⟨by decide, by decide⟩, ⟨by decide, by decide⟩⟩, by decide, by decide⟩⟩⟩
theorem ops_of_trod {t : TypeId} {a0 : Option Addr} {n c : Nat} {d : DataW H} {p : List MemPlace} (ht : Tryz.prog.underlying t = some (.slice 37)) (h : DataW.Trod enc Tryz.prog w 0 (fun _ => true) true t (.slice a0 n c) d p) :
    ∃ xs : List Opn, xs.length = n ∧ n ≤ c ∧ c ≤ maxLen ∧ Sl w cO a0 xs ∧ ∀ x ∈ xs, x.ints := by
  obtain ⟨xs, h1, h2, h3, h4⟩ := sl_of_trod (α := OpI) (fun x => cO x.1) 41 (by decide) (fun x => cO_length x.1) ht (by kernel_rfl) (fun h => by
    obtain ⟨c, e, hc⟩ := op_of_trod h
    exact ⟨⟨c, hc⟩, e⟩) h
  refine ⟨xs.map (·.1), by rw [List.length_map, h1], h2, h3, fun hne => ?_, fun x hx => ?_⟩
  · obtain ⟨ad, e, hat⟩ := h4 (fun e => hne (by rw [e]; rfl))
    refine ⟨ad, e, ?_⟩
    rw [List.flatMap_map]
    exact hat
  · obtain ⟨y, _, rfl⟩ := List.mem_map.1 hx
    exact y.2
end
end
end Go.Proofs.YtgojaelkdpabkaaGreatDoor
