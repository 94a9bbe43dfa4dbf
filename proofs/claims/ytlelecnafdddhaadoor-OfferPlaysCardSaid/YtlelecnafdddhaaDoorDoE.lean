/- do whole, as a function of the sender's state. -/
import Derived.Test.YtlelecnafdddhaaDoorDoD
namespace Go.Proofs.YtlelecnafdddhaaDoor
open Go.RowKit
instance : Inhabited Rop := ⟨⟨0, zA, zK⟩⟩
def opS (ch : Int) (s : St) (x : Rop) : St :=
  if x.kind.toNat % 5 = 0 then (addS s x.a.1 (cutS x.a.2)).1
  else if x.kind.toNat % 5 = 1 then (sayS ch s).1
  else if x.kind.toNat % 5 = 2 then (hearS s (toS x.c)).1
  else if x.kind.toNat % 5 = 3 then dropS s else { s with outs := [] }
theorem Good.op {ch : Int} {s : St} (g : Good ch s) (x : Rop) : Good ch (opS ch s x) := by
  unfold opS
  split
  · exact g.add _ _
  · split
    · exact g.say
    · split
      · exact g.hear _
      · split
        · exact g.drop
        · exact ⟨g.c1, g.c2, g.st, g.low, g.idle, g.mid, g.last, g.cur, g.wait, g.len, g.len2⟩
theorem opS_outs (ch : Int) (s : St) (x : Rop) : (opS ch s x).outs.length ≤ s.outs.length + 1 := by
  unfold opS
  split
  · rw [addS_outs]; omega
  · split
    · rw [sayS_outs]; omega
    · split
      · exact hearS_outs _ _
      · split
        · rw [dropS_outs]; omega
        · simp
theorem kind_tmod (c : UInt8) (k : Nat) (h : c.toNat % 5 = k) : (c.toNat : Int).tmod 5 = (k : Int) := by
  rw [Int.tmod_eq_emod_of_nonneg (by omega)]
  omega
def DoQ (w0 : World) (b : Nat) (ch : Int) (s sr : St) (L : List (Nat × List Value × TypeId)) : Ending → World → Prop := fun e w' => ∃ r' ok, e = .returned (.tuple #[vR r', .bool ok]) ∧ InvR w0 b ch s sr r' L w'
/-- An operation: the sender and the reference's in one state. -/
theorem do22 (w0 : World) (b : Nat) (ch : Int) (s : St) (r : Rs) (x : Rop) (L : List (Nat × List Value × TypeId)) (w : World) (h : InvR w0 b ch s s r L w) (g : Good ch s) (hL : Laid w0) (hm : s.outs.length ≤ 100000) :
    Calls Tryd.prog 22 #[.pointer (some ⟨b, 0, none⟩), vR r, vQ x] w fun e w' => ∃ r', e = .returned (.tuple #[vR r', .bool true]) ∧ InvR w0 b ch (opS ch s x) (opS ch s x) r' L w' := by
  have fin : ∀ {t : St} {E : Prop}, E → Calls Tryd.prog 22 #[.pointer (some ⟨b, 0, none⟩), vR r, vQ x] w (DoE w0 b ch t t E L) → Calls Tryd.prog 22 #[.pointer (some ⟨b, 0, none⟩), vR r, vQ x] w fun e w' => ∃ r', e = .returned (.tuple #[vR r', .bool true]) ∧ InvR w0 b ch t t r' L w' := fun hE hc => hc.mono fun e w' ⟨r', ok, h1, h2, h3⟩ => ⟨r', by rw [h1, h2 hE], h3⟩
  unfold opS
  by_cases h0 : x.kind.toNat % 5 = 0
  · rw [if_pos h0]
    exact fin rfl (do22_add w0 b ch s s r x L w h g g (kind_tmod _ 0 h0))
  · rw [if_neg h0]
    by_cases h1 : x.kind.toNat % 5 = 1
    · rw [if_pos h1]
      exact fin rfl (do22_say w0 b ch s s r x L w h g g hL.1 (kind_tmod _ 1 h1))
    · rw [if_neg h1]
      by_cases h2 : x.kind.toNat % 5 = 2
      · rw [if_pos h2]
        by_cases hc : chk (toS x.c) = 0
        · exact fin rfl (do22_hear_ok w0 b ch s s r x L w h g g hL hm hm (kind_tmod _ 2 h2) hc)
        · exact fin rfl (do22_hear_bad w0 b ch s s r x L w h g g hL hm (kind_tmod _ 2 h2) hc)
      · rw [if_neg h2]
        by_cases h3 : x.kind.toNat % 5 = 3
        · rw [if_pos h3]
          exact (do22_drop w0 b ch s s r x L w h g g (kind_tmod _ 3 h3)).mono fun e w' h => h
        · rw [if_neg h3]
          exact fin trivial (do22_out w0 b ch s r x L w h hm (kind_tmod _ 4 (by omega)))
/-- An operation that is neither Add nor Outcomes: the two in states that may differ. -/
theorem do22_two (w0 : World) (b : Nat) (ch : Int) (s sr : St) (r : Rs) (x : Rop) (L : List (Nat × List Value × TypeId)) (w : World) (h : InvR w0 b ch s sr r L w) (g : Good ch s) (gr : Good ch sr) (hL : Laid w0) (hm : s.outs.length ≤ 100000) (hmr : sr.outs.length ≤ 100000) (hk : x.kind.toNat % 5 ≠ 0) (hk4 : x.kind.toNat % 5 ≠ 4) :
    Calls Tryd.prog 22 #[.pointer (some ⟨b, 0, none⟩), vR r, vQ x] w (DoQ w0 b ch (opS ch s x) (opS ch sr x) L) := by
  have fin : ∀ {t tr : St} {E : Prop}, Calls Tryd.prog 22 #[.pointer (some ⟨b, 0, none⟩), vR r, vQ x] w (DoE w0 b ch t tr E L) → Calls Tryd.prog 22 #[.pointer (some ⟨b, 0, none⟩), vR r, vQ x] w (DoQ w0 b ch t tr L) := fun hc => hc.mono fun e w' ⟨r', ok, h1, _, h3⟩ => ⟨r', ok, h1, h3⟩
  unfold opS
  rw [if_neg hk, if_neg hk]
  by_cases h1 : x.kind.toNat % 5 = 1
  · rw [if_pos h1, if_pos h1]
    exact fin (do22_say w0 b ch s sr r x L w h g gr hL.1 (kind_tmod _ 1 h1))
  · rw [if_neg h1, if_neg h1]
    by_cases h2 : x.kind.toNat % 5 = 2
    · rw [if_pos h2, if_pos h2]
      by_cases hc : chk (toS x.c) = 0
      · exact fin (do22_hear_ok w0 b ch s sr r x L w h g gr hL hm hmr (kind_tmod _ 2 h2) hc)
      · exact fin (do22_hear_bad w0 b ch s sr r x L w h g gr hL hm (kind_tmod _ 2 h2) hc)
    · rw [if_neg h2, if_neg h2, if_pos (by omega), if_pos (by omega)]
      exact (do22_drop w0 b ch s sr r x L w h g gr (kind_tmod _ 3 (by omega))).mono fun e w' ⟨r', h1, h2⟩ => ⟨r', true, h1, h2⟩
theorem InvR.start {w0 w w' : World} {b : Nat} {ch : Int} {r : Rs} {L : List (Nat × List Value × TypeId)} (hb : Below w0.heap.size w0 w) (hL : ∀ x ∈ L, Row w x.1 x.2.1 x.2.2) (hlb : w.heap.size ≤ b) (hr : Rep b ch St.zero [b] w') (ha : RefAt [b] ch St.zero r w') (hbl : Below w.heap.size w w') : InvR w0 b ch St.zero St.zero r L w' :=
  ⟨⟨hbl.os.trans hb.os, hbl.tape.trans hb.tape, hbl.output.trans hb.output, Nat.le_trans hb.size hbl.size, fun k hk => (hbl.block k (Nat.lt_of_lt_of_le hk hb.size)).trans (hb.block k hk)⟩, [b], hr, fun k hk => by rw [List.mem_singleton.1 hk]; exact ⟨Nat.le_trans hb.size hlb, hr.lt⟩, fun x hx => ⟨(hL x hx).keep hbl, fun hm => by have h1 := (hL x hx).lt; rw [List.mem_singleton.1 hm] at h1; omega⟩, ha.zero _ _⟩
theorem opAt {w : World} {A : Option Addr} {xs : List Rop} (h : Sl w cQ A xs) {k : Nat} (hk : k < xs.length) : ∃ ad, A = some ad ∧ okA w (ad.add (k * 71)) 71 = true ∧ rdA w (ad.add (k * 71)) 71 = vQ xs[k] ∧ w.cell? (ad.add (k * 71)) = some (.int .u8 (xs[k].kind.toNat : Int)) := by
  obtain ⟨ad, rfl, hat⟩ := Sl.at_ cQ_length h hk
  have h1 := hat.ok
  have h2 := hat.rd
  rw [cQ_length] at h1 h2
  have h3 := hat.2 0 _ (show (cQ xs[k])[0]? = some (.int .u8 (xs[k].kind.toNat : Int)) from rfl)
  rw [Addr.add_zero'] at h3
  exact ⟨ad, rfl, h1, h2, h3⟩
end Go.Proofs.YtlelecnafdddhaaDoor
