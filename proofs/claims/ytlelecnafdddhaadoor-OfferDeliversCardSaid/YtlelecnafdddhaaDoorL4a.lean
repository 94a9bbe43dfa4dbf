/- bulletinlaw33.OfferResumes. -/
import Derived.Test.YtlelecnafdddhaaDoorBeg
namespace Go.Proofs.YtlelecnafdddhaaDoor
open Go.RowKit
/-! ### the methods over a sender in the making of a walk -/
section
variable {w0 w : World} {b : Nat} {ch : Int} {s : St} {L : List (Nat × List Value × TypeId)}
theorem Inv.sub {L' : List (Nat × List Value × TypeId)} (h : Inv w0 b ch s L w) (hs : ∀ x ∈ L', x ∈ L) : Inv w0 b ch s L' w := by
  obtain ⟨F, h1, h2, h3⟩ := h.rep
  exact ⟨h.bel, F, h1, h2, fun x hx => h3 x (hs x hx)⟩
theorem Inv.say (h : Inv w0 b ch s L w) (g : Good ch s) : Calls Tryd.prog 18 #[.pointer (some ⟨b, 0, none⟩)] w fun e w' => e = .returned (.tuple #[vC (sayS ch s).2.1, .bool (sayS ch s).2.2]) ∧ Inv w0 b ch (sayS ch s).1 L w' := h.call fun F hF => say18 b ch s F w hF g
theorem Inv.hear (h : Inv w0 b ch s L w) (g : Good ch s) (hL : Laid w0) (c : Cm) (hname : c.name = ⟨#[]⟩) (hm : s.outs.length ≤ 100000) : Calls Tryd.prog 19 #[.pointer (some ⟨b, 0, none⟩), vC c] w fun e w' => e = .returned (.int .i64 (hearS s c).2) ∧ Inv w0 b ch (hearS s c).1 L w' := h.call fun F hF => hear19 b ch s F c w hF g (hL.keep h.bel) hname hm
theorem Inv.add (h : Inv w0 b ch s L w) (x : Id) (t : ByteArray) (hm : s.wait.length ≤ 100000) : Calls Tryd.prog 15 #[.pointer (some ⟨b, 0, none⟩), vI x, .string t] w fun e w' => e = .returned (.int .i64 (addS s x t).2) ∧ Inv w0 b ch (addS s x t).1 L w' := h.call fun F hF => add15 b ch s F x t w hF hm
theorem Inv.drop (h : Inv w0 b ch s L w) (g : Good ch s) : Calls Tryd.prog 31 #[.pointer (some ⟨b, 0, none⟩)] w fun e w' => e = .returned (.int .i64 0) ∧ Inv w0 b ch (dropS s) L w' := h.call fun F hF => drop31_all b ch s F w hF g
end
theorem chk_want (x : Id) (a : Int) (hx : x ≠ zI) (h0 : 0 ≤ a) (h1 : a ≤ 65536) : chk ⟨3, ⟨#[]⟩, x, 0, a, 0, 0, ⟨#[]⟩⟩ = 0 := by
  unfold chk
  rw [if_neg (by show ¬ ((3 : Int) < 1 ∨ (11 : Int) < 3); omega)]
  show chkF ⟨3, ⟨#[]⟩, x, 0, a, 0, 0, ⟨#[]⟩⟩ 10 0 = 0
  have e : psC ⟨3, ⟨#[]⟩, x, 0, a, 0, 0, ⟨#[]⟩⟩ = psL false true false (a != 0) false false false := by
    unfold psC
    simp [decide_eq_false hx, ByteArray.toList_eq]
  unfold chkF
  rw [e, if_neg (by cases (a != 0) <;> decide +kernel), if_neg (by decide +kernel), if_neg (by simp [hx])]
  rw [if_neg (by
    rw [Bool.not_eq_false, List.all_eq_true]
    intro y hy
    unfold rgs at hy
    simp only [List.mem_cons, List.not_mem_nil, or_false] at hy
    rcases hy with rfl | rfl | rfl | rfl
    · unfold okR; rw [show (bits BinOp.and .i64 10 4 == 0) = true by decide +kernel]; rfl
    · unfold okR; simp [h0, h1]
    · unfold okR; rw [show (bits BinOp.and .i64 10 16 == 0) = true by decide +kernel]; rfl
    · unfold okR; rw [show (bits BinOp.and .i64 10 32 == 0) = true by decide +kernel]; rfl)]
  rw [if_pos (by decide +kernel)]
/-! ### the states of the law -/
def i7 : Id := idB 7
theorem i7_ne : i7 ≠ zI := by decide
def tAdd (t : ByteArray) : St := ⟨[(i7, t)], 0, zA, [], none⟩
def tOff (t : ByteArray) : St := ⟨[], 1, (i7, t), [], none⟩
def tSend (t : ByteArray) (q : Nat) : St := ⟨[], 2, (i7, t), [], some ((q : Int), false)⟩
def tSent (t : ByteArray) : St := ⟨[], 3, (i7, t), [], some ((t.size : Int), true)⟩
section
variable {ch : Int} {t : ByteArray} (h1 : 1 ≤ ch) (h2 : ch ≤ 4096) (ha : okArt (i7, t))
include h1 h2 ha
theorem good_add : Good ch (tAdd t) := ⟨h1, h2, Or.inl rfl, fun _ => rfl, fun _ => rfl, fun h => (by simp [tAdd] at h), fun h => (by simp [tAdd] at h), fun h => absurd rfl h, fun a hm => (show a = (i7, t) from by simpa [tAdd] using hm) ▸ ha, by simp [tAdd], fun _ => by simp [tAdd]⟩
theorem good_off : Good ch (tOff t) := ⟨h1, h2, Or.inr (Or.inl rfl), fun _ => rfl, fun h => (by simp [tOff] at h), fun h => (by simp [tOff] at h), fun h => (by simp [tOff] at h), fun _ => ha, fun a hm => (by simp [tOff] at hm), by simp [tOff], fun _ => by simp [tOff]⟩
theorem good_send (q : Nat) (hq : q ≤ t.size) : Good ch (tSend t q) := ⟨h1, h2, Or.inr (Or.inr (Or.inl rfl)), fun h => (by simp [tSend] at h), fun h => (by simp [tSend] at h), fun _ => ⟨(q : Int), rfl, Int.natCast_nonneg q, by show (q : Int) ≤ (t.size : Int); omega⟩, fun h => (by simp [tSend] at h), fun _ => ha, fun a hm => (by simp [tSend] at hm), by simp [tSend], fun _ => by simp [tSend]⟩
theorem good_sent : Good ch (tSent t) := ⟨h1, h2, Or.inr (Or.inr (Or.inr rfl)), fun h => (by simp [tSent] at h), fun h => (by simp [tSent] at h), fun h => (by simp [tSent] at h), fun _ => rfl, fun _ => ha, fun a hm => (by simp [tSent] at hm), by simp [tSent], fun _ => by simp [tSent]⟩
end
theorem say_add (ch : Int) (t : ByteArray) : sayS ch (tAdd t) = (tOff t, offerC (i7, t), true) := rfl
theorem say_sent (ch : Int) (t : ByteArray) : sayS ch (tSent t) = (tSent t, zC, false) := rfl
theorem say_done (ch : Int) (t : ByteArray) : sayS ch (tSend t t.size) = (tSent t, doneC i7, true) := by
  unfold sayS
  rw [if_neg (show ¬ (tSend t t.size).state = 0 from (by decide : ¬ (2 : Int) = 0)), if_pos (show (tSend t t.size).state = 2 from rfl), if_pos (show sentS (tSend t t.size) = ((tSend t t.size).cur.2.size : Int) from rfl)]
  rfl
theorem say_data (ch : Int) (t : ByteArray) (q nx : Nat) (hq : q < t.size) (hn : min ((q : Int) + ch) (t.size : Int) = (nx : Int)) : sayS ch (tSend t q) = (tSend t nx, ⟨7, ⟨#[]⟩, i7, 0, (q : Int), 0, 0, t.extract q nx⟩, true) := by
  unfold sayS
  rw [if_neg (by simp [tSend]), if_pos (show (tSend t q).state = 2 from rfl), if_neg (by show ¬ (q : Int) = (t.size : Int); omega)]
  show (({ tSend t q with snd := some (min ((q : Int) + ch) (t.size : Int), false) } : St), dataC i7 t (q : Int) (min ((q : Int) + ch) (t.size : Int)), true) = _
  rw [hn]
  rfl
def wantC (a : Nat) : Cm := ⟨3, ⟨#[]⟩, i7, 0, (a : Int), 0, 0, ⟨#[]⟩⟩
theorem chk_wantC (a : Nat) (h : a ≤ 65536) : chk (wantC a) = 0 := chk_want i7 (a : Int) i7_ne (by omega) (by omega)
theorem hear_want (t : ByteArray) (a : Nat) (h : a ≤ 65536) (ha : a ≤ t.size) : hearS (tOff t) (wantC a) = (tSend t a, 0) := by
  unfold hearS
  rw [if_neg (by rw [chk_wantC a h]; decide), if_neg (by simp [isAns, wantC]), if_neg (by simp [tOff, wantC]), if_pos (show effS (tOff t) (wantC a).verb = 1 from rfl), if_pos (by show (a : Int) ≤ (t.size : Int); omega)]
  rfl
theorem hear_range (t : ByteArray) (a : Nat) (h : a ≤ 65536) (ha : t.size < a) : hearS (tOff t) (wantC a) = (tOff t, 2) := by
  unfold hearS
  rw [if_neg (by rw [chk_wantC a h]; decide), if_neg (by simp [isAns, wantC]), if_neg (by simp [tOff, wantC]), if_pos (show effS (tOff t) (wantC a).verb = 1 from rfl), if_neg (by show ¬ (a : Int) ≤ (t.size : Int); omega)]
theorem add_zero7 (t : ByteArray) (ha : okArt (i7, t)) : addS St.zero i7 t = (tAdd t, 0) := by
  obtain ⟨h1, h2, h3, h4⟩ := ha
  unfold addS
  rw [if_neg (by rw [h2]; simp [i7_ne]), if_neg (by have : t.size ≤ 65536 := h3; omega), if_neg (by rw [h4]; decide), if_neg (by decide), if_neg (by decide)]
  rfl
theorem add_zero7_no (t : ByteArray) (hs : t.size ≤ 65536) (ha : ¬ okArt (i7, t)) : (addS St.zero i7 t).1 = St.zero ∧ (addS St.zero i7 t).2 ≠ 0 := by
  unfold addS
  by_cases h1 : i7 = zI ∨ t.toList.isEmpty = true
  · rw [if_pos h1]; exact ⟨rfl, by decide⟩
  rw [if_neg h1, if_neg (by omega)]
  by_cases h2 : crL t = true
  · rw [if_pos h2]; exact ⟨rfl, by decide⟩
  · exact absurd ⟨i7_ne, by simpa using fun e => h1 (Or.inr e), hs, by simpa using h2⟩ ha
theorem extract_join (t : ByteArray) (a q nx : Nat) (h1 : a ≤ q) (h2 : q ≤ nx) : t.extract a q ++ t.extract q nx = t.extract a nx := by
  rw [ByteArray.extract_append_extract, Nat.min_eq_left h1, Nat.max_eq_right h2]
end Go.Proofs.YtlelecnafdddhaaDoor
