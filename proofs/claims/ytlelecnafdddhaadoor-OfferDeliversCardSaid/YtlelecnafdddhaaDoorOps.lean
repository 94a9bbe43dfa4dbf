/- What a sender does, as functions of its state; the contracts of its methods by these. -/
import Derived.Test.YtlelecnafdddhaaDoorL3
namespace Go.Proofs.YtlelecnafdddhaaDoor
open Go.RowKit
def okArt (a : Art) : Prop := a.1 ≠ zI ∧ a.2.toList.isEmpty = false ∧ a.2.size ≤ 65536 ∧ crL a.2 = false
structure Good (ch : Int) (s : St) : Prop where
  c1 : 1 ≤ ch
  c2 : ch ≤ 4096
  st : s.state = 0 ∨ s.state = 1 ∨ s.state = 2 ∨ s.state = 3
  low : s.state = 0 ∨ s.state = 1 → s.snd = none
  idle : s.state = 0 → s.cur = zA
  mid : s.state = 2 → ∃ a, s.snd = some (a, false) ∧ 0 ≤ a ∧ a ≤ (s.cur.2.size : Int)
  last : s.state = 3 → s.snd = some ((s.cur.2.size : Int), true)
  cur : s.state ≠ 0 → okArt s.cur
  wait : ∀ a ∈ s.wait, okArt a
  len : s.wait.length ≤ 1025
  len2 : s.state ≠ 0 → s.wait.length ≤ 1024
theorem Good.zero {ch : Int} (h1 : 1 ≤ ch) (h2 : ch ≤ 4096) : Good ch St.zero := ⟨h1, h2, Or.inl rfl, fun _ => rfl, fun _ => rfl, fun h => (by simp [St.zero] at h), fun h => (by simp [St.zero] at h), fun h => absurd rfl h, fun a h => (by simp [St.zero] at h), by decide, fun _ => by decide⟩
/-! ### Say -/
def sentS (s : St) : Int := (s.snd.map (·.1)).getD 0
def offerC (a : Art) : Cm := ⟨2, ⟨#[]⟩, a.1, (a.2.size : Int), 0, 0, 0, ⟨#[]⟩⟩
def doneC (x : Id) : Cm := ⟨8, ⟨#[]⟩, x, 0, 0, 0, 0, ⟨#[]⟩⟩
def dataC (x : Id) (t : ByteArray) (fr nx : Int) : Cm := ⟨7, ⟨#[]⟩, x, 0, fr, 0, 0, t.extract fr.toNat nx.toNat⟩
def sayS (ch : Int) (s : St) : St × Cm × Bool :=
  if s.state = 0 then
    match s.wait with
    | [] => (s, zC, false)
    | a :: r => (⟨r, 1, a, s.outs, none⟩, offerC a, true)
  else if s.state = 2 then
    if sentS s = (s.cur.2.size : Int) then ({ s with state := 3, snd := some ((s.cur.2.size : Int), true) }, doneC s.cur.1, true)
    else ({ s with snd := some (min (sentS s + ch) (s.cur.2.size : Int), false) }, dataC s.cur.1 s.cur.2 (sentS s) (min (sentS s + ch) (s.cur.2.size : Int)), true)
  else (s, zC, false)
theorem say18 (b : Nat) (ch : Int) (s : St) (F : List Nat) (w : World) (h : Rep b ch s F w) (g : Good ch s) :
    Calls Tryd.prog 18 #[.pointer (some ⟨b, 0, none⟩)] w fun e w' => e = .returned (.tuple #[vC (sayS ch s).2.1, .bool (sayS ch s).2.2]) ∧ ∃ F', Rep b ch (sayS ch s).1 F' w' ∧ Kp F F' w w' := by
  by_cases h0 : s.state = 0
  · cases hw : s.wait with
    | nil =>
      have e : sayS ch s = (s, zC, false) := by unfold sayS; rw [if_pos h0, hw]
      rw [e]
      exact (say18_none b ch s F w h (by omega) (fun _ => hw)).mono fun e w' ⟨h1, h2, h3⟩ => ⟨h1, F, h2, h3⟩
    | cons a r =>
      have e : sayS ch s = (⟨r, 1, a, s.outs, none⟩, offerC a, true) := by unfold sayS; rw [if_pos h0, hw]
      rw [e]
      obtain ⟨x, t⟩ := a
      exact say18_offer b ch s F x t r w h h0 hw (by have := g.len; omega)
  · by_cases h2 : s.state = 2
    · obtain ⟨a, ha, ha0, ha1⟩ := g.mid h2
      have hsent : sentS s = a := by unfold sentS; rw [ha]; rfl
      have hc := g.cur h0
      by_cases hd : a = (s.cur.2.size : Int)
      · have e : sayS ch s = ({ s with state := 3, snd := some ((s.cur.2.size : Int), true) }, doneC s.cur.1, true) := by unfold sayS; rw [if_neg h0, if_pos h2, hsent, if_pos hd]
        rw [e]
        exact (say18_done b ch s F s.cur.1 s.cur.2 w h h2 rfl (by rw [ha, hd]) (by have := hc.2.2.1; omega)).mono fun e w' ⟨h1, h2, h3⟩ => ⟨h1, F, h2, h3⟩
      · have e : sayS ch s = ({ s with snd := some (min (a + ch) (s.cur.2.size : Int), false) }, dataC s.cur.1 s.cur.2 a (min (a + ch) (s.cur.2.size : Int)), true) := by unfold sayS; rw [if_neg h0, if_pos h2, hsent, if_neg hd]
        rw [e]
        exact (say18_data b ch s F s.cur.1 s.cur.2 a w h h2 rfl ha (by have := hc.2.2.1; omega) ha0 (by omega) g.c1 g.c2).mono fun e w' ⟨h1, h2, h3⟩ => ⟨h1, F, h2, h3⟩
    · have e : sayS ch s = (s, zC, false) := by unfold sayS; rw [if_neg h0, if_neg h2]
      rw [e]
      exact (say18_none b ch s F w h h2 (fun h => absurd h h0)).mono fun e w' ⟨h1, h2, h3⟩ => ⟨h1, F, h2, h3⟩
theorem Good.say {ch : Int} {s : St} (g : Good ch s) : Good ch (sayS ch s).1 := by
  unfold sayS
  by_cases h0 : s.state = 0
  · rw [if_pos h0]
    cases hw : s.wait with
    | nil => exact g
    | cons a r =>
      have hl := g.len
      rw [hw, List.length_cons] at hl
      exact ⟨g.c1, g.c2, Or.inr (Or.inl rfl), fun _ => rfl, fun h => (by simp at h), fun h => (by simp at h), fun h => (by simp at h), fun _ => g.wait a (by rw [hw]; simp), fun b hb => g.wait b (by rw [hw]; exact List.mem_cons_of_mem _ hb), show r.length ≤ 1025 by omega, fun _ => show r.length ≤ 1024 by omega⟩
  · rw [if_neg h0]
    by_cases h2 : s.state = 2
    · rw [if_pos h2]
      obtain ⟨a, ha, ha0, ha1⟩ := g.mid h2
      have hsent : sentS s = a := by unfold sentS; rw [ha]; rfl
      rw [hsent]
      by_cases hd : a = (s.cur.2.size : Int)
      · rw [if_pos hd]
        exact ⟨g.c1, g.c2, Or.inr (Or.inr (Or.inr rfl)), fun h => (by simp at h), fun h => (by simp at h), fun h => (by simp at h), fun _ => rfl, fun _ => g.cur h0, g.wait, g.len, fun _ => g.len2 h0⟩
      · rw [if_neg hd]
        have := g.c1
        exact ⟨g.c1, g.c2, g.st, fun h => absurd h (by show ¬ (s.state = 0 ∨ s.state = 1); omega), fun h => absurd h h0, fun _ => ⟨_, rfl, by omega, by show min _ (s.cur.2.size : Int) ≤ (s.cur.2.size : Int); omega⟩, fun h => absurd (show s.state = 3 from h) (by omega), fun _ => g.cur h0, g.wait, g.len, fun _ => g.len2 h0⟩
    · rw [if_neg h2]
      exact g
/-! ### Hear -/
instance (v : Int) : Decidable (isAns v) := by unfold isAns; infer_instance
def endS (s : St) (r cd : Int) : St := ⟨s.wait, 0, zA, s.outs ++ [(s.cur.1, r, cd)], none⟩
def effS (s : St) (v : Int) : Int := effL[(s.state * 12 + v).toNat]?.getD 0
def hearS (s : St) (c : Cm) : St × Int :=
  if chk c ≠ 0 then (s, chk c)
  else if ¬ isAns c.verb then (s, 11)
  else if s.state = 0 ∨ c.id ≠ s.cur.1 then (s, 8)
  else if effS s c.verb = 1 then (if c.from_ ≤ (s.cur.2.size : Int) then ({ s with state := 2, snd := some (c.from_, false) }, 0) else (s, 2))
  else if effS s c.verb = 2 then (endS s 0 0, 0)
  else if effS s c.verb = 3 then (endS s 1 0, 0)
  else if effS s c.verb = 4 then (endS s 2 c.code, 0)
  else if effS s c.verb = 5 then (endS s 3 0, 0)
  else (s, 10)
theorem chk_from {c : Cm} (h : chk c = 0) (hv : c.verb = 3) : 0 ≤ c.from_ := by
  unfold chk at h
  rw [hv, if_neg (by decide)] at h
  have h2 : chkF c 10 0 = 0 := h
  unfold chkF at h2
  have hall : (rgs c).all (okR 10) = true := by
    cases hq : (rgs c).all (okR 10) with
    | true => rfl
    | false =>
      rw [hq] at h2
      split at h2
      · cases h2
      · rw [if_neg (by decide)] at h2
        split at h2
        · cases h2
        · rw [if_pos rfl] at h2
          cases h2
  have h3 := List.all_eq_true.1 hall (8, c.from_, 0, 65536) (by unfold rgs; simp)
  unfold okR at h3
  rw [show (bits BinOp.and .i64 10 8 == 0) = false by decide +kernel] at h3
  simp at h3
  exact h3.1
theorem hear19 (b : Nat) (ch : Int) (s : St) (F : List Nat) (c : Cm) (w : World) (h : Rep b ch s F w) (g : Good ch s) (hL : Laid w) (hname : c.name = ⟨#[]⟩) (hm : s.outs.length ≤ 100000) :
    Calls Tryd.prog 19 #[.pointer (some ⟨b, 0, none⟩), vC c] w (HearP b ch s F w (hearS s c).2 (hearS s c).1) := by
  obtain ⟨vw, vo, q, h⟩ := h
  obtain ⟨hF, hE⟩ := hL
  by_cases hbad : chk c ≠ 0
  · have e : hearS s c = (s, chk c) := by unfold hearS; rw [if_pos hbad]
    rw [e]
    exact hear_bad b ch s F vw vo q c w h hF hname hbad
  have hchk : chk c = 0 := by omega
  by_cases hv : isAns c.verb
  case neg =>
    have e : hearS s c = (s, 11) := by unfold hearS; rw [if_neg hbad, if_pos hv]
    rw [e]
    exact hear_kind b ch s F vw vo q c w h hF hname hchk hv
  by_cases h8 : s.state = 0 ∨ c.id ≠ s.cur.1
  · have e : hearS s c = (s, 8) := by unfold hearS; rw [if_neg hbad, if_neg (by simpa using hv), if_pos h8]
    rw [e]
    by_cases h0 : s.state = 0
    · rcases hv with hv | hv | hv | hv | hv

      · exact hear_idle3 b ch s F vw vo q c w h hF hname hchk hv h0
      · exact hear_idle4 b ch s F vw vo q c w h hF hname hchk hv h0
      · exact hear_idle5 b ch s F vw vo q c w h hF hname hchk hv h0
      · exact hear_idle6 b ch s F vw vo q c w h hF hname hchk hv h0
      · exact hear_idle9 b ch s F vw vo q c w h hF hname hchk hv h0
    · have hne : c.id ≠ s.cur.1 := by rcases h8 with h8 | h8; exact absurd h8 h0; exact h8
      rcases hv with hv | hv | hv | hv | hv
      · exact hear_other3 b ch s F vw vo q c w h hF hname hchk hv h0 hne
      · exact hear_other4 b ch s F vw vo q c w h hF hname hchk hv h0 hne
      · exact hear_other5 b ch s F vw vo q c w h hF hname hchk hv h0 hne
      · exact hear_other6 b ch s F vw vo q c w h hF hname hchk hv h0 hne
      · exact hear_other9 b ch s F vw vo q c w h hF hname hchk hv h0 hne
  have h0 : s.state ≠ 0 := fun e => h8 (Or.inl e)
  have hid : c.id = s.cur.1 := by
    by_cases e : c.id = s.cur.1
    · exact e
    · exact absurd (Or.inr e) h8
  have hc := g.cur h0
  have hbase : hearS s c = if effS s c.verb = 1 then (if c.from_ ≤ (s.cur.2.size : Int) then ({ s with state := 2, snd := some (c.from_, false) }, 0) else (s, 2)) else if effS s c.verb = 2 then (endS s 0 0, 0) else if effS s c.verb = 3 then (endS s 1 0, 0) else if effS s c.verb = 4 then (endS s 2 c.code, 0) else if effS s c.verb = 5 then (endS s 3 0, 0) else (s, 10) := by
    unfold hearS
    rw [if_neg hbad, if_neg (by simpa using hv), if_neg h8]
  rcases g.st with hst | hst | hst | hst
  · exact absurd hst h0
  · rcases hv with hv | hv | hv | hv | hv
    · have he : effS s c.verb = 1 := by unfold effS; rw [hst, hv]; rfl
      rw [hbase, if_pos he]
      by_cases hf : c.from_ ≤ (s.cur.2.size : Int)
      · rw [if_pos hf]
        exact hear_1_3 b ch s F vw vo q c w h hF hname hE s.cur.1 s.cur.2 hchk hv hst rfl hid hc.2.2.1 g.c1 g.c2 (chk_from hchk hv) hf
      · rw [if_neg hf]
        exact hear_1_3_range b ch s F vw vo q c w h hF hname hE s.cur.1 s.cur.2 hchk hv hst rfl hid hc.2.2.1 g.c1 g.c2 (by omega)
    · have he : effS s c.verb = 3 := by unfold effS; rw [hst, hv]; rfl
      rw [hbase, if_neg (by omega), if_neg (by omega), if_pos he]
      exact hear_1_4 b ch s F vw vo q c w h hF hname hE s.cur.1 s.cur.2 hchk hv hst rfl hid hm
    · have he : effS s c.verb = 5 := by unfold effS; rw [hst, hv]; rfl
      rw [hbase, if_neg (by omega), if_neg (by omega), if_neg (by omega), if_neg (by omega), if_pos he]
      exact hear_1_5 b ch s F vw vo q c w h hF hname hE s.cur.1 s.cur.2 hchk hv hst rfl hid hm
    · have he : effS s c.verb = 4 := by unfold effS; rw [hst, hv]; rfl
      rw [hbase, if_neg (by omega), if_neg (by omega), if_neg (by omega), if_pos he]
      exact hear_1_6 b ch s F vw vo q c w h hF hname hE s.cur.1 s.cur.2 hchk hv hst rfl hid hm
    · have he : effS s c.verb = 0 := by unfold effS; rw [hst, hv]; rfl
      rw [hbase, if_neg (by omega), if_neg (by omega), if_neg (by omega), if_neg (by omega), if_neg (by omega)]
      exact hear_1_9 b ch s F vw vo q c w h hF hname hE s.cur.1 s.cur.2 hchk hv hst rfl hid
  · rcases hv with hv | hv | hv | hv | hv
    · have he : effS s c.verb = 0 := by unfold effS; rw [hst, hv]; rfl
      rw [hbase, if_neg (by omega), if_neg (by omega), if_neg (by omega), if_neg (by omega), if_neg (by omega)]
      exact hear_2_3 b ch s F vw vo q c w h hF hname hE s.cur.1 s.cur.2 hchk hv hst rfl hid
    · have he : effS s c.verb = 0 := by unfold effS; rw [hst, hv]; rfl
      rw [hbase, if_neg (by omega), if_neg (by omega), if_neg (by omega), if_neg (by omega), if_neg (by omega)]
      exact hear_2_4 b ch s F vw vo q c w h hF hname hE s.cur.1 s.cur.2 hchk hv hst rfl hid
    · have he : effS s c.verb = 5 := by unfold effS; rw [hst, hv]; rfl
      rw [hbase, if_neg (by omega), if_neg (by omega), if_neg (by omega), if_neg (by omega), if_pos he]
      exact hear_2_5 b ch s F vw vo q c w h hF hname hE s.cur.1 s.cur.2 hchk hv hst rfl hid hm
    · have he : effS s c.verb = 4 := by unfold effS; rw [hst, hv]; rfl
      rw [hbase, if_neg (by omega), if_neg (by omega), if_neg (by omega), if_pos he]
      exact hear_2_6 b ch s F vw vo q c w h hF hname hE s.cur.1 s.cur.2 hchk hv hst rfl hid hm
    · have he : effS s c.verb = 0 := by unfold effS; rw [hst, hv]; rfl
      rw [hbase, if_neg (by omega), if_neg (by omega), if_neg (by omega), if_neg (by omega), if_neg (by omega)]
      exact hear_2_9 b ch s F vw vo q c w h hF hname hE s.cur.1 s.cur.2 hchk hv hst rfl hid
  · rcases hv with hv | hv | hv | hv | hv
    · have he : effS s c.verb = 0 := by unfold effS; rw [hst, hv]; rfl
      rw [hbase, if_neg (by omega), if_neg (by omega), if_neg (by omega), if_neg (by omega), if_neg (by omega)]
      exact hear_3_3 b ch s F vw vo q c w h hF hname hE s.cur.1 s.cur.2 hchk hv hst rfl hid
    · have he : effS s c.verb = 0 := by unfold effS; rw [hst, hv]; rfl
      rw [hbase, if_neg (by omega), if_neg (by omega), if_neg (by omega), if_neg (by omega), if_neg (by omega)]
      exact hear_3_4 b ch s F vw vo q c w h hF hname hE s.cur.1 s.cur.2 hchk hv hst rfl hid
    · have he : effS s c.verb = 5 := by unfold effS; rw [hst, hv]; rfl
      rw [hbase, if_neg (by omega), if_neg (by omega), if_neg (by omega), if_neg (by omega), if_pos he]
      exact hear_3_5 b ch s F vw vo q c w h hF hname hE s.cur.1 s.cur.2 hchk hv hst rfl hid hm
    · have he : effS s c.verb = 4 := by unfold effS; rw [hst, hv]; rfl
      rw [hbase, if_neg (by omega), if_neg (by omega), if_neg (by omega), if_pos he]
      exact hear_3_6 b ch s F vw vo q c w h hF hname hE s.cur.1 s.cur.2 hchk hv hst rfl hid hm
    · have he : effS s c.verb = 2 := by unfold effS; rw [hst, hv]; rfl
      rw [hbase, if_neg (by omega), if_pos he]
      exact hear_3_9 b ch s F vw vo q c w h hF hname hE s.cur.1 s.cur.2 hchk hv hst rfl hid hm
theorem Good.ended {ch : Int} {s : St} (g : Good ch s) (_h0 : s.state ≠ 0) (r cd : Int) : Good ch (endS s r cd) :=
  ⟨g.c1, g.c2, Or.inl rfl, fun _ => rfl, fun _ => rfl, fun h => (by simp [endS] at h), fun h => (by simp [endS] at h), fun h => absurd rfl h, g.wait, g.len, fun h => absurd rfl h⟩
theorem Good.hear {ch : Int} {s : St} (g : Good ch s) (c : Cm) : Good ch (hearS s c).1 := by
  unfold hearS
  split
  · exact g
  · rename_i hbad
    split
    · exact g
    · split
      · exact g
      · rename_i hv h8
        have h0 : s.state ≠ 0 := fun e => h8 (Or.inl e)
        split
        · rename_i he
          split
          · rename_i hf
            have hst : s.state = 1 ∧ c.verb = 3 := by
              have hv' : isAns c.verb := by simpa using hv
              unfold effS at he
              rcases g.st with hst | hst | hst | hst <;> rcases hv' with hv' | hv' | hv' | hv' | hv' <;> rw [hst, hv'] at he <;> first | exact ⟨hst, hv'⟩ | exact absurd he (by decide)
            exact ⟨g.c1, g.c2, Or.inr (Or.inr (Or.inl rfl)), fun h => (by simp at h), fun h => (by simp at h), fun _ => ⟨_, rfl, chk_from (by omega) hst.2, hf⟩, fun h => (by simp at h), fun _ => g.cur h0, g.wait, g.len, fun _ => g.len2 h0⟩
          · exact g
        · split
          · exact g.ended h0 _ _
          · split
            · exact g.ended h0 _ _
            · split
              · exact g.ended h0 _ _
              · split
                · exact g.ended h0 _ _
                · exact g
theorem hearS_outs (s : St) (c : Cm) : (hearS s c).1.outs.length ≤ s.outs.length + 1 := by
  unfold hearS
  repeat' split
  all_goals first | (show s.outs.length ≤ _; omega) | (show (s.outs ++ [_]).length ≤ _; simp)
/-! ### Drop, Add -/
def dropS (s : St) : St := if s.state = 0 then s else ⟨s.cur :: s.wait, 0, zA, s.outs, none⟩
theorem drop31_all (b : Nat) (ch : Int) (s : St) (F : List Nat) (w : World) (h : Rep b ch s F w) (g : Good ch s) :
    Calls Tryd.prog 31 #[.pointer (some ⟨b, 0, none⟩)] w fun e w' => e = .returned (.int .i64 0) ∧ ∃ F', Rep b ch (dropS s) F' w' ∧ Kp F F' w w' := by
  unfold dropS
  by_cases h0 : s.state = 0
  · rw [if_pos h0]
    exact (drop31_idle b ch s F w h h0).mono fun e w' ⟨h1, h2⟩ => ⟨h1, F, by rw [h2]; exact h, by rw [h2]; exact Kp.refl _ _⟩
  · rw [if_neg h0]
    exact drop31 b ch s F s.cur.1 s.cur.2 w h h0 rfl (by have := g.len; omega)
theorem Good.drop {ch : Int} {s : St} (g : Good ch s) : Good ch (dropS s) := by
  unfold dropS
  by_cases h0 : s.state = 0
  · rw [if_pos h0]; exact g
  · rw [if_neg h0]
    refine ⟨g.c1, g.c2, Or.inl rfl, fun _ => rfl, fun _ => rfl, fun h => (by simp at h), fun h => (by simp at h), fun h => absurd rfl h, fun a ha => ?_, ?_, fun h => absurd rfl h⟩
    · rcases List.mem_cons.1 ha with rfl | ha
      · exact g.cur h0
      · exact g.wait a ha
    · have := g.len2 h0
      show (s.cur :: s.wait).length ≤ 1025
      rw [List.length_cons]
      omega
theorem Good.add {ch : Int} {s : St} (g : Good ch s) (x : Id) (t : ByteArray) : Good ch (addS s x t).1 := by
  unfold addS
  split
  · exact g
  · rename_i h1
    split
    · exact g
    · split
      · exact g
      · split
        · exact g
        · split
          · exact g
          · rename_i h2 h3 h4 h5
            refine ⟨g.c1, g.c2, g.st, g.low, g.idle, g.mid, g.last, g.cur, fun a ha => ?_, ?_, fun _ => ?_⟩
            · rcases List.mem_append.1 ha with ha | ha
              · exact g.wait a ha
              · obtain rfl : a = (x, t) := by simpa using ha
                exact ⟨fun e => h1 (Or.inl e), by cases hq : t.toList.isEmpty with | false => rfl | true => exact absurd (Or.inr hq) h1, by show t.size ≤ 65536; omega, by cases hq : crL t with | false => rfl | true => exact absurd hq h3⟩
            · show (s.wait ++ [(x, t)]).length ≤ 1025
              simp; omega
            · show (s.wait ++ [(x, t)]).length ≤ 1024
              simp; omega
theorem addS_outs (s : St) (x : Id) (t : ByteArray) : (addS s x t).1.outs = s.outs := by
  unfold addS
  repeat' split
  all_goals rfl
theorem sayS_outs (ch : Int) (s : St) : (sayS ch s).1.outs = s.outs := by
  unfold sayS
  repeat' split
  all_goals rfl
theorem dropS_outs (s : St) : (dropS s).outs = s.outs := by
  unfold dropS
  split <;> rfl
end Go.Proofs.YtlelecnafdddhaaDoor
