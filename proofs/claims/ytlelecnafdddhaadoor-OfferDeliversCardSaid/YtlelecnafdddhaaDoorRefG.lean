/- The reference's Hear whole. -/
import Derived.Test.YtlelecnafdddhaaDoorRefE
namespace Go.Proofs.YtlelecnafdddhaaDoor
open Go.RowKit
theorem refHear45 (F : List Nat) (ch : Int) (s : St) (r : Rs) (c : Cm) (w : World) (h : RefAt F ch s r w) (g : Good ch s) (hF : ∀ k ∈ F, k < w.heap.size) (hchk : chk c = 0) (hm : s.outs.length ≤ 100000) : Calls Tryd.prog 45 #[vR r, vK (ofS c)] w (RefP F ch (hearS s c).1 (hearS s c).2 w) := by
  have hbad : ¬ chk c ≠ 0 := by omega
  have hcur : r.cur = (s.cur.1, s.cur.2) := h.cur
  by_cases hv : isAns c.verb
  case neg =>
    have e : hearS s c = (s, 11) := by unfold hearS; rw [if_neg hbad, if_pos hv]
    rw [e]
    exact rhear_kind F ch s r (ofS c) w c.verb r.st s.cur.1 s.cur.2 c.id h rfl hcur rfl rfl (by simpa using fun e => hv (Or.inl e)) (by simpa using fun e => hv (Or.inr (Or.inl e))) (by simpa using fun e => hv (Or.inr (Or.inr (Or.inl e)))) (by simpa using fun e => hv (Or.inr (Or.inr (Or.inr (Or.inl e))))) (by simpa using fun e => hv (Or.inr (Or.inr (Or.inr (Or.inr e)))))
  by_cases h8 : s.state = 0 ∨ c.id ≠ s.cur.1
  · have e : hearS s c = (s, 8) := by unfold hearS; rw [if_neg hbad, if_neg (by simpa using hv), if_pos h8]
    rw [e]
    by_cases h0 : s.state = 0
    · rcases hv with hv | hv | hv | hv | hv
      · exact rhear_idle3 F ch s r (ofS c) w c.verb r.st s.cur.1 s.cur.2 c.id h rfl hcur rfl rfl hv (h.st.trans h0)
      · exact rhear_idle4 F ch s r (ofS c) w c.verb r.st s.cur.1 s.cur.2 c.id h rfl hcur rfl rfl hv (h.st.trans h0)
      · exact rhear_idle5 F ch s r (ofS c) w c.verb r.st s.cur.1 s.cur.2 c.id h rfl hcur rfl rfl hv (h.st.trans h0)
      · exact rhear_idle6 F ch s r (ofS c) w c.verb r.st s.cur.1 s.cur.2 c.id h rfl hcur rfl rfl hv (h.st.trans h0)
      · exact rhear_idle9 F ch s r (ofS c) w c.verb r.st s.cur.1 s.cur.2 c.id h rfl hcur rfl rfl hv (h.st.trans h0)
    · have hne : decide (c.id = s.cur.1) = false := decide_eq_false (by rcases h8 with h8 | h8; exact absurd h8 h0; exact h8)
      have hst : (r.st == 0) = false := by rw [h.st]; simpa using h0
      rcases hv with hv | hv | hv | hv | hv
      · exact rhear_other3 F ch s r (ofS c) w c.verb r.st s.cur.1 s.cur.2 c.id h rfl hcur rfl rfl hv hst hne
      · exact rhear_other4 F ch s r (ofS c) w c.verb r.st s.cur.1 s.cur.2 c.id h rfl hcur rfl rfl hv hst hne
      · exact rhear_other5 F ch s r (ofS c) w c.verb r.st s.cur.1 s.cur.2 c.id h rfl hcur rfl rfl hv hst hne
      · exact rhear_other6 F ch s r (ofS c) w c.verb r.st s.cur.1 s.cur.2 c.id h rfl hcur rfl rfl hv hst hne
      · exact rhear_other9 F ch s r (ofS c) w c.verb r.st s.cur.1 s.cur.2 c.id h rfl hcur rfl rfl hv hst hne
  have h0 : s.state ≠ 0 := fun e => h8 (Or.inl e)
  have hid : c.id = s.cur.1 := by
    by_cases e : c.id = s.cur.1
    · exact e
    · exact absurd (Or.inr e) h8
  have hne : decide (c.id = s.cur.1) = true := decide_eq_true hid
  have hst0 : (r.st == 0) = false := by rw [h.st]; simpa using h0
  have hbase : hearS s c = if effS s c.verb = 1 then (if c.from_ ≤ (s.cur.2.size : Int) then ({ s with state := 2, snd := some (c.from_, false) }, 0) else (s, 2)) else if effS s c.verb = 2 then (endS s 0 0, 0) else if effS s c.verb = 3 then (endS s 1 0, 0) else if effS s c.verb = 4 then (endS s 2 c.code, 0) else if effS s c.verb = 5 then (endS s 3 0, 0) else (s, 10) := by
    unfold hearS
    rw [if_neg hbad, if_neg (by simpa using hv), if_neg h8]
  rcases g.st with hst | hst | hst | hst
  · exact absurd hst h0
  · rcases hv with hv | hv | hv | hv | hv
    · have he : effS s c.verb = 1 := by unfold effS; rw [hst, hv]; rfl
      rw [hbase, if_pos he]
      by_cases hf : c.from_ ≤ (s.cur.2.size : Int)
      · rw [if_pos hf]
        exact rhear_want F ch s r (ofS c) w s.cur.1 s.cur.2 c.from_ h (h.st.trans hst) hcur hv hid rfl hf
      · rw [if_neg hf]
        exact rhear_range F ch s r (ofS c) w s.cur.1 s.cur.2 c.from_ h (h.st.trans hst) hcur hv hid rfl (by omega)
    · have he : effS s c.verb = 3 := by unfold effS; rw [hst, hv]; rfl
      rw [hbase, if_neg (by omega), if_neg (by omega), if_pos he]
      exact rhear_end4 F ch s r (ofS c) w r.st s.cur.1 s.cur.2 c.code h hF hm rfl hcur hv hid rfl (h.st.trans hst)
    · have he : effS s c.verb = 5 := by unfold effS; rw [hst, hv]; rfl
      rw [hbase, if_neg (by omega), if_neg (by omega), if_neg (by omega), if_neg (by omega), if_pos he]
      exact rhear_end5 F ch s r (ofS c) w r.st s.cur.1 s.cur.2 c.code h hF hm rfl hcur hv hid rfl hst0
    · have he : effS s c.verb = 4 := by unfold effS; rw [hst, hv]; rfl
      rw [hbase, if_neg (by omega), if_neg (by omega), if_neg (by omega), if_pos he]
      exact rhear_end6 F ch s r (ofS c) w r.st s.cur.1 s.cur.2 c.code h hF hm rfl hcur hv hid rfl hst0
    · have he : effS s c.verb = 0 := by unfold effS; rw [hst, hv]; rfl
      rw [hbase, if_neg (by omega), if_neg (by omega), if_neg (by omega), if_neg (by omega), if_neg (by omega)]
      exact rhear_1_9 F ch s r (ofS c) w c.verb r.st s.cur.1 s.cur.2 c.id h rfl hcur rfl rfl hv (h.st.trans hst) hne
  · rcases hv with hv | hv | hv | hv | hv
    · have he : effS s c.verb = 0 := by unfold effS; rw [hst, hv]; rfl
      rw [hbase, if_neg (by omega), if_neg (by omega), if_neg (by omega), if_neg (by omega), if_neg (by omega)]
      exact rhear_2_3 F ch s r (ofS c) w c.verb r.st s.cur.1 s.cur.2 c.id h rfl hcur rfl rfl hv (h.st.trans hst) hne
    · have he : effS s c.verb = 0 := by unfold effS; rw [hst, hv]; rfl
      rw [hbase, if_neg (by omega), if_neg (by omega), if_neg (by omega), if_neg (by omega), if_neg (by omega)]
      exact rhear_2_4 F ch s r (ofS c) w c.verb r.st s.cur.1 s.cur.2 c.id h rfl hcur rfl rfl hv (h.st.trans hst) hne
    · have he : effS s c.verb = 5 := by unfold effS; rw [hst, hv]; rfl
      rw [hbase, if_neg (by omega), if_neg (by omega), if_neg (by omega), if_neg (by omega), if_pos he]
      exact rhear_end5 F ch s r (ofS c) w r.st s.cur.1 s.cur.2 c.code h hF hm rfl hcur hv hid rfl hst0
    · have he : effS s c.verb = 4 := by unfold effS; rw [hst, hv]; rfl
      rw [hbase, if_neg (by omega), if_neg (by omega), if_neg (by omega), if_pos he]
      exact rhear_end6 F ch s r (ofS c) w r.st s.cur.1 s.cur.2 c.code h hF hm rfl hcur hv hid rfl hst0
    · have he : effS s c.verb = 0 := by unfold effS; rw [hst, hv]; rfl
      rw [hbase, if_neg (by omega), if_neg (by omega), if_neg (by omega), if_neg (by omega), if_neg (by omega)]
      exact rhear_2_9 F ch s r (ofS c) w c.verb r.st s.cur.1 s.cur.2 c.id h rfl hcur rfl rfl hv (h.st.trans hst) hne
  · rcases hv with hv | hv | hv | hv | hv
    · have he : effS s c.verb = 0 := by unfold effS; rw [hst, hv]; rfl
      rw [hbase, if_neg (by omega), if_neg (by omega), if_neg (by omega), if_neg (by omega), if_neg (by omega)]
      exact rhear_3_3 F ch s r (ofS c) w c.verb r.st s.cur.1 s.cur.2 c.id h rfl hcur rfl rfl hv (h.st.trans hst) hne
    · have he : effS s c.verb = 0 := by unfold effS; rw [hst, hv]; rfl
      rw [hbase, if_neg (by omega), if_neg (by omega), if_neg (by omega), if_neg (by omega), if_neg (by omega)]
      exact rhear_3_4 F ch s r (ofS c) w c.verb r.st s.cur.1 s.cur.2 c.id h rfl hcur rfl rfl hv (h.st.trans hst) hne
    · have he : effS s c.verb = 5 := by unfold effS; rw [hst, hv]; rfl
      rw [hbase, if_neg (by omega), if_neg (by omega), if_neg (by omega), if_neg (by omega), if_pos he]
      exact rhear_end5 F ch s r (ofS c) w r.st s.cur.1 s.cur.2 c.code h hF hm rfl hcur hv hid rfl hst0
    · have he : effS s c.verb = 4 := by unfold effS; rw [hst, hv]; rfl
      rw [hbase, if_neg (by omega), if_neg (by omega), if_neg (by omega), if_pos he]
      exact rhear_end6 F ch s r (ofS c) w r.st s.cur.1 s.cur.2 c.code h hF hm rfl hcur hv hid rfl hst0
    · have he : effS s c.verb = 2 := by unfold effS; rw [hst, hv]; rfl
      rw [hbase, if_neg (by omega), if_pos he]
      exact rhear_end9 F ch s r (ofS c) w r.st s.cur.1 s.cur.2 c.code h hF hm rfl hcur hv hid rfl (h.st.trans hst)
end Go.Proofs.YtlelecnafdddhaaDoor
