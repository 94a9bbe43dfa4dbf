/- How many bytes are kept of an article; the article that is being received. -/
import Derived.Test.YtgojaelkdpabkaaGreatDoorTk2
namespace Go.Proofs.YtgojaelkdpabkaaGreatDoor
open Go.RowKit

set_option maxRecDepth 100000 in
set_option maxHeartbeats 3200000 in
theorem keptBytes41 (b : Nat) (s : Tk) (F : List Nat) (va vk : SlV) (x : Id) (w : World) (h : TkR b s F va vk w) (hn : s.kept.length ≤ 1000000) :
    Calls Tryz.prog 41 #[.pointer (some ⟨b, 0, none⟩), vI x] w fun e w' => e = .returned (.int .i64 (gotL s.kept x)) ∧ Below w.heap.size w w' := by
  obtain ⟨g, hg⟩ : ∃ g, w.heap.size = g := ⟨_, rfl⟩
  obtain ⟨W1, hW1⟩ : ∃ W1, w.alloc (.cells (aI x) 30) = W1 := ⟨_, rfl⟩
  have hb1 : Below w.heap.size w W1 := by rw [← hW1]; exact below_alloc _ _
  have H1 := Lib.hid (And.intro (show Row W1 g (cI x) 30 by rw [← hW1, ← hg]; exact Row.new w (cI x) _) (And.intro (h.keep hb1) hb1))
  clear hb1 h
  obtain ⟨i, hi⟩ : ∃ i, idxL s.kept x = i := ⟨_, rfl⟩
  have HI := Lib.hid hi
  clear hi
  go_enter Tryz.func41, Tryz.ntmps41
  go_wp2


  refine AnyO.wp_anyI (by kernel_rfl) (by kernel_rfl) (AnyO.InvG (σ := Unit) (fun σ => AnyO.pvL [some (.pointer (some ⟨b, 0, none⟩)), some (.pointer (some ⟨b, 0, none⟩)), some (.pointer (some ⟨b, 3, none⟩)), some (.slice vk.1 s.kept.length vk.2.2), some (vI x), some (.int .i64 i), some (.int .i64 i)]) (fun _ _ u => Below W1.heap.size W1 u)) (AnyO.InvG.start (g := ()) (below_drew _)) ?_ ?_
  · intro i hi
    have hi2 : i = 4 ∨ i = 5 ∨ i = 0 ∨ i = 1 ∨ i = 2 ∨ i = 3 ∨ i = 6 := by simp only [List.size_toArray, List.length_cons, List.length_nil] at hi; omega
    clear hi
    rcases hi2 with rfl | rfl | rfl | rfl | rfl | rfl | rfl
    · refine AnyO.StepI.mk rfl [] (by kernel_rfl) ?_; rintro D vs u ⟨σ, hP, hW⟩ h0 hC hp ac hb K hK
      have s3 : ac.tmps[3]?.getD undef = .pointer (some ⟨g, 0, none⟩) := by rw [hb]; kernel_rfl
      rw [if_pos (AnyO.wanted_none rfl)]; clear hb hp
      have q := Row.okw (H1.out.1.keep hW) (cI_length x)
      have rr1 := q.1
      have rr2 : rdA u ⟨g, 0, none⟩ 32 = vI x := q.2
      clear q
      clear hC h0; have HPW := Lib.hid (And.intro hP hW); clear hP hW; go_simp; exact hK _ _ (AnyO.InvG.step (g := σ) HPW.out.1 rfl HPW.out.2)
    · refine AnyO.StepI.mk rfl [3, 4] (by kernel_rfl) ?_; rintro D vs u ⟨σ, hP, hW⟩ h0 hC hp ac hb K hK
      have s9 := AnyO.slot 9 hb (by kernel_rfl) (hP 3 (hp 3 (by decide)))
      have s10 := AnyO.slot 10 hb (by kernel_rfl) (hP 4 (hp 4 (by decide)))
      rw [if_pos (AnyO.wanted_none rfl)]; clear hb hp hC h0; have HPW := Lib.hid (And.intro hP hW); clear hP hW; go_simp; obtain ⟨hP, hW⟩ := HPW.out
      go_at_call 40
      refine (find40 vk.1 vk.2.2 s.kept x u (Own.slOf ((H1.out.2.1.keep hW).ok)) hn).mono ?_
      rintro e w2 ⟨rfl, hcb⟩
      rw [HI.out]
      exact hK _ _ (AnyO.InvG.step (g := σ) hP rfl (Below.step hW hcb))
    all_goals
      refine AnyO.StepI.mk rfl _ rfl ?_; rintro D vs u ⟨σ, hP, hW⟩ h0 hC hp ac hb K hK
      try have s0 : ac.tmps[0]?.getD undef = .pointer (some ⟨b, 0, none⟩) := by rw [hb]; kernel_rfl
      try have s6 := AnyO.slot 6 hb (by kernel_rfl) (hP 0 (hp 0 (by decide +kernel)))
      try have s7 := AnyO.slot 7 hb (by kernel_rfl) (hP 1 (hp 1 (by decide +kernel)))
      try have s8 := AnyO.slot 8 hb (by kernel_rfl) (hP 2 (hp 2 (by decide +kernel)))
      try have s11 := AnyO.slot 11 hb (by kernel_rfl) (hP 5 (hp 5 (by decide +kernel)))
      rw [if_pos (AnyO.wanted_none rfl)]; clear hb hp
      have rr := (H1.out.2.1.keep hW).c3
      rw [(H1.out.2.1).lk] at rr
      clear hC h0; have HPW := Lib.hid (And.intro hP hW); clear hP hW; go_simp; obtain ⟨hP, hW⟩ := HPW.out
      exact hK _ _ (AnyO.InvG.step (g := σ) hP rfl hW)
  · intro D vs u hI hD
    obtain ⟨σ, hP, hW⟩ := hI
    have e0 : _ = _ := hP 0 (hD 0 (by decide))
    have e1 : _ = _ := hP 1 (hD 1 (by decide))
    have e2 : _ = _ := hP 2 (hD 2 (by decide))
    have e3 : _ = _ := hP 3 (hD 3 (by decide))
    have e4 : _ = _ := hP 4 (hD 4 (by decide))
    have e5 : _ = _ := hP 5 (hD 5 (by decide))
    have e6 : _ = _ := hP 6 (hD 6 (by decide))
    have HW := Lib.hid hW
    clear hW hP hD
    rw [puts_range [some 6, some 7, some 8, some 9, some 10, some 11, some 5] (by kernel_rfl)]
    simp only [putL, Nat.reduceAdd, e0, e1, e2, e3, e4, e5, e6]
    clear e0 e1 e2 e3 e4 e5 e6
    go_simp

    cases hp : posL s.kept x with
    | none =>
      have hii : i = -1 := by rw [← HI.out]; exact idx_none hp
      have HG := Lib.hid (got_none hp)
      subst hii
      clear hp
      go_wp2
      go_ret
      rw [HG.out]
      exact ⟨rfl, Below.step H1.out.2.2 HW.out⟩
    | some k =>
      obtain ⟨hk, -, -⟩ := pos_some hp
      have hii : i = (k : Int) := by rw [← HI.out]; exact idx_some hp
      have HG := Lib.hid (got_some hp hk)
      subst hii
      clear hp
      have hT := H1.out.2.1.keep HW.out
      obtain ⟨ad, hae, -, -, hat⟩ := Sl.pt (Own.slOf hT.ok) hk
      have rr := hT.c3
      rw [hT.lk] at rr
      have r34 := hat.f34
      have hk1 : (k : Int) < (s.kept.length : Int) := by omega
      clear hT hat
      rw [hae] at rr
      go_wp2
      go_ret
      rw [HG.out]
      exact ⟨rfl, Below.step H1.out.2.2 HW.out⟩
/-- The article that is being received. -/
def rcvL (l : List Pt) (x : Id) : Option Nat := match posL l x with | some k => if (l[k]?.getD zA).state = 2 then some k else none | none => none
theorem rcv_some {l : List Pt} {x : Id} {k : Nat} (h : rcvL l x = some k) : ∃ hk : k < l.length, posL l x = some k ∧ l[k].state = 2 := by
  unfold rcvL at h
  split at h
  · rename_i j hj
    obtain ⟨hk, _, _⟩ := pos_some hj
    rw [List.getElem?_eq_getElem hk] at h
    split at h
    · rename_i hs
      cases h
      exact ⟨hk, hj, hs⟩
    · cases h
  · cases h
theorem rcv_none {l : List Pt} {x : Id} (h : posL l x = none) : rcvL l x = none := by unfold rcvL; rw [h]
theorem rcv_yes {l : List Pt} {x : Id} {k : Nat} (h : posL l x = some k) (hk : k < l.length) (hs : l[k].state = 2) : rcvL l x = some k := by
  unfold rcvL
  rw [h]
  show (if (l[k]?.getD zA).state = 2 then some k else none) = _
  rw [List.getElem?_eq_getElem hk]
  exact if_pos hs
theorem rcv_no {l : List Pt} {x : Id} {k : Nat} (h : posL l x = some k) (hk : k < l.length) (hs : ¬ l[k].state = 2) : rcvL l x = none := by
  unfold rcvL
  rw [h]
  show (if (l[k]?.getD zA).state = 2 then some k else none) = _
  rw [List.getElem?_eq_getElem hk]
  exact if_neg hs
def rcvV (va : SlV) (o : Option Nat) : Value := match o with | some k => .pointer (va.1.map (·.add (k * 35))) | none => .pointer none
set_option maxRecDepth 100000 in
set_option maxHeartbeats 3200000 in
theorem receiving63 (b : Nat) (s : Tk) (F : List Nat) (va vk : SlV) (x : Id) (w : World) (h : TkR b s F va vk w) (hn : s.act.length ≤ 1000000) :
    Calls Tryz.prog 63 #[.pointer (some ⟨b, 0, none⟩), vI x] w fun e w' => e = .returned (rcvV va (rcvL s.act x)) ∧ Below w.heap.size w w' := by
  obtain ⟨g, hg⟩ : ∃ g, w.heap.size = g := ⟨_, rfl⟩
  obtain ⟨W1, hW1⟩ : ∃ W1, w.alloc (.cells (aI x) 30) = W1 := ⟨_, rfl⟩
  have hb1 : Below w.heap.size w W1 := by rw [← hW1]; exact below_alloc _ _
  have H1 := Lib.hid (And.intro (show Row W1 g (cI x) 30 by rw [← hW1, ← hg]; exact Row.new w (cI x) _) (And.intro (h.keep hb1) hb1))
  clear hb1 h
  obtain ⟨i, hi⟩ : ∃ i, idxL s.act x = i := ⟨_, rfl⟩
  have HI := Lib.hid hi
  clear hi
  go_enter Tryz.func63, Tryz.ntmps63
  go_wp2


  refine AnyO.wp_anyI (by kernel_rfl) (by kernel_rfl) (AnyO.InvG (σ := Unit) (fun σ => AnyO.pvL [some (.pointer (some ⟨b, 0, none⟩)), some (.pointer (some ⟨b, 0, none⟩)), some (.pointer (some ⟨b, 2, none⟩)), some (.slice va.1 s.act.length va.2.2), some (vI x), some (.int .i64 i), some (.int .i64 i)]) (fun _ _ u => Below W1.heap.size W1 u)) (AnyO.InvG.start (g := ()) (below_drew _)) ?_ ?_
  · intro i hi
    have hi2 : i = 4 ∨ i = 5 ∨ i = 0 ∨ i = 1 ∨ i = 2 ∨ i = 3 ∨ i = 6 := by simp only [List.size_toArray, List.length_cons, List.length_nil] at hi; omega
    clear hi
    rcases hi2 with rfl | rfl | rfl | rfl | rfl | rfl | rfl
    · refine AnyO.StepI.mk rfl [] (by kernel_rfl) ?_; rintro D vs u ⟨σ, hP, hW⟩ h0 hC hp ac hb K hK
      have s3 : ac.tmps[3]?.getD undef = .pointer (some ⟨g, 0, none⟩) := by rw [hb]; kernel_rfl
      rw [if_pos (AnyO.wanted_none rfl)]; clear hb hp
      have q := Row.okw (H1.out.1.keep hW) (cI_length x)
      have rr1 := q.1
      have rr2 : rdA u ⟨g, 0, none⟩ 32 = vI x := q.2
      clear q
      clear hC h0; have HPW := Lib.hid (And.intro hP hW); clear hP hW; go_simp; exact hK _ _ (AnyO.InvG.step (g := σ) HPW.out.1 rfl HPW.out.2)
    · refine AnyO.StepI.mk rfl [3, 4] (by kernel_rfl) ?_; rintro D vs u ⟨σ, hP, hW⟩ h0 hC hp ac hb K hK
      have s9 := AnyO.slot 9 hb (by kernel_rfl) (hP 3 (hp 3 (by decide)))
      have s10 := AnyO.slot 10 hb (by kernel_rfl) (hP 4 (hp 4 (by decide)))
      rw [if_pos (AnyO.wanted_none rfl)]; clear hb hp hC h0; have HPW := Lib.hid (And.intro hP hW); clear hP hW; go_simp; obtain ⟨hP, hW⟩ := HPW.out
      go_at_call 40
      refine (find40 va.1 va.2.2 s.act x u (Own.slOf ((H1.out.2.1.keep hW).oa)) hn).mono ?_
      rintro e w2 ⟨rfl, hcb⟩
      rw [HI.out]
      exact hK _ _ (AnyO.InvG.step (g := σ) hP rfl (Below.step hW hcb))
    all_goals
      refine AnyO.StepI.mk rfl _ rfl ?_; rintro D vs u ⟨σ, hP, hW⟩ h0 hC hp ac hb K hK
      try have s0 : ac.tmps[0]?.getD undef = .pointer (some ⟨b, 0, none⟩) := by rw [hb]; kernel_rfl
      try have s6 := AnyO.slot 6 hb (by kernel_rfl) (hP 0 (hp 0 (by decide +kernel)))
      try have s7 := AnyO.slot 7 hb (by kernel_rfl) (hP 1 (hp 1 (by decide +kernel)))
      try have s8 := AnyO.slot 8 hb (by kernel_rfl) (hP 2 (hp 2 (by decide +kernel)))
      try have s11 := AnyO.slot 11 hb (by kernel_rfl) (hP 5 (hp 5 (by decide +kernel)))
      rw [if_pos (AnyO.wanted_none rfl)]; clear hb hp
      have rr := (H1.out.2.1.keep hW).c2
      rw [(H1.out.2.1).la] at rr
      clear hC h0; have HPW := Lib.hid (And.intro hP hW); clear hP hW; go_simp; obtain ⟨hP, hW⟩ := HPW.out
      exact hK _ _ (AnyO.InvG.step (g := σ) hP rfl hW)
  · intro D vs u hI hD
    obtain ⟨σ, hP, hW⟩ := hI
    have e0 : _ = _ := hP 0 (hD 0 (by decide))
    have e1 : _ = _ := hP 1 (hD 1 (by decide))
    have e2 : _ = _ := hP 2 (hD 2 (by decide))
    have e3 : _ = _ := hP 3 (hD 3 (by decide))
    have e4 : _ = _ := hP 4 (hD 4 (by decide))
    have e5 : _ = _ := hP 5 (hD 5 (by decide))
    have e6 : _ = _ := hP 6 (hD 6 (by decide))
    have HW := Lib.hid hW
    clear hW hP hD
    rw [puts_range [some 6, some 7, some 8, some 9, some 10, some 11, some 5] (by kernel_rfl)]
    simp only [putL, Nat.reduceAdd, e0, e1, e2, e3, e4, e5, e6]
    clear e0 e1 e2 e3 e4 e5 e6
    go_simp

    cases hp : posL s.act x with
    | none =>
      have hii : i = -1 := by rw [← HI.out]; exact idx_none hp
      have HG := Lib.hid (rcv_none hp)
      subst hii
      clear hp
      go_wp2
      go_ret
      rw [HG.out]
      exact ⟨rfl, Below.step H1.out.2.2 HW.out⟩
    | some k =>
      obtain ⟨hk, -, -⟩ := pos_some hp
      have hii : i = (k : Int) := by rw [← HI.out]; exact idx_some hp
      have HP := Lib.hid hp
      subst hii
      clear hp
      have hT := H1.out.2.1.keep HW.out
      obtain ⟨ad, hae, -, -, hat⟩ := Sl.pt (Own.slOf hT.oa) hk
      have rr := hT.c2
      rw [hT.la] at rr
      have r33 := hat.f33
      have hk1 : (k : Int) < (s.act.length : Int) := by omega
      clear hT hat
      rw [hae] at rr
      have HAE := Lib.hid hae
      clear hae
      by_cases h2 : s.act[k].state = 2
      · have HG := Lib.hid (rcv_yes HP.out hk h2)
        rw [h2] at r33
        clear h2
        go_wp2
        go_ret
        rw [HG.out]
        exact ⟨by unfold rcvV; rw [HAE.out]; rfl, Below.step H1.out.2.2 HW.out⟩
      · have HG := Lib.hid (rcv_no HP.out hk h2)
        have q2 : (s.act[k].state == 2) = false := by simpa using h2
        clear h2
        go_wp2
        go_ret
        rw [HG.out]
        exact ⟨rfl, Below.step H1.out.2.2 HW.out⟩
end Go.Proofs.YtgojaelkdpabkaaGreatDoor
