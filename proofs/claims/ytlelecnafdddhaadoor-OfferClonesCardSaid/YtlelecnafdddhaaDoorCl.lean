/- Clone of a sender. -/
import Derived.Test.YtlelecnafdddhaaDoorSame
namespace Go.Proofs.YtlelecnafdddhaaDoor
open Go.RowKit
section
variable (w : World) (v : Value)
@[go_sem ↓] theorem load91 : Instr.loadAt 91 v = ldA 91 v := rfl
@[go_sem] theorem run_ld91 (ad : Addr) : (ldA 91 (.pointer (some ad))).run Tryd.prog w = if okA w ad 38 = true then .ok (rdA w ad 38) w else (ldB 91 (.pointer (some ad))).run Tryd.prog w := run_ldA_if w 91 ad 38 _ Tryd.underlying91 rfl size91
@[go_sem ↓] theorem alloc91 (h : Bool) : Instr.alloc 91 h v = alA 91 h v := rfl
@[go_sem] theorem run_al91 : (alA 91 true (.tuple #[])).run Tryd.prog w = .ok (.pointer (some ⟨w.heap.size, 0, none⟩)) (w.alloc (.cells (aSn 0 (.slice none 0 0) 0 zA none (.slice none 0 0)) 91)) := by kernel_rfl
theorem cSn_one (ch : Int) (A : Option Addr) (n c : Nat) (st : Int) (a : Art) (q : Option Addr) (B : Option Addr) (m d : Nat) : ∀ u ∈ cSn ch (.slice A n c) st a q (.slice B m d), u.oneCell' = true := by
  intro u hu
  unfold cSn at hu
  simp only [List.mem_cons, List.mem_append, List.not_mem_nil, or_false] at hu
  rcases hu with rfl | rfl | rfl | hu | rfl
  · rfl
  · rfl
  · rfl
  · exact cD_one a q u hu
  · rfl
@[go_sem ↓] theorem store91 (u : Value) : Instr.storeAt 91 v u = stA 91 v u := rfl
@[go_sem] theorem run_st91 (g : Nat) (ch : Int) (A : Option Addr) (n c : Nat) (st : Int) (a : Art) (q : Option Addr) (B : Option Addr) (m d : Nat) : (stA 91 (.pointer (some ⟨g, 0, none⟩)) (vSn ch (.slice A n c) st a q (.slice B m d))).run Tryd.prog w = if rowOk w g 38 = true then .ok () (w.setRow g (aSn ch (.slice A n c) st a q (.slice B m d))) else (stB 91 (.pointer (some ⟨g, 0, none⟩)) (vSn ch (.slice A n c) st a q (.slice B m d))).run Tryd.prog w := run_stA_if w 91 g _ 38 size91 (by simp [cSn_length]) (by simpa using cSn_one ch A n c st a q B m d)
@[go_sem] theorem rowOk_n91 (ch : Int) (vw : Value) (st : Int) (a : Art) (q : Option Addr) (vo : Value) (ty : TypeId) (g : Nat) (hg : g = w.heap.size) : rowOk (w.alloc (.cells (aSn ch vw st a q vo) ty)) g 38 = true := rowOk_new w _ ty g 38 hg (by simp [aSn, cSn_length])
end
@[go_sem] theorem run_bs65_0 (w : World) : (bsA 65 0 #[]).run Tryd.prog w = .ok (.slice (some ⟨w.heap.size, 0, none⟩) 0 0) (w.alloc (.cells (aOs []) 68)) := run_bs65 w [] (by simp)
@[go_sem] theorem eql65_nil (w : World) (a : Option Addr) (n c : Nat) : (binOp .eql 65 (.slice a n c) (.slice none 0 0)).run Tryd.prog w = .ok (.bool a.isNone) w := eql_nil w 65 68 a n c Tryd.underlying65
set_option maxRecDepth 100000 in
set_option maxHeartbeats 3200000 in
theorem clone39w (A : Option Addr) (n c : Nat) (xs : List Art) (w : World) (hx : xs.length = n) (sx : Sl w cA A xs) (hn : n ≤ 100000) : Calls Tryd.prog 39 #[.slice A n c] w fun e w' => ∃ A' c', e = .returned (.slice A' n c') ∧ Own w' w.heap.size 86 33 cA (.slice A' n c') xs ∧ Below w.heap.size w w' := by
  cases A with
  | none =>
    have he : xs = [] := by
      cases xs with
      | nil => rfl
      | cons a r =>
        obtain ⟨ad, h, _⟩ := sx (by simp)
        cases h
    subst he
    obtain rfl : n = 0 := hx.symm
    go_enter Tryd.func39, Tryd.ntmps39
    go_wp2
    go_ret
    exact ⟨none, 0, rfl, Own.nil _ _ _ _ _, Below.refl _ _⟩
  | some ad =>
    have HX := Lib.hid (And.intro hx (And.intro sx hn))
    clear hx sx
    have HL := Lib.hid (show Own (w.alloc (.cells (([] : List Art).flatMap cA).toArray 86)) w.heap.size 86 33 cA (.slice (some ⟨w.heap.size, 0, none⟩) 0 0) ([] : List Art) from Own.lit cA_length [] (Nat.le_refl _) (by simp))
    go_enter Tryd.func39, Tryd.ntmps39
    go_wp2_with (at_builtin; refine wpList_append_sl _ rfl (.tmp 5) (.tmp 6) 84 rfl w.heap.size 86 33 48 cA Tryd.underlying84 row86 (by decide) cA_length cA_one (.slice (some ⟨w.heap.size, 0, none⟩) 0 0) [] rfl HL.out (some ad) n c xs HX.out.1 rfl (HX.out.2.1.keep (below_alloc w _)) (by have := HX.out.2.2; simp; omega) (by have := HX.out.2.2; simp; omega) (below_alloc w _).size ?_)
    intro v2 w2 ho2 hg
    have hb2 := Own.grew HL.out hg (below_alloc w _) (Nat.le_refl _) (below_alloc w _).size
    have ho3 : Own w2 w.heap.size 86 33 cA v2 xs := by simpa using ho2
    obtain ⟨A2, c2, rfl, _, _⟩ := ho3.sl
    rw [HX.out.1] at ho3 ⊢
    have HO := Lib.hid (And.intro ho3 hb2)
    clear ho2 ho3 hg hb2
    go_wp2
    go_ret
    exact ⟨A2, c2, rfl, HO.out.1, HO.out.2⟩
set_option maxRecDepth 100000 in
set_option maxHeartbeats 3200000 in
theorem clone50 (A : Option Addr) (n c : Nat) (xs : List Out) (w : World) (hx : xs.length = n) (sx : Sl w cO A xs) (hn : n ≤ 100000) : Calls Tryd.prog 50 #[.slice A n c] w fun e w' => ∃ A' c', e = .returned (.slice A' n c') ∧ Own w' w.heap.size 68 34 cO (.slice A' n c') xs ∧ Below w.heap.size w w' := by
  cases A with
  | none =>
    have he : xs = [] := by
      cases xs with
      | nil => rfl
      | cons a r =>
        obtain ⟨ad, h, _⟩ := sx (by simp)
        cases h
    subst he
    obtain rfl : n = 0 := hx.symm
    go_enter Tryd.func50, Tryd.ntmps50
    go_wp2
    go_ret
    exact ⟨none, 0, rfl, Own.nil _ _ _ _ _, Below.refl _ _⟩
  | some ad =>
    have HX := Lib.hid (And.intro hx (And.intro sx hn))
    clear hx sx
    have HL := Lib.hid (show Own (w.alloc (.cells (([] : List Out).flatMap cO).toArray 68)) w.heap.size 68 34 cO (.slice (some ⟨w.heap.size, 0, none⟩) 0 0) ([] : List Out) from Own.lit cO_length [] (Nat.le_refl _) (by simp))
    go_enter Tryd.func50, Tryd.ntmps50
    go_wp2_with (at_builtin; refine wpList_append_sl _ rfl (.tmp 5) (.tmp 6) 65 rfl w.heap.size 68 34 48 cO Tryd.underlying65 row68 (by decide) cO_length cO_one (.slice (some ⟨w.heap.size, 0, none⟩) 0 0) [] rfl HL.out (some ad) n c xs HX.out.1 rfl (HX.out.2.1.keep (below_alloc w _)) (by have := HX.out.2.2; simp; omega) (by have := HX.out.2.2; simp; omega) (below_alloc w _).size ?_)
    intro v2 w2 ho2 hg
    have hb2 := Own.grew HL.out hg (below_alloc w _) (Nat.le_refl _) (below_alloc w _).size
    have ho3 : Own w2 w.heap.size 68 34 cO v2 xs := by simpa using ho2
    obtain ⟨A2, c2, rfl, _, _⟩ := ho3.sl
    rw [HX.out.1] at ho3 ⊢
    have HO := Lib.hid (And.intro ho3 hb2)
    clear ho2 ho3 hg hb2
    go_wp2
    go_ret
    exact ⟨A2, c2, rfl, HO.out.1, HO.out.2⟩
theorem Good.sndE {ch : Int} {s : St} (g : Good ch s) {t : Int × Bool} (h : s.snd = some t) : okArt s.cur ∧ 0 ≤ t.1 ∧ t.1 ≤ (s.cur.2.size : Int) ∧ (t.2 = true → t.1 = (s.cur.2.size : Int)) := by
  have h0 : s.state ≠ 0 := fun e => by have := g.low (Or.inl e); rw [h] at this; cases this
  have h1 : s.state ≠ 1 := fun e => by have := g.low (Or.inr e); rw [h] at this; cases this
  refine ⟨g.cur h0, ?_⟩
  rcases g.st with e | e | e | e
  · exact absurd e h0
  · exact absurd e h1
  · obtain ⟨a, ha, hb, hc⟩ := g.mid e
    rw [h] at ha
    injection ha with ha
    subst ha
    exact ⟨hb, hc, fun h => by cases h⟩
  · have ha := g.last e
    rw [h] at ha
    injection ha with ha
    subst ha
    exact ⟨by show (0 : Int) ≤ (s.cur.2.size : Int); omega, Int.le_refl _, fun _ => rfl⟩
theorem Own.lts {α : Type} {w : World} {base : Nat} {e : TypeId} {s : Nat} {enc : α → List Value} {v : Value} {xs : List α} (h : Own w base e s enc v xs) {k : Nat} (hk : v.ownBlock = some k) : base ≤ k ∧ k < w.heap.size := h.lt k hk
/-- The copy, put together. -/
theorem Rp.made {b : Nat} {ch : Int} {s : St} {vw vo : Value} {q : Option Addr} {w : World} (hrow : Row w b (cSn ch vw s.state s.cur q vo) 91) {B1 B2 : Nat} (hw : Own w B1 86 33 cA vw s.wait) (ho : Own w B2 68 34 cO vo s.outs) (h1 : b < B1) (h2 : ∀ k, vw.ownBlock = some k → k < B2) (h3 : b < B2)
    (hq0 : s.snd = none → q = none) (hq : ∀ t, s.snd = some t → ∃ g, q = some ⟨g, 0, none⟩ ∧ b < g ∧ (∀ k, vw.ownBlock = some k → k < g) ∧ (∀ k, vo.ownBlock = some k → k < g) ∧ Row w g (cT s.cur ch t.1 t.2) 120) :
    ∃ F, Rep b ch s F w ∧ ∀ k ∈ F, b ≤ k := by
  obtain ⟨F, hF⟩ : ∃ F : List Nat, F = b :: ((vw.ownBlock.toList ++ vo.ownBlock.toList) ++ (q.map (·.block)).toList) := ⟨_, rfl⟩
  have mw : ∀ k, vw.ownBlock = some k → k ∈ F := fun k e => by rw [hF, e]; simp
  have mo : ∀ k, vo.ownBlock = some k → k ∈ F := fun k e => by rw [hF, e]; simp
  refine ⟨F, ⟨vw, vo, q, hrow, hw.mono (Nat.zero_le _), ho.mono (Nat.zero_le _), hq0, fun t ht => ?_, by rw [hF]; exact List.mem_cons_self, fun k e => ⟨mw k e, ?_, fun e2 => ?_⟩, fun k e => ⟨mo k e, ?_⟩⟩, fun k hk => ?_⟩
  · obtain ⟨g, rfl, e1, e2, e3, e4⟩ := hq t ht
    refine ⟨g, rfl, by omega, by rw [hF]; simp, e4, fun e => ?_, fun e => ?_⟩
    · have := e2 g e; omega
    · have := e3 g e; omega
  · have := (hw.lt k e).1; omega
  · have := h2 k e
    have := (ho.lt k e2).1
    omega
  · have := (ho.lt k e).1; omega
  · rw [hF] at hk
    rcases List.mem_cons.1 hk with rfl | hk
    · exact Nat.le_refl _
    · rcases List.mem_append.1 hk with hk | hk
      · rcases List.mem_append.1 hk with hk | hk
        · have := (hw.lt k (by simpa using hk)).1; omega
        · have := (ho.lt k (by simpa using hk)).1; omega
      · cases hq2 : q with
        | none => rw [hq2] at hk; cases hk
        | some ad =>
          cases hs : s.snd with
          | none => rw [hq0 hs] at hq2; cases hq2
          | some t =>
            obtain ⟨g, e1, e2, _⟩ := hq t hs
            rw [e1] at hk
            have : k = g := by simpa using hk
            omega
set_option maxRecDepth 100000 in
set_option maxHeartbeats 3200000 in
theorem clone29_0 (b : Nat) (ch : Int) (s : St) (F : List Nat) (w : World) (h : Rep b ch s F w) (g : Good ch s) (hm : s.outs.length ≤ 100000) (hs : s.snd = none) : Calls Tryd.prog 29 #[.pointer (some ⟨b, 0, none⟩)] w fun e w' => ∃ d G, e = .returned (.pointer (some ⟨d, 0, none⟩)) ∧ Rep d ch s G w' ∧ (∀ k ∈ G, w.heap.size ≤ k) ∧ Below w.heap.size w w' := by
  obtain ⟨vw, vo, q, h⟩ := h
  obtain ⟨A1, c1, rfl, _, sl1⟩ := h.ow.sl
  obtain ⟨A3, c3, rfl, _, sl3⟩ := h.oo.sl
  obtain ⟨l1, hl1⟩ : ∃ l, s.wait.length = l := ⟨_, rfl⟩
  obtain ⟨l3, hl3⟩ : ∃ l, s.outs.length = l := ⟨_, rfl⟩
  have hwl := g.len
  rw [hl1] at h hwl
  rw [hl3] at h hm
  obtain ⟨o1, o2⟩ := h.row.okw (cSn_length ch _ s.state s.cur q _)
  change rdA _ _ _ = vSn ch (.slice A1 l1 c1) s.state s.cur q (.slice A3 l3 c3) at o2
  have k1 := h.c1
  have hlt := h.row.lt
  have HX := Lib.hid (And.intro h (And.intro g (And.intro (And.intro hl1 (And.intro sl1 hwl)) (And.intro hl3 (And.intro sl3 hm)))))
  have HB := Lib.hid (below_alloc w (.cells (aSn ch (.slice A1 l1 c1) s.state s.cur q (.slice A3 l3 c3)) 91))
  have HR := Lib.hid (Row.new w (cSn ch (.slice A1 l1 c1) s.state s.cur q (.slice A3 l3 c3)) 91)
  clear h g sl1 sl3 hl1 hl3 hm hwl
  have T0 : True := trivial
  have HQV := Lib.hid (HX.out.1.none_ hs)
  have HSN := Lib.hid hs
  clear hs
  go_enter Tryd.func29, Tryd.ntmps29
  go_wp2_with (first
    | (have hh := T0; clear hh T0; go_at_call 39; refine (clone39w A1 l1 c1 s.wait _ HX.out.2.2.1.1 (HX.out.2.2.1.2.1.keep HB.out) (Nat.le_trans HX.out.2.2.1.2.2 (by decide))).mono ?_; rintro e w4 ⟨A4, c4, rfl, ho1, hb4⟩; have R4 := HR.out.keep hb4; have f1 := R4.fz 1; have g1 : w4.cell? ⟨w.heap.size, 1, none⟩ = some (.slice A1 l1 c1) := R4.cell 1; obtain ⟨w5, hw5⟩ : ∃ w5, w4.setCell ⟨w.heap.size, 1, none⟩ (.slice A4 l1 c4) = w5 := ⟨_, rfl⟩; have R5 : Row w5 w.heap.size (cSn ch (.slice A4 l1 c4) s.state s.cur q (.slice A3 l3 c3)) 91 := (by rw [← hw5, ← cSn_set1 ch (.slice A1 l1 c1)]; exact R4.set 1 _); have s5 : w5.heap.size = w4.heap.size := (by rw [← hw5]; simp [World.setCell]); have hne := fun k hk => (ho1.lts (k := k) hk).1; have hB4 := Below.step HB.out hb4; have ho5 : Own w5 (w.heap.size + 1) 86 33 cA (.slice A4 l1 c4) s.wait := (Own.same (w' := w5) ho1 (fun k hk => by rw [← hw5]; exact heap_set_other w4 _ 1 _ k (by have := hne k hk; simp at this; omega))).mono (by simp); have hB5 : Below w.heap.size w w5 := (by rw [← hw5]; exact Below.setCell' hB4 (Nat.le_refl _) 1 _); have k37 := (HX.out.1.keep hB5).c37; have H5 := Lib.hid (And.intro R5 (And.intro ho5 hB5)); clear ho1 hb4 R4 R5 s5 hne hB4 ho5 hB5; have T1 : True := trivial)
    | (have hh := T1; clear hh T1; go_at_call 50; refine (clone50 A3 l3 c3 s.outs _ HX.out.2.2.2.1 (HX.out.2.2.2.2.1.keep H5.out.2.2) HX.out.2.2.2.2.2).mono ?_; rintro e w6 ⟨A6, c6, rfl, ho2, hb6⟩; have R6 := H5.out.1.keep hb6; have f37 := R6.fz 37; have g37 : w6.cell? ⟨w.heap.size, 37, none⟩ = some (.slice A3 l3 c3) := (R6.cell 37).trans (cSn_hi _ _ _ _ _ _ 2); obtain ⟨w7, hw7⟩ : ∃ w7, w6.setCell ⟨w.heap.size, 37, none⟩ (.slice A6 l3 c6) = w7 := ⟨_, rfl⟩; have R7 : Row w7 w.heap.size (cSn ch (.slice A4 l1 c4) s.state s.cur q (.slice A6 l3 c6)) 91 := (by rw [← hw7, ← cSn_set37 ch _ _ _ _ (.slice A3 l3 c3)]; exact R6.set 37 _); have b5 : w.heap.size < w5.heap.size := H5.out.1.lt; have hne := fun k hk => (ho2.lts (k := k) hk).1; have ho7 : Own w7 w5.heap.size 68 34 cO (.slice A6 l3 c6) s.outs := Own.same (w' := w7) ho2 (fun k hk => by rw [← hw7]; exact heap_set_other w6 _ 37 _ k (by have := hne k hk; omega)); have ho8 : Own w7 (w.heap.size + 1) 86 33 cA (.slice A4 l1 c4) s.wait := Own.same (w' := w7) (H5.out.2.1.keep hb6) (fun k hk => by rw [← hw7]; exact heap_set_other w6 _ 37 _ k (by have := (H5.out.2.1.lt k hk).1; omega)); have hlo := fun k hk => (H5.out.2.1.lts (k := k) hk).2; have hB7 : Below w.heap.size w w7 := (by rw [← hw7]; exact Below.setCell' (Below.step H5.out.2.2 hb6) (Nat.le_refl _) 37 _); have k36 := (HX.out.1.keep hB7).c36; rw [HQV.out] at k36; have H7 := Lib.hid (And.intro R7 (And.intro ho8 (And.intro ho7 (And.intro hB7 (And.intro b5 hlo))))); clear ho2 hb6 R6 R7 b5 hne ho7 ho8 hlo hB7; have T2 : True := trivial))
  go_ret
  obtain ⟨G, hG, hlo⟩ := Rp.made H7.out.1 H7.out.2.1 H7.out.2.2.1 (Nat.lt_succ_self _) H7.out.2.2.2.2.2 H7.out.2.2.2.2.1 (fun _ => HQV.out) (fun t ht => by rw [HSN.out] at ht; cases ht)
  exact ⟨w.heap.size, G, rfl, hG, hlo, H7.out.2.2.2.1⟩
theorem clone_fin {w u : World} {b3 g : Nat} {ch : Int} {s : St} {q : Option Addr} {v1 v2 : Value} {B1 B2 : Nat} {t : Int × Bool} (hR : Row u b3 (cSn ch v1 s.state s.cur q v2) 91) (ho1 : Own u B1 86 33 cA v1 s.wait) (ho2 : Own u B2 68 34 cO v2 s.outs) (h1 : b3 < B1) (h2 : ∀ k, v1.ownBlock = some k → k < B2) (h3 : b3 < B2)
    (hg : b3 < g) (hg1 : ∀ k, v1.ownBlock = some k → k < g) (hg2 : ∀ k, v2.ownBlock = some k → k < g) (hrow : Row u g (cT s.cur ch t.1 t.2) 120) (hs : s.snd = some t) (hb : w.heap.size ≤ b3) (hB : Below w.heap.size w u) :
    ∃ G, Rep b3 ch s G (u.setCell ⟨b3, 36, none⟩ (.pointer (some ⟨g, 0, none⟩))) ∧ (∀ k ∈ G, b3 ≤ k) ∧ Below w.heap.size w (u.setCell ⟨b3, 36, none⟩ (.pointer (some ⟨g, 0, none⟩))) := by
  have ho : ∀ k, k ≠ b3 → (u.setCell ⟨b3, 36, none⟩ (.pointer (some ⟨g, 0, none⟩))).heap[k]? = u.heap[k]? := fun k hk => heap_set_other u b3 36 _ k hk
  have r := hR.set 36 (.pointer (some ⟨g, 0, none⟩))
  rw [cSn_set36] at r
  obtain ⟨G, hG, hlo⟩ := Rp.made r (ho1.same fun k e => ho k (by have := (ho1.lt k e).1; omega)) (ho2.same fun k e => ho k (by have := (ho2.lt k e).1; omega)) h1 h2 h3 (fun e => by rw [hs] at e; cases e) (fun t' ht => by
    rw [hs] at ht
    injection ht with ht
    subst ht
    exact ⟨g, rfl, hg, hg1, hg2, hrow.same (ho g (by omega))⟩)
  exact ⟨G, hG, hlo, Below.setCell' hB hb 36 _⟩
set_option maxRecDepth 100000 in
set_option maxHeartbeats 3200000 in
theorem clone29_1 (b : Nat) (ch : Int) (s : St) (F : List Nat) (w : World) (h : Rep b ch s F w) (g : Good ch s) (hm : s.outs.length ≤ 100000) (t : Int × Bool) (hs : s.snd = some t) : Calls Tryd.prog 29 #[.pointer (some ⟨b, 0, none⟩)] w fun e w' => ∃ d G, e = .returned (.pointer (some ⟨d, 0, none⟩)) ∧ Rep d ch s G w' ∧ (∀ k ∈ G, w.heap.size ≤ k) ∧ Below w.heap.size w w' := by
  obtain ⟨vw, vo, q, h⟩ := h
  obtain ⟨A1, c1, rfl, _, sl1⟩ := h.ow.sl
  obtain ⟨A3, c3, rfl, _, sl3⟩ := h.oo.sl
  obtain ⟨l1, hl1⟩ : ∃ l, s.wait.length = l := ⟨_, rfl⟩
  obtain ⟨l3, hl3⟩ : ∃ l, s.outs.length = l := ⟨_, rfl⟩
  have hwl := g.len
  rw [hl1] at h hwl
  rw [hl3] at h hm
  obtain ⟨o1, o2⟩ := h.row.okw (cSn_length ch _ s.state s.cur q _)
  change rdA _ _ _ = vSn ch (.slice A1 l1 c1) s.state s.cur q (.slice A3 l3 c3) at o2
  have k1 := h.c1
  have hlt := h.row.lt
  have HX := Lib.hid (And.intro h (And.intro g (And.intro (And.intro hl1 (And.intro sl1 hwl)) (And.intro hl3 (And.intro sl3 hm)))))
  have HB := Lib.hid (below_alloc w (.cells (aSn ch (.slice A1 l1 c1) s.state s.cur q (.slice A3 l3 c3)) 91))
  have HR := Lib.hid (Row.new w (cSn ch (.slice A1 l1 c1) s.state s.cur q (.slice A3 l3 c3)) 91)
  clear h g sl1 sl3 hl1 hl3 hm hwl
  have T0 : True := trivial
  obtain ⟨g0, hq, _, _, hr0, _⟩ := HX.out.1.some_ t hs
  have HQV := Lib.hid hq
  have HSN := Lib.hid (And.intro hs hr0)
  have HT := Lib.hid (HX.out.2.1.sndE hs)
  obtain ⟨sent, en⟩ := t
  obtain ⟨xi, hxi⟩ : ∃ xi, s.cur.1 = xi := ⟨_, rfl⟩
  obtain ⟨tt, htt⟩ : ∃ tt, s.cur.2 = tt := ⟨_, rfl⟩
  have HC := Lib.hid (And.intro hxi htt)
  dsimp only at HT HSN
  clear hs hr0 hq hxi htt
  go_enter Tryd.func29, Tryd.ntmps29
  go_wp2_with (first
    | (have hh := T0; clear hh T0; go_at_call 39; refine (clone39w A1 l1 c1 s.wait _ HX.out.2.2.1.1 (HX.out.2.2.1.2.1.keep HB.out) (Nat.le_trans HX.out.2.2.1.2.2 (by decide))).mono ?_; rintro e w4 ⟨A4, c4, rfl, ho1, hb4⟩; have R4 := HR.out.keep hb4; have f1 := R4.fz 1; have g1 : w4.cell? ⟨w.heap.size, 1, none⟩ = some (.slice A1 l1 c1) := R4.cell 1; obtain ⟨w5, hw5⟩ : ∃ w5, w4.setCell ⟨w.heap.size, 1, none⟩ (.slice A4 l1 c4) = w5 := ⟨_, rfl⟩; have R5 : Row w5 w.heap.size (cSn ch (.slice A4 l1 c4) s.state s.cur q (.slice A3 l3 c3)) 91 := (by rw [← hw5, ← cSn_set1 ch (.slice A1 l1 c1)]; exact R4.set 1 _); have s5 : w5.heap.size = w4.heap.size := (by rw [← hw5]; simp [World.setCell]); have hne := fun k hk => (ho1.lts (k := k) hk).1; have hB4 := Below.step HB.out hb4; have ho5 : Own w5 (w.heap.size + 1) 86 33 cA (.slice A4 l1 c4) s.wait := (Own.same (w' := w5) ho1 (fun k hk => by rw [← hw5]; exact heap_set_other w4 _ 1 _ k (by have := hne k hk; simp at this; omega))).mono (by simp); have hB5 : Below w.heap.size w w5 := (by rw [← hw5]; exact Below.setCell' hB4 (Nat.le_refl _) 1 _); have k37 := (HX.out.1.keep hB5).c37; have H5 := Lib.hid (And.intro R5 (And.intro ho5 hB5)); clear ho1 hb4 R4 R5 s5 hne hB4 ho5 hB5; have T1 : True := trivial)
    | (have hh := T1; clear hh T1; go_at_call 50; refine (clone50 A3 l3 c3 s.outs _ HX.out.2.2.2.1 (HX.out.2.2.2.2.1.keep H5.out.2.2) HX.out.2.2.2.2.2).mono ?_; rintro e w6 ⟨A6, c6, rfl, ho2, hb6⟩; have R6 := H5.out.1.keep hb6; have f37 := R6.fz 37; have g37 : w6.cell? ⟨w.heap.size, 37, none⟩ = some (.slice A3 l3 c3) := (R6.cell 37).trans (cSn_hi _ _ _ _ _ _ 2); obtain ⟨w7, hw7⟩ : ∃ w7, w6.setCell ⟨w.heap.size, 37, none⟩ (.slice A6 l3 c6) = w7 := ⟨_, rfl⟩; have R7 : Row w7 w.heap.size (cSn ch (.slice A4 l1 c4) s.state s.cur q (.slice A6 l3 c6)) 91 := (by rw [← hw7, ← cSn_set37 ch _ _ _ _ (.slice A3 l3 c3)]; exact R6.set 37 _); have b5 : w.heap.size < w5.heap.size := H5.out.1.lt; have hne := fun k hk => (ho2.lts (k := k) hk).1; have ho7 : Own w7 w5.heap.size 68 34 cO (.slice A6 l3 c6) s.outs := Own.same (w' := w7) ho2 (fun k hk => by rw [← hw7]; exact heap_set_other w6 _ 37 _ k (by have := hne k hk; omega)); have ho8 : Own w7 (w.heap.size + 1) 86 33 cA (.slice A4 l1 c4) s.wait := Own.same (w' := w7) (H5.out.2.1.keep hb6) (fun k hk => by rw [← hw7]; exact heap_set_other w6 _ 37 _ k (by have := (H5.out.2.1.lt k hk).1; omega)); have hlo := fun k hk => (H5.out.2.1.lts (k := k) hk).2; have hB7 : Below w.heap.size w w7 := (by rw [← hw7]; exact Below.setCell' (Below.step H5.out.2.2 hb6) (Nat.le_refl _) 37 _); have k36 := (HX.out.1.keep hB7).c36; rw [HQV.out] at k36; have H7 := Lib.hid (And.intro R7 (And.intro ho8 (And.intro ho7 (And.intro hB7 (And.intro b5 hlo))))); clear ho2 hb6 R6 R7 b5 hne ho7 ho8 hlo hB7; have T2 : True := trivial))
  clear k36 k37 k1 g1 g37 f1 f37
  obtain ⟨b3, hb3⟩ : ∃ b3, b3 = w.heap.size := ⟨_, rfl⟩
  rw [← hb3]
  have HB3 := Lib.hid hb3
  clear hb3 hw5 hw7 o1 o2 hlt
  refine AnyO.wp_anyI (by kernel_rfl) (by kernel_rfl) (AnyO.InvG (σ := Nat) (fun σ => AnyO.pvL [some (.pointer (some ⟨b, 0, none⟩)), some (.pointer (some ⟨b, 0, none⟩)), some (.pointer (some ⟨b, 3, none⟩)), some (.pointer (some ⟨b, 3, none⟩)), some (.pointer (some ⟨b, 3, none⟩)), some (vI xi), some (.pointer (some ⟨b, 0, none⟩)), some (.pointer (some ⟨b, 0, none⟩)), some (.pointer (some ⟨b, 3, none⟩)), some (.pointer (some ⟨b, 3, none⟩)), some (.pointer (some ⟨b, 35, none⟩)), some (.string tt), some (.pointer (some ⟨b, 0, none⟩)), some (.pointer (some ⟨b, 0, none⟩)), some (.pointer (some ⟨b, 0, none⟩)), some (.int .i64 ch), some (.pointer (some ⟨b, 0, none⟩)), some (.pointer (some ⟨b, 0, none⟩)), some (.pointer (some ⟨b, 3, none⟩)), some (.pointer (some ⟨b, 36, none⟩)), some (.pointer (some ⟨g0, 0, none⟩)), some (.int .i64 sent), some (.tuple #[.pointer (some ⟨σ, 0, none⟩), .int .i64 0]), some (.tuple #[.pointer (some ⟨σ, 0, none⟩), .int .i64 0]), some (.pointer (some ⟨σ, 0, none⟩)), some (.int .i64 0), some (.pointer (some ⟨σ, 0, none⟩)), some (.int .i64 0)]) (fun (σ : Nat) D u => Below w7.heap.size w7 u ∧ (D 22 = true → w7.heap.size ≤ σ ∧ Row u σ (cT (xi, tt) ch sent false) 120))) (AnyO.InvG.start (g := 0) (⟨(Below.refl _ _).drew, fun h => by cases h⟩)) ?_ ?_
  · intro i hi
    have hi2 : i = 0 ∨ i = 1 ∨ i = 2 ∨ i = 3 ∨ i = 4 ∨ i = 5 ∨ i = 6 ∨ i = 7 ∨ i = 8 ∨ i = 9 ∨ i = 10 ∨ i = 11 ∨ i = 12 ∨ i = 13 ∨ i = 14 ∨ i = 15 ∨ i = 16 ∨ i = 17 ∨ i = 18 ∨ i = 19 ∨ i = 20 ∨ i = 21 ∨ i = 22 ∨ i = 23 ∨ i = 24 ∨ i = 25 ∨ i = 26 ∨ i = 27 := by simp only [List.size_toArray, List.length_cons, List.length_nil] at hi; omega
    clear hi
    rcases hi2 with rfl | rfl | rfl | rfl | rfl | rfl | rfl | rfl | rfl | rfl | rfl | rfl | rfl | rfl | rfl | rfl | rfl | rfl | rfl | rfl | rfl | rfl | rfl | rfl | rfl | rfl | rfl | rfl
    · -- 0: Op.move (Operand.tmp 0)
      refine AnyO.StepI.mk rfl [] (by kernel_rfl) ?_
      intro D vs u hI h0 hC hp ac hb K hK
      obtain ⟨σ, hP, hW⟩ := hI
      have s0 : ac.tmps[0]?.getD undef = .pointer (some ⟨b, 0, none⟩) := by rw [hb]; kernel_rfl
      rw [if_pos (AnyO.wanted_none rfl)]
      clear hb hp
      clear hC
      clear h0
      have HP := Lib.hid hP
      have HWq := Lib.hid hW
      clear hP hW
      go_simp
      have hP := HP.out
      have hW := HWq.out
      clear HP HWq
      exact hK _ _ (AnyO.InvG.step (g := σ) hP rfl hW)
    · -- 1: Op.nilCheck (Operand.tmp 30)
      refine AnyO.StepI.mk rfl [0] (by kernel_rfl) ?_
      intro D vs u hI h0 hC hp ac hb K hK
      obtain ⟨σ, hP, hW⟩ := hI
      have s30 : ac.tmps[30]?.getD undef = .pointer (some ⟨b, 0, none⟩) := by rw [hb]; exact (show _ = vs 0 by kernel_rfl).trans (show vs 0 = .pointer (some ⟨b, 0, none⟩) from hP 0 (hp 0 (by decide)))
      rw [if_pos (AnyO.wanted_none rfl)]
      clear hb hp
      clear hC
      clear h0
      have HP := Lib.hid hP
      have HWq := Lib.hid hW
      clear hP hW
      go_simp
      have hP := HP.out
      have hW := HWq.out
      clear HP HWq
      exact hK _ _ (AnyO.InvG.step (g := σ) hP rfl hW)
    · -- 2: Op.fieldAddr 91 (Operand.tmp 31) 3
      refine AnyO.StepI.mk rfl [1] (by kernel_rfl) ?_
      intro D vs u hI h0 hC hp ac hb K hK
      obtain ⟨σ, hP, hW⟩ := hI
      have s31 : ac.tmps[31]?.getD undef = .pointer (some ⟨b, 0, none⟩) := by rw [hb]; exact (show _ = vs 1 by kernel_rfl).trans (show vs 1 = .pointer (some ⟨b, 0, none⟩) from hP 1 (hp 1 (by decide)))
      rw [if_pos (AnyO.wanted_none rfl)]
      clear hb hp
      clear hC
      clear h0
      have HP := Lib.hid hP
      have HWq := Lib.hid hW
      clear hP hW
      go_simp
      have hP := HP.out
      have hW := HWq.out
      clear HP HWq
      exact hK _ _ (AnyO.InvG.step (g := σ) hP rfl hW)
    · -- 3: Op.fieldAddr 89 (Operand.tmp 32) 0
      refine AnyO.StepI.mk rfl [2] (by kernel_rfl) ?_
      intro D vs u hI h0 hC hp ac hb K hK
      obtain ⟨σ, hP, hW⟩ := hI
      have s32 : ac.tmps[32]?.getD undef = .pointer (some ⟨b, 3, none⟩) := by rw [hb]; exact (show _ = vs 2 by kernel_rfl).trans (show vs 2 = .pointer (some ⟨b, 3, none⟩) from hP 2 (hp 2 (by decide)))
      rw [if_pos (AnyO.wanted_none rfl)]
      clear hb hp
      clear hC
      clear h0
      have HP := Lib.hid hP
      have HWq := Lib.hid hW
      clear hP hW
      go_simp
      have hP := HP.out
      have hW := HWq.out
      clear HP HWq
      exact hK _ _ (AnyO.InvG.step (g := σ) hP rfl hW)
    · -- 4: Op.fieldAddr 86 (Operand.tmp 33) 0
      refine AnyO.StepI.mk rfl [3] (by kernel_rfl) ?_
      intro D vs u hI h0 hC hp ac hb K hK
      obtain ⟨σ, hP, hW⟩ := hI
      have s33 : ac.tmps[33]?.getD undef = .pointer (some ⟨b, 3, none⟩) := by rw [hb]; exact (show _ = vs 3 by kernel_rfl).trans (show vs 3 = .pointer (some ⟨b, 3, none⟩) from hP 3 (hp 3 (by decide)))
      rw [if_pos (AnyO.wanted_none rfl)]
      clear hb hp
      clear hC
      clear h0
      have HP := Lib.hid hP
      have HWq := Lib.hid hW
      clear hP hW
      go_simp
      have hP := HP.out
      have hW := HWq.out
      clear HP HWq
      exact hK _ _ (AnyO.InvG.step (g := σ) hP rfl hW)
    · -- 5: Op.load 40 (Operand.tmp 34)
      refine AnyO.StepI.mk rfl [4] (by kernel_rfl) ?_
      intro D vs u hI h0 hC hp ac hb K hK
      obtain ⟨σ, hP, hW⟩ := hI
      have s34 : ac.tmps[34]?.getD undef = .pointer (some ⟨b, 3, none⟩) := by rw [hb]; exact (show _ = vs 4 by kernel_rfl).trans (show vs 4 = .pointer (some ⟨b, 3, none⟩) from hP 4 (hp 4 (by decide)))
      rw [if_pos (AnyO.wanted_none rfl)]
      clear hb hp
      obtain ⟨rr1, rr2⟩ := (HX.out.1.keep (Below.step H7.out.2.2.2.1 hW.1)).id
      rw [HC.out.1] at rr2
      clear hC
      clear h0
      have HP := Lib.hid hP
      have HWq := Lib.hid hW
      clear hP hW
      go_simp
      have hP := HP.out
      have hW := HWq.out
      clear HP HWq
      exact hK _ _ (AnyO.InvG.step (g := σ) hP rfl hW)
    · -- 6: Op.move (Operand.tmp 0)
      refine AnyO.StepI.mk rfl [] (by kernel_rfl) ?_
      intro D vs u hI h0 hC hp ac hb K hK
      obtain ⟨σ, hP, hW⟩ := hI
      have s0 : ac.tmps[0]?.getD undef = .pointer (some ⟨b, 0, none⟩) := by rw [hb]; kernel_rfl
      rw [if_pos (AnyO.wanted_none rfl)]
      clear hb hp
      clear hC
      clear h0
      have HP := Lib.hid hP
      have HWq := Lib.hid hW
      clear hP hW
      go_simp
      have hP := HP.out
      have hW := HWq.out
      clear HP HWq
      exact hK _ _ (AnyO.InvG.step (g := σ) hP rfl hW)
    · -- 7: Op.nilCheck (Operand.tmp 36)
      refine AnyO.StepI.mk rfl [6] (by kernel_rfl) ?_
      intro D vs u hI h0 hC hp ac hb K hK
      obtain ⟨σ, hP, hW⟩ := hI
      have s36 : ac.tmps[36]?.getD undef = .pointer (some ⟨b, 0, none⟩) := by rw [hb]; exact (show _ = vs 6 by kernel_rfl).trans (show vs 6 = .pointer (some ⟨b, 0, none⟩) from hP 6 (hp 6 (by decide)))
      rw [if_pos (AnyO.wanted_none rfl)]
      clear hb hp
      clear hC
      clear h0
      have HP := Lib.hid hP
      have HWq := Lib.hid hW
      clear hP hW
      go_simp
      have hP := HP.out
      have hW := HWq.out
      clear HP HWq
      exact hK _ _ (AnyO.InvG.step (g := σ) hP rfl hW)
    · -- 8: Op.fieldAddr 91 (Operand.tmp 37) 3
      refine AnyO.StepI.mk rfl [7] (by kernel_rfl) ?_
      intro D vs u hI h0 hC hp ac hb K hK
      obtain ⟨σ, hP, hW⟩ := hI
      have s37 : ac.tmps[37]?.getD undef = .pointer (some ⟨b, 0, none⟩) := by rw [hb]; exact (show _ = vs 7 by kernel_rfl).trans (show vs 7 = .pointer (some ⟨b, 0, none⟩) from hP 7 (hp 7 (by decide)))
      rw [if_pos (AnyO.wanted_none rfl)]
      clear hb hp
      clear hC
      clear h0
      have HP := Lib.hid hP
      have HWq := Lib.hid hW
      clear hP hW
      go_simp
      have hP := HP.out
      have hW := HWq.out
      clear HP HWq
      exact hK _ _ (AnyO.InvG.step (g := σ) hP rfl hW)
    · -- 9: Op.fieldAddr 89 (Operand.tmp 38) 0
      refine AnyO.StepI.mk rfl [8] (by kernel_rfl) ?_
      intro D vs u hI h0 hC hp ac hb K hK
      obtain ⟨σ, hP, hW⟩ := hI
      have s38 : ac.tmps[38]?.getD undef = .pointer (some ⟨b, 3, none⟩) := by rw [hb]; exact (show _ = vs 8 by kernel_rfl).trans (show vs 8 = .pointer (some ⟨b, 3, none⟩) from hP 8 (hp 8 (by decide)))
      rw [if_pos (AnyO.wanted_none rfl)]
      clear hb hp
      clear hC
      clear h0
      have HP := Lib.hid hP
      have HWq := Lib.hid hW
      clear hP hW
      go_simp
      have hP := HP.out
      have hW := HWq.out
      clear HP HWq
      exact hK _ _ (AnyO.InvG.step (g := σ) hP rfl hW)
    · -- 10: Op.fieldAddr 86 (Operand.tmp 39) 1
      refine AnyO.StepI.mk rfl [9] (by kernel_rfl) ?_
      intro D vs u hI h0 hC hp ac hb K hK
      obtain ⟨σ, hP, hW⟩ := hI
      have s39 : ac.tmps[39]?.getD undef = .pointer (some ⟨b, 3, none⟩) := by rw [hb]; exact (show _ = vs 9 by kernel_rfl).trans (show vs 9 = .pointer (some ⟨b, 3, none⟩) from hP 9 (hp 9 (by decide)))
      rw [if_pos (AnyO.wanted_none rfl)]
      clear hb hp
      clear hC
      clear h0
      have HP := Lib.hid hP
      have HWq := Lib.hid hW
      clear hP hW
      go_simp
      have hP := HP.out
      have hW := HWq.out
      clear HP HWq
      exact hK _ _ (AnyO.InvG.step (g := σ) hP rfl hW)
    · -- 11: Op.load 9 (Operand.tmp 40)
      refine AnyO.StepI.mk rfl [10] (by kernel_rfl) ?_
      intro D vs u hI h0 hC hp ac hb K hK
      obtain ⟨σ, hP, hW⟩ := hI
      have s40 : ac.tmps[40]?.getD undef = .pointer (some ⟨b, 35, none⟩) := by rw [hb]; exact (show _ = vs 10 by kernel_rfl).trans (show vs 10 = .pointer (some ⟨b, 35, none⟩) from hP 10 (hp 10 (by decide)))
      rw [if_pos (AnyO.wanted_none rfl)]
      clear hb hp
      have rr := (HX.out.1.keep (Below.step H7.out.2.2.2.1 hW.1)).c35
      rw [HC.out.2] at rr
      clear hC
      clear h0
      have HP := Lib.hid hP
      have HWq := Lib.hid hW
      clear hP hW
      go_simp
      have hP := HP.out
      have hW := HWq.out
      clear HP HWq
      exact hK _ _ (AnyO.InvG.step (g := σ) hP rfl hW)
    · -- 12: Op.move (Operand.tmp 0)
      refine AnyO.StepI.mk rfl [] (by kernel_rfl) ?_
      intro D vs u hI h0 hC hp ac hb K hK
      obtain ⟨σ, hP, hW⟩ := hI
      have s0 : ac.tmps[0]?.getD undef = .pointer (some ⟨b, 0, none⟩) := by rw [hb]; kernel_rfl
      rw [if_pos (AnyO.wanted_none rfl)]
      clear hb hp
      clear hC
      clear h0
      have HP := Lib.hid hP
      have HWq := Lib.hid hW
      clear hP hW
      go_simp
      have hP := HP.out
      have hW := HWq.out
      clear HP HWq
      exact hK _ _ (AnyO.InvG.step (g := σ) hP rfl hW)
    · -- 13: Op.nilCheck (Operand.tmp 42)
      refine AnyO.StepI.mk rfl [12] (by kernel_rfl) ?_
      intro D vs u hI h0 hC hp ac hb K hK
      obtain ⟨σ, hP, hW⟩ := hI
      have s42 : ac.tmps[42]?.getD undef = .pointer (some ⟨b, 0, none⟩) := by rw [hb]; exact (show _ = vs 12 by kernel_rfl).trans (show vs 12 = .pointer (some ⟨b, 0, none⟩) from hP 12 (hp 12 (by decide)))
      rw [if_pos (AnyO.wanted_none rfl)]
      clear hb hp
      clear hC
      clear h0
      have HP := Lib.hid hP
      have HWq := Lib.hid hW
      clear hP hW
      go_simp
      have hP := HP.out
      have hW := HWq.out
      clear HP HWq
      exact hK _ _ (AnyO.InvG.step (g := σ) hP rfl hW)
    · -- 14: Op.fieldAddr 91 (Operand.tmp 43) 0
      refine AnyO.StepI.mk rfl [13] (by kernel_rfl) ?_
      intro D vs u hI h0 hC hp ac hb K hK
      obtain ⟨σ, hP, hW⟩ := hI
      have s43 : ac.tmps[43]?.getD undef = .pointer (some ⟨b, 0, none⟩) := by rw [hb]; exact (show _ = vs 13 by kernel_rfl).trans (show vs 13 = .pointer (some ⟨b, 0, none⟩) from hP 13 (hp 13 (by decide)))
      rw [if_pos (AnyO.wanted_none rfl)]
      clear hb hp
      clear hC
      clear h0
      have HP := Lib.hid hP
      have HWq := Lib.hid hW
      clear hP hW
      go_simp
      have hP := HP.out
      have hW := HWq.out
      clear HP HWq
      exact hK _ _ (AnyO.InvG.step (g := σ) hP rfl hW)
    · -- 15: Op.load 3 (Operand.tmp 44)
      refine AnyO.StepI.mk rfl [14] (by kernel_rfl) ?_
      intro D vs u hI h0 hC hp ac hb K hK
      obtain ⟨σ, hP, hW⟩ := hI
      have s44 : ac.tmps[44]?.getD undef = .pointer (some ⟨b, 0, none⟩) := by rw [hb]; exact (show _ = vs 14 by kernel_rfl).trans (show vs 14 = .pointer (some ⟨b, 0, none⟩) from hP 14 (hp 14 (by decide)))
      rw [if_pos (AnyO.wanted_none rfl)]
      clear hb hp
      have rr := (HX.out.1.keep (Below.step H7.out.2.2.2.1 hW.1)).c0
      clear hC
      clear h0
      have HP := Lib.hid hP
      have HWq := Lib.hid hW
      clear hP hW
      go_simp
      have hP := HP.out
      have hW := HWq.out
      clear HP HWq
      exact hK _ _ (AnyO.InvG.step (g := σ) hP rfl hW)
    · -- 16: Op.move (Operand.tmp 0)
      refine AnyO.StepI.mk rfl [] (by kernel_rfl) ?_
      intro D vs u hI h0 hC hp ac hb K hK
      obtain ⟨σ, hP, hW⟩ := hI
      have s0 : ac.tmps[0]?.getD undef = .pointer (some ⟨b, 0, none⟩) := by rw [hb]; kernel_rfl
      rw [if_pos (AnyO.wanted_none rfl)]
      clear hb hp
      clear hC
      clear h0
      have HP := Lib.hid hP
      have HWq := Lib.hid hW
      clear hP hW
      go_simp
      have hP := HP.out
      have hW := HWq.out
      clear HP HWq
      exact hK _ _ (AnyO.InvG.step (g := σ) hP rfl hW)
    · -- 17: Op.nilCheck (Operand.tmp 46)
      refine AnyO.StepI.mk rfl [16] (by kernel_rfl) ?_
      intro D vs u hI h0 hC hp ac hb K hK
      obtain ⟨σ, hP, hW⟩ := hI
      have s46 : ac.tmps[46]?.getD undef = .pointer (some ⟨b, 0, none⟩) := by rw [hb]; exact (show _ = vs 16 by kernel_rfl).trans (show vs 16 = .pointer (some ⟨b, 0, none⟩) from hP 16 (hp 16 (by decide)))
      rw [if_pos (AnyO.wanted_none rfl)]
      clear hb hp
      clear hC
      clear h0
      have HP := Lib.hid hP
      have HWq := Lib.hid hW
      clear hP hW
      go_simp
      have hP := HP.out
      have hW := HWq.out
      clear HP HWq
      exact hK _ _ (AnyO.InvG.step (g := σ) hP rfl hW)
    · -- 18: Op.fieldAddr 91 (Operand.tmp 47) 3
      refine AnyO.StepI.mk rfl [17] (by kernel_rfl) ?_
      intro D vs u hI h0 hC hp ac hb K hK
      obtain ⟨σ, hP, hW⟩ := hI
      have s47 : ac.tmps[47]?.getD undef = .pointer (some ⟨b, 0, none⟩) := by rw [hb]; exact (show _ = vs 17 by kernel_rfl).trans (show vs 17 = .pointer (some ⟨b, 0, none⟩) from hP 17 (hp 17 (by decide)))
      rw [if_pos (AnyO.wanted_none rfl)]
      clear hb hp
      clear hC
      clear h0
      have HP := Lib.hid hP
      have HWq := Lib.hid hW
      clear hP hW
      go_simp
      have hP := HP.out
      have hW := HWq.out
      clear HP HWq
      exact hK _ _ (AnyO.InvG.step (g := σ) hP rfl hW)
    · -- 19: Op.fieldAddr 89 (Operand.tmp 48) 1
      refine AnyO.StepI.mk rfl [18] (by kernel_rfl) ?_
      intro D vs u hI h0 hC hp ac hb K hK
      obtain ⟨σ, hP, hW⟩ := hI
      have s48 : ac.tmps[48]?.getD undef = .pointer (some ⟨b, 3, none⟩) := by rw [hb]; exact (show _ = vs 18 by kernel_rfl).trans (show vs 18 = .pointer (some ⟨b, 3, none⟩) from hP 18 (hp 18 (by decide)))
      rw [if_pos (AnyO.wanted_none rfl)]
      clear hb hp
      clear hC
      clear h0
      have HP := Lib.hid hP
      have HWq := Lib.hid hW
      clear hP hW
      go_simp
      have hP := HP.out
      have hW := HWq.out
      clear HP HWq
      exact hK _ _ (AnyO.InvG.step (g := σ) hP rfl hW)
    · -- 20: Op.load 87 (Operand.tmp 49)
      refine AnyO.StepI.mk rfl [19] (by kernel_rfl) ?_
      intro D vs u hI h0 hC hp ac hb K hK
      obtain ⟨σ, hP, hW⟩ := hI
      have s49 : ac.tmps[49]?.getD undef = .pointer (some ⟨b, 36, none⟩) := by rw [hb]; exact (show _ = vs 19 by kernel_rfl).trans (show vs 19 = .pointer (some ⟨b, 36, none⟩) from hP 19 (hp 19 (by decide)))
      rw [if_pos (AnyO.wanted_none rfl)]
      clear hb hp
      have rr := (HX.out.1.keep (Below.step H7.out.2.2.2.1 hW.1)).c36
      rw [HQV.out] at rr
      clear hC
      clear h0
      have HP := Lib.hid hP
      have HWq := Lib.hid hW
      clear hP hW
      go_simp
      have hP := HP.out
      have hW := HWq.out
      clear HP HWq
      exact hK _ _ (AnyO.InvG.step (g := σ) hP rfl hW)
    · -- 21: Op.call { callee := Callee.value (Operand.func 47), args := 
      refine AnyO.StepI.mk rfl [20] (by kernel_rfl) ?_
      intro D vs u hI h0 hC hp ac hb K hK
      obtain ⟨σ, hP, hW⟩ := hI
      have s50 : ac.tmps[50]?.getD undef = .pointer (some ⟨g0, 0, none⟩) := by rw [hb]; exact (show _ = vs 20 by kernel_rfl).trans (show vs 20 = .pointer (some ⟨g0, 0, none⟩) from hP 20 (hp 20 (by decide)))
      rw [if_pos (AnyO.wanted_none rfl)]
      clear hb hp
      clear hC
      clear h0
      have HP := Lib.hid hP
      have HWq := Lib.hid hW
      clear hP hW
      go_simp
      have hP := HP.out
      have hW := HWq.out
      clear HP HWq
      go_at_call 47
      refine (sent47 g0 s.cur ch sent en u (HSN.out.2.keep (Below.step H7.out.2.2.2.1 hW.1))).mono ?_
      rintro e w2 ⟨rfl, rfl⟩
      exact hK _ _ (AnyO.InvG.step (g := σ) hP rfl hW)
    · -- 22: Op.call { callee := Callee.value (Operand.func 51), args := 
      refine AnyO.StepI.mk rfl [5, 11, 15, 21, 21] (by kernel_rfl) ?_
      intro D vs u hI h0 hC hp ac hb K hK
      obtain ⟨σ, hP, hW⟩ := hI
      have s35 : ac.tmps[35]?.getD undef = vI xi := by rw [hb]; exact (show _ = vs 5 by kernel_rfl).trans (show vs 5 = vI xi from hP 5 (hp 5 (by decide)))
      have s41 : ac.tmps[41]?.getD undef = .string tt := by rw [hb]; exact (show _ = vs 11 by kernel_rfl).trans (show vs 11 = .string tt from hP 11 (hp 11 (by decide)))
      have s45 : ac.tmps[45]?.getD undef = .int .i64 ch := by rw [hb]; exact (show _ = vs 15 by kernel_rfl).trans (show vs 15 = .int .i64 ch from hP 15 (hp 15 (by decide)))
      have s51 : ac.tmps[51]?.getD undef = .int .i64 sent := by rw [hb]; exact (show _ = vs 21 by kernel_rfl).trans (show vs 21 = .int .i64 sent from hP 21 (hp 21 (by decide)))
      rw [if_pos (AnyO.wanted_none rfl)]
      clear hb hp
      have hf23 : D 23 = false := by
        rcases hd : D 23 with _ | _
        · rfl
        · have hz := hC 23 hd 22 (by rw [show AnyO.pre _ 23 = [22] from by kernel_rfl]; decide)
          rw [h0] at hz
          cases hz
      have hf24 : D 24 = false := by
        rcases hd : D 24 with _ | _
        · rfl
        · have hz := hC 24 hd 23 (by rw [show AnyO.pre _ 24 = [23] from by kernel_rfl]; decide)
          rw [hf23] at hz
          cases hz
      have hf25 : D 25 = false := by
        rcases hd : D 25 with _ | _
        · rfl
        · have hz := hC 25 hd 23 (by rw [show AnyO.pre _ 25 = [23] from by kernel_rfl]; decide)
          rw [hf23] at hz
          cases hz
      have hf26 : D 26 = false := by
        rcases hd : D 26 with _ | _
        · rfl
        · have hz := hC 26 hd 24 (by rw [show AnyO.pre _ 26 = [24, 22, 0, 1, 2, 3, 4, 5, 6, 7, 8, 9, 10, 11, 12, 13, 14, 15, 16, 17, 18, 19, 20, 21, 22, 23, 24] from by kernel_rfl]; decide)
          rw [hf24] at hz
          cases hz
      have hf27 : D 27 = false := by
        rcases hd : D 27 with _ | _
        · rfl
        · have hz := hC 27 hd 25 (by rw [show AnyO.pre _ 27 = [25, 26, 0, 1, 2, 3, 4, 5, 6, 7, 8, 9, 10, 11, 12, 13, 14, 15, 16, 17, 18, 19, 20, 21, 22, 23, 24, 25, 26] from by kernel_rfl]; decide)
          rw [hf25] at hz
          cases hz
      clear hC
      have HP := Lib.hid hP
      have HWq := Lib.hid hW
      clear hP hW
      go_simp
      have hP := HP.out
      have hW := HWq.out
      clear HP HWq
      go_at_call 51
      refine (new51 xi tt ch sent u (by have := HT.out.1.2.2.1; rw [HC.out.2] at this; exact this) HX.out.2.1.c1 HX.out.2.1.c2 HT.out.2.1 (by have := HT.out.2.2.1; rw [HC.out.2] at this; exact this)).mono ?_
      rintro e w2 ⟨g9, rfl, hg9, hr9, hb9⟩
      refine hK _ _ (AnyO.InvG.ghost (g := σ) g9 hP ?_ rfl ?_)
      · intro j hj hq
        rcases j with _ | _ | _ | _ | _ | _ | _ | _ | _ | _ | _ | _ | _ | _ | _ | _ | _ | _ | _ | _ | _ | _ | _ | _ | _ | _ | _ | _ | j
        · exact hq
        · exact hq
        · exact hq
        · exact hq
        · exact hq
        · exact hq
        · exact hq
        · exact hq
        · exact hq
        · exact hq
        · exact hq
        · exact hq
        · exact hq
        · exact hq
        · exact hq
        · exact hq
        · exact hq
        · exact hq
        · exact hq
        · exact hq
        · exact hq
        · exact hq
        · exact absurd (show D 22 = true from hj) (by rw [h0]; decide)
        · exact absurd (show D 23 = true from hj) (by rw [hf23]; decide)
        · exact absurd (show D 24 = true from hj) (by rw [hf24]; decide)
        · exact absurd (show D 25 = true from hj) (by rw [hf25]; decide)
        · exact absurd (show D 26 = true from hj) (by rw [hf26]; decide)
        · exact absurd (show D 27 = true from hj) (by rw [hf27]; decide)
        · exact hq
      · exact ⟨Below.step hW.1 hb9, fun _ => ⟨Nat.le_trans hW.1.size hg9, hr9⟩⟩
    · -- 23: Op.move (Operand.tmp 52)
      refine AnyO.StepI.mk rfl [22] (by kernel_rfl) ?_
      intro D vs u hI h0 hC hp ac hb K hK
      obtain ⟨σ, hP, hW⟩ := hI
      have s52 : ac.tmps[52]?.getD undef = .tuple #[.pointer (some ⟨σ, 0, none⟩), .int .i64 0] := by rw [hb]; exact (show _ = vs 22 by kernel_rfl).trans (show vs 22 = .tuple #[.pointer (some ⟨σ, 0, none⟩), .int .i64 0] from hP 22 (hp 22 (by decide)))
      rw [if_pos (AnyO.wanted_none rfl)]
      clear hb hp
      clear hC
      clear h0
      have HP := Lib.hid hP
      have HWq := Lib.hid hW
      clear hP hW
      go_simp
      have hP := HP.out
      have hW := HWq.out
      clear HP HWq
      exact hK _ _ (AnyO.InvG.step (g := σ) hP rfl hW)
    · -- 24: Op.extract (Operand.tmp 29) 0
      refine AnyO.StepI.mk rfl [23] (by kernel_rfl) ?_
      intro D vs u hI h0 hC hp ac hb K hK
      obtain ⟨σ, hP, hW⟩ := hI
      have s29 : ac.tmps[29]?.getD undef = .tuple #[.pointer (some ⟨σ, 0, none⟩), .int .i64 0] := by rw [hb]; exact (show _ = vs 23 by kernel_rfl).trans (show vs 23 = .tuple #[.pointer (some ⟨σ, 0, none⟩), .int .i64 0] from hP 23 (hp 23 (by decide)))
      rw [if_pos (AnyO.wanted_none rfl)]
      clear hb hp
      clear hC
      clear h0
      have HP := Lib.hid hP
      have HWq := Lib.hid hW
      clear hP hW
      go_simp
      have hP := HP.out
      have hW := HWq.out
      clear HP HWq
      exact hK _ _ (AnyO.InvG.step (g := σ) hP rfl hW)
    · -- 25: Op.extract (Operand.tmp 29) 1
      refine AnyO.StepI.mk rfl [23] (by kernel_rfl) ?_
      intro D vs u hI h0 hC hp ac hb K hK
      obtain ⟨σ, hP, hW⟩ := hI
      have s29 : ac.tmps[29]?.getD undef = .tuple #[.pointer (some ⟨σ, 0, none⟩), .int .i64 0] := by rw [hb]; exact (show _ = vs 23 by kernel_rfl).trans (show vs 23 = .tuple #[.pointer (some ⟨σ, 0, none⟩), .int .i64 0] from hP 23 (hp 23 (by decide)))
      rw [if_pos (AnyO.wanted_none rfl)]
      clear hb hp
      clear hC
      clear h0
      have HP := Lib.hid hP
      have HWq := Lib.hid hW
      clear hP hW
      go_simp
      have hP := HP.out
      have hW := HWq.out
      clear HP HWq
      exact hK _ _ (AnyO.InvG.step (g := σ) hP rfl hW)
    · -- 26: Op.assign (Operand.tmp 53)
      refine AnyO.StepI.mk rfl [24, 22, 0, 1, 2, 3, 4, 5, 6, 7, 8, 9, 10, 11, 12, 13, 14, 15, 16, 17, 18, 19, 20, 21, 22, 23, 24] (by kernel_rfl) ?_
      intro D vs u hI h0 hC hp ac hb K hK
      obtain ⟨σ, hP, hW⟩ := hI
      have s53 : ac.tmps[53]?.getD undef = .pointer (some ⟨σ, 0, none⟩) := by rw [hb]; exact (show _ = vs 24 by kernel_rfl).trans (show vs 24 = .pointer (some ⟨σ, 0, none⟩) from hP 24 (hp 24 (by decide)))
      rw [if_pos (AnyO.wanted_none rfl)]
      clear hb hp
      clear hC
      clear h0
      have HP := Lib.hid hP
      have HWq := Lib.hid hW
      clear hP hW
      go_simp
      have hP := HP.out
      have hW := HWq.out
      clear HP HWq
      exact hK _ _ (AnyO.InvG.step (g := σ) hP rfl hW)
    · -- 27: Op.assign (Operand.tmp 54)
      refine AnyO.StepI.mk rfl [25, 26, 0, 1, 2, 3, 4, 5, 6, 7, 8, 9, 10, 11, 12, 13, 14, 15, 16, 17, 18, 19, 20, 21, 22, 23, 24, 25, 26] (by kernel_rfl) ?_
      intro D vs u hI h0 hC hp ac hb K hK
      obtain ⟨σ, hP, hW⟩ := hI
      have s54 : ac.tmps[54]?.getD undef = .int .i64 0 := by rw [hb]; exact (show _ = vs 25 by kernel_rfl).trans (show vs 25 = .int .i64 0 from hP 25 (hp 25 (by decide)))
      rw [if_pos (AnyO.wanted_none rfl)]
      clear hb hp
      clear hC
      clear h0
      have HP := Lib.hid hP
      have HWq := Lib.hid hW
      clear hP hW
      go_simp
      have hP := HP.out
      have hW := HWq.out
      clear HP HWq
      exact hK _ _ (AnyO.InvG.step (g := σ) hP rfl hW)
  · intro D vs u hI hD
    obtain ⟨σ, hP, hW⟩ := hI
    have e0 : vs 0 = .pointer (some ⟨b, 0, none⟩) := hP 0 (hD 0 (by decide))
    have e1 : vs 1 = .pointer (some ⟨b, 0, none⟩) := hP 1 (hD 1 (by decide))
    have e2 : vs 2 = .pointer (some ⟨b, 3, none⟩) := hP 2 (hD 2 (by decide))
    have e3 : vs 3 = .pointer (some ⟨b, 3, none⟩) := hP 3 (hD 3 (by decide))
    have e4 : vs 4 = .pointer (some ⟨b, 3, none⟩) := hP 4 (hD 4 (by decide))
    have e5 : vs 5 = vI xi := hP 5 (hD 5 (by decide))
    have e6 : vs 6 = .pointer (some ⟨b, 0, none⟩) := hP 6 (hD 6 (by decide))
    have e7 : vs 7 = .pointer (some ⟨b, 0, none⟩) := hP 7 (hD 7 (by decide))
    have e8 : vs 8 = .pointer (some ⟨b, 3, none⟩) := hP 8 (hD 8 (by decide))
    have e9 : vs 9 = .pointer (some ⟨b, 3, none⟩) := hP 9 (hD 9 (by decide))
    have e10 : vs 10 = .pointer (some ⟨b, 35, none⟩) := hP 10 (hD 10 (by decide))
    have e11 : vs 11 = .string tt := hP 11 (hD 11 (by decide))
    have e12 : vs 12 = .pointer (some ⟨b, 0, none⟩) := hP 12 (hD 12 (by decide))
    have e13 : vs 13 = .pointer (some ⟨b, 0, none⟩) := hP 13 (hD 13 (by decide))
    have e14 : vs 14 = .pointer (some ⟨b, 0, none⟩) := hP 14 (hD 14 (by decide))
    have e15 : vs 15 = .int .i64 ch := hP 15 (hD 15 (by decide))
    have e16 : vs 16 = .pointer (some ⟨b, 0, none⟩) := hP 16 (hD 16 (by decide))
    have e17 : vs 17 = .pointer (some ⟨b, 0, none⟩) := hP 17 (hD 17 (by decide))
    have e18 : vs 18 = .pointer (some ⟨b, 3, none⟩) := hP 18 (hD 18 (by decide))
    have e19 : vs 19 = .pointer (some ⟨b, 36, none⟩) := hP 19 (hD 19 (by decide))
    have e20 : vs 20 = .pointer (some ⟨g0, 0, none⟩) := hP 20 (hD 20 (by decide))
    have e21 : vs 21 = .int .i64 sent := hP 21 (hD 21 (by decide))
    have e22 : vs 22 = .tuple #[.pointer (some ⟨σ, 0, none⟩), .int .i64 0] := hP 22 (hD 22 (by decide))
    have e23 : vs 23 = .tuple #[.pointer (some ⟨σ, 0, none⟩), .int .i64 0] := hP 23 (hD 23 (by decide))
    have e24 : vs 24 = .pointer (some ⟨σ, 0, none⟩) := hP 24 (hD 24 (by decide))
    have e25 : vs 25 = .int .i64 0 := hP 25 (hD 25 (by decide))
    have e26 : vs 26 = .pointer (some ⟨σ, 0, none⟩) := hP 26 (hD 26 (by decide))
    have e27 : vs 27 = .int .i64 0 := hP 27 (hD 27 (by decide))
    have hz := hW.2 (hD 22 (by decide))
    replace hW := And.intro hW.1 hz
    clear hz
    have HW := Lib.hid hW
    clear hW hP hD
    rw [puts_range [some 30, some 31, some 32, some 33, some 34, some 35, some 36, some 37, some 38, some 39, some 40, some 41, some 42, some 43, some 44, some 45, some 46, some 47, some 48, some 49, some 50, some 51, some 52, some 29, some 53, some 54, some 4, some 5] (by kernel_rfl)]
    simp only [putL, Nat.reduceAdd, e0, e1, e2, e3, e4, e5, e6, e7, e8, e9, e10, e11, e12, e13, e14, e15, e16, e17, e18, e19, e20, e21, e22, e23, e24, e25, e26, e27]
    clear e0 e1 e2 e3 e4 e5 e6 e7 e8 e9 e10 e11 e12 e13 e14 e15 e16 e17 e18 e19 e20 e21 e22 e23 e24 e25 e26 e27
    have Hg := Lib.hid HW.out.2.1
    have b36 := (HX.out.1.keep (Below.step H7.out.2.2.2.1 HW.out.1)).c36
    rw [HQV.out] at b36
    have R8 := Lib.hid (H7.out.1.keep HW.out.1)
    have HO1 := Lib.hid (H7.out.2.1.keep HW.out.1)
    have HO2 := Lib.hid (H7.out.2.2.1.keep HW.out.1)
    have HL2 := Lib.hid (fun k hk => (H7.out.2.2.1.lts (k := k) hk).2)
    have HL1 := Lib.hid (fun k hk => (H7.out.2.1.lts (k := k) hk).2)
    have HBU := Lib.hid (Below.step H7.out.2.2.2.1 HW.out.1)
    have hcu : (xi, tt) = s.cur := by rw [← HC.out.1, ← HC.out.2]
    have HRT := Lib.hid HW.out.2.2
    rw [hcu] at HRT
    have HCU := Lib.hid hcu
    clear hcu
    obtain ⟨g, hg⟩ : ∃ g, g = σ := ⟨_, rfl⟩
    subst hg
    have T3 : True := trivial
    go_simp
    cases en with
    | false =>
      have f36 := R8.out.fz 36
      rw [← HB3.out] at f36
      have g36 : u.cell? ⟨b3, 36, none⟩ = some (.pointer q) := by rw [HB3.out]; exact (R8.out.cell 36).trans (cSn_hi _ _ _ _ _ _ 1)
      rw [HQV.out] at g36
      go_wp2_with (have hh := T3; clear hh T3; go_at_call 52; refine (ended52 g0 s.cur ch sent false u (HSN.out.2.keep HBU.out)).mono ?_; rintro e w8 ⟨rfl, rfl⟩)
      go_ret
      obtain ⟨G, hG, hlo, hBf⟩ := clone_fin (w := w) (t := (sent, false)) R8.out HO1.out HO2.out (Nat.lt_succ_self _) H7.out.2.2.2.2.2 H7.out.2.2.2.2.1 (by have := H7.out.1.lt; have := Hg.out; omega) (fun k hk => Nat.lt_of_lt_of_le (HL1.out k hk) Hg.out) (fun k hk => Nat.lt_of_lt_of_le (HL2.out k hk) Hg.out) HRT.out HSN.out.1 (Nat.le_refl _) HBU.out
      rw [← HB3.out] at hG hBf hlo ⊢
      exact ⟨b3, G, rfl, hG, hlo, hBf⟩
    | true =>
      have hss : sent = (tt.size : Int) := by have := HT.out.2.2.2 rfl; rw [HC.out.2] at this; exact this
      have HSS := Lib.hid hss
      have HRT2 := Lib.hid HW.out.2.2
      clear hss
      have b3g : b3 ≠ g := by rw [HB3.out]; have := H7.out.1.lt; have := Hg.out; omega
      have HNE := Lib.hid b3g
      clear b3g
      go_wp2_with (first
        | (have hh := T3; clear hh T3; go_at_call 52; refine (ended52 g0 s.cur ch sent true u (HSN.out.2.keep HBU.out)).mono ?_; rintro e w8 ⟨rfl, rfl⟩; have T4 : True := trivial)
        | (have hh := T4; clear hh T4; go_at_call 40; refine (say40_done g xi tt ch _ (by rw [← HSS.out]; exact HRT2.out) (by have := HT.out.1.2.2.1; rw [HC.out.2] at this; omega)).mono ?_; rintro e w9 ⟨rfl, hr9, hon⟩; have hR9 : Row w9 b3 (cSn ch (.slice A4 l1 c4) s.state s.cur q (.slice A6 l3 c6)) 91 := (by rw [HB3.out]; exact R8.out.same (hon.out _ R8.out.lt (by rw [← HB3.out]; exact HNE.out))); have f36 := hR9.fz 36; have g36 : w9.cell? ⟨b3, 36, none⟩ = some (.pointer q) := (hR9.cell 36).trans (cSn_hi _ _ _ _ _ _ 1); rw [HQV.out] at g36; have H9 := Lib.hid (And.intro hr9 (And.intro hon hR9)); clear hr9 hon hR9))
      go_ret
      have hsay : sayT (xi, tt) ch (tt.size : Int) false = (⟨8, ⟨#[]⟩, xi, 0, 0, 0, 0, ⟨#[]⟩⟩, true, (tt.size : Int), true) := by unfold sayT; rw [if_neg (by simp), if_pos rfl]
      have hrT : Row w9 g (cT s.cur ch sent true) 120 := by
        have := H9.out.1
        rw [hsay] at this
        dsimp only at this
        rw [← HCU.out, HSS.out]
        exact this
      have hb9 : Below w.heap.size w w9 := ⟨H9.out.2.1.os.trans HBU.out.os, H9.out.2.1.tape.trans HBU.out.tape, H9.out.2.1.output.trans HBU.out.output, Nat.le_trans HBU.out.size H9.out.2.1.size, fun k hk => (H9.out.2.1.out k (Nat.lt_of_lt_of_le hk HBU.out.size) (by have := Hg.out; have := H7.out.2.2.2.1.size; omega)).trans (HBU.out.block k hk)⟩
      obtain ⟨G, hG, hlo, hBf⟩ := clone_fin (w := w) (t := (sent, true)) H9.out.2.2 (HO1.out.same fun k hk => H9.out.2.1.out k (HO1.out.lt k hk).2 (by have := HL1.out k hk; have := Hg.out; omega)) (HO2.out.same fun k hk => H9.out.2.1.out k (HO2.out.lt k hk).2 (by have := HL2.out k hk; have := Hg.out; omega)) (by rw [HB3.out]; exact Nat.lt_succ_self _) H7.out.2.2.2.2.2 (by rw [HB3.out]; exact H7.out.2.2.2.2.1) (by rw [HB3.out]; have := H7.out.1.lt; have := Hg.out; omega) (fun k hk => Nat.lt_of_lt_of_le (HL1.out k hk) Hg.out) (fun k hk => Nat.lt_of_lt_of_le (HL2.out k hk) Hg.out) hrT HSN.out.1 (by rw [HB3.out]; exact Nat.le_refl _) hb9
      exact ⟨b3, G, rfl, hG, fun k hk => by rw [← HB3.out]; exact hlo k hk, hBf⟩

theorem clone29 (b : Nat) (ch : Int) (s : St) (F : List Nat) (w : World) (h : Rep b ch s F w) (g : Good ch s) (hm : s.outs.length ≤ 100000) : Calls Tryd.prog 29 #[.pointer (some ⟨b, 0, none⟩)] w (fun e w' => ∃ d G, e = .returned (.pointer (some ⟨d, 0, none⟩)) ∧ Rep d ch s G w' ∧ (∀ k ∈ G, w.heap.size ≤ k) ∧ Below w.heap.size w w') := by
  cases hs : s.snd with
  | none => exact clone29_0 b ch s F w h g hm hs
  | some t => exact clone29_1 b ch s F w h g hm t hs
end Go.Proofs.YtlelecnafdddhaaDoor
