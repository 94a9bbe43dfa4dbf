/- take.find and the function values; slices.IndexFunc. -/
import Derived.Test.YtgojaelkdpabkaaGreatDoorOwS
namespace Go.Proofs.YtgojaelkdpabkaaGreatDoor
open Go.RowKit
def posL (l : List Pt) (x : Id) : Option Nat := l.findIdx? (fun p => decide (p.id = x))
def idxL (l : List Pt) (x : Id) : Int := match posL l x with | some k => (k : Int) | none => -1
theorem pos_hit {l : List Pt} {x : Id} {k : Nat} (hk : k < l.length) (h : ∀ j (hj : j < k), l[j].id ≠ x) (hx : l[k].id = x) : posL l x = some k := by
  unfold posL
  rw [List.findIdx?_eq_some_iff_getElem]
  exact ⟨hk, by simpa using hx, fun j hj => by simpa using h j hj⟩
theorem pos_none {l : List Pt} {x : Id} (h : ∀ j (hj : j < l.length), l[j].id ≠ x) : posL l x = none := by
  unfold posL
  rw [List.findIdx?_eq_none_iff]
  intro p hp
  obtain ⟨j, hj, rfl⟩ := List.getElem_of_mem hp
  simpa using h j hj
theorem pos_some {l : List Pt} {x : Id} {k : Nat} (h : posL l x = some k) : ∃ hk : k < l.length, l[k].id = x ∧ ∀ j (hj : j < k), l[j].id ≠ x := by
  unfold posL at h
  rw [List.findIdx?_eq_some_iff_getElem] at h
  obtain ⟨h1, h2, h3⟩ := h
  exact ⟨h1, by simpa using h2, fun j hj => by simpa using h3 j hj⟩
theorem pos_none' {l : List Pt} {x : Id} (h : posL l x = none) : ∀ p ∈ l, p.id ≠ x := by
  unfold posL at h
  rw [List.findIdx?_eq_none_iff] at h
  intro p hp
  simpa using h p hp
theorem idx_some {l : List Pt} {x : Id} {k : Nat} (h : posL l x = some k) : idxL l x = (k : Int) := by unfold idxL; rw [h]
theorem idx_none {l : List Pt} {x : Id} (h : posL l x = none) : idxL l x = -1 := by unfold idxL; rw [h]
theorem find1_65 (p : Pt) (g : Nat) (x : Id) (w : World) (hr : Row w g (cI x) 30) : Calls Tryz.prog 65 #[vA p, .pointer (some ⟨g, 0, none⟩)] w fun e w' => e = .returned (.bool (decide (p.id = x))) ∧ Below w.heap.size w w' := by
  have rr := Row.okw (hr.keep (below_alloc w (.cells (aA p) 86))) (cI_length x)
  have r1 := rr.1
  have r2 : rdA (w.alloc (.cells (aA p) 86)) ⟨g, 0, none⟩ 32 = vI x := rr.2
  clear rr hr
  go_enter Tryz.func65, Tryz.ntmps65
  go_wp2
  go_ret
  exact ⟨rfl, below_alloc _ _⟩
theorem without1_67 (p : Pt) (g : Nat) (x : Id) (w : World) (hr : Row w g (cI x) 30) : Calls Tryz.prog 67 #[vA p, .pointer (some ⟨g, 0, none⟩)] w fun e w' => e = .returned (.bool (decide (p.id = x))) ∧ Below w.heap.size w w' := by
  have rr := Row.okw (hr.keep (below_alloc w (.cells (aA p) 86))) (cI_length x)
  have r1 := rr.1
  have r2 : rdA (w.alloc (.cells (aA p) 86)) ⟨g, 0, none⟩ 32 = vI x := rr.2
  clear rr hr
  go_enter Tryz.func67, Tryz.ntmps67
  go_wp2
  go_ret
  exact ⟨rfl, below_alloc _ _⟩
/-- A function that tells whether a part has the identity in block g. -/
structure IdFn (F g : Nat) (x : Id) (w : World) : Prop where
  enter : ∀ (args : Array Value) (W : World), Sem.run Tryz.prog (callFunc F args) W = .ok (.enter F args) W
  row : Row w g (cI x) 30
  call : ∀ (p : Pt) (u : World), Row u g (cI x) 30 → Calls Tryz.prog F #[vA p, .pointer (some ⟨g, 0, none⟩)] u fun e w' => e = .returned (.bool (decide (p.id = x))) ∧ Below u.heap.size u w'
theorem idFn65 {g : Nat} {x : Id} {w : World} (hr : Row w g (cI x) 30) : IdFn 65 g x w := ⟨enters_of Tryz.func65 (by kernel_rfl) rfl, hr, fun p u h => find1_65 p g x u h⟩
theorem idFn67 {g : Nat} {x : Id} {w : World} (hr : Row w g (cI x) 30) : IdFn 67 g x w := ⟨enters_of Tryz.func67 (by kernel_rfl) rfl, hr, fun p u h => without1_67 p g x u h⟩
set_option maxRecDepth 100000 in
set_option maxHeartbeats 1600000 in
theorem index64 (A : Option Addr) (c : Nat) (l : List Pt) (F g : Nat) (x : Id) (w : World) (hl : Sl w cA A l) (hn : l.length ≤ 1000000) (hF : IdFn F g x w) :
    Calls Tryz.prog 64 #[.slice A l.length c, .func (.func F) #[] #[.pointer (some ⟨g, 0, none⟩)]] w fun e w' => e = .returned (.int .i64 (idxL l x)) ∧ Below w.heap.size w w' := by
  have HF := Lib.hid hF
  have HS := Lib.hid hl
  clear hF hl
  go_enter Tryz.func64, Tryz.ntmps64
  go_wp2
  go_loopw [8] (fun i wr => ∃ k : Nat, i = .int .i64 k ∧ k ≤ l.length ∧ (∀ j (hj : j < k) (hj2 : j < l.length), l[j].id ≠ x) ∧ Below w.heap.size w wr) (fun i _ => l.length + 1 - (intOf i).toNat)
  case atStart => exact ⟨0, rfl, Nat.zero_le _, fun j hj => absurd hj (Nat.not_lt_zero _), Below.refl _ _⟩
  case round =>
    obtain ⟨k, rfl, hk, hp, hb⟩ := hrel
    by_cases hlt : k < l.length
    · have hlt1 : (k : Int) < (l.length : Int) := by omega
      obtain ⟨ad, rfl, ok1, rd1, _⟩ := Sl.pt (HS.out.keep hb) hlt
      obtain ⟨p, hpp⟩ : ∃ p, l[k] = p := ⟨_, rfl⟩
      rw [hpp] at rd1
      have HP := Lib.hid hpp
      have HB := Lib.hid (And.intro hp hb)
      have HE := HF.out.enter
      clear hp hb hpp
      by_cases hx : p.id = x
      · have hd : decide (p.id = x) = true := decide_eq_true hx
        have HN := Lib.hid (idx_some (pos_hit (l := l) (x := x) hlt (fun j hj => HB.out.1 j hj (by omega)) (by rw [HP.out]; exact hx)))
        clear hx
        go_wp2_with (refine (HF.out.call p wr (HF.out.row.keep HB.out.2)).mono ?_; rintro e w2 ⟨rfl, hb2⟩; have H2 := Lib.hid (Below.step HB.out.2 hb2); clear hb2)
        go_ret
        exact ⟨by rw [HN.out]; rfl, H2.out⟩
      · have hd : decide (p.id = x) = false := decide_eq_false hx
        have HXX := Lib.hid hx
        clear hx
        go_wp2_with (refine (HF.out.call p wr (HF.out.row.keep HB.out.2)).mono ?_; rintro e w2 ⟨rfl, hb2⟩; have H2 := Lib.hid (Below.step HB.out.2 hb2); clear hb2)
        go_roundw
        case rel =>
          refine ⟨k + 1, by go_num, by omega, fun j hj hj2 => ?_, H2.out⟩
          rcases Nat.lt_succ_iff_lt_or_eq.1 hj with h | h
          · exact HB.out.1 j h hj2
          · subst h
            rw [HP.out]
            exact HXX.out
        case measure => simp [intOf] <;> omega
    · have hlt1 : ¬ (k : Int) < (l.length : Int) := by omega
      have HN := Lib.hid (idx_none (pos_none (l := l) (x := x) fun j hj => hp j (by omega) hj))
      have HB := Lib.hid hb
      clear hp hb
      go_wp2
      go_ret
      exact ⟨by rw [HN.out]; rfl, HB.out⟩
set_option maxRecDepth 100000 in
theorem find40 (A : Option Addr) (c : Nat) (l : List Pt) (x : Id) (w : World) (hl : Sl w cA A l) (hn : l.length ≤ 1000000) :
    Calls Tryz.prog 40 #[.slice A l.length c, vI x] w fun e w' => e = .returned (.int .i64 (idxL l x)) ∧ Below w.heap.size w w' := by
  obtain ⟨b, hb⟩ : ∃ b, w.heap.size = b := ⟨_, rfl⟩
  have H1 := Lib.hid (And.intro (show Row (w.alloc (.cells (aI x) 30)) b (cI x) 30 by rw [← hb]; exact Row.new w (cI x) _) (And.intro (hl.keep (below_alloc w (.cells (aI x) 30))) (below_alloc w (.cells (aI x) 30))))
  clear hl
  go_enter Tryz.func40, Tryz.ntmps40
  go_wp2_with (go_at_call 64; refine (index64 A c l _ b x _ H1.out.2.1 hn (idFn65 H1.out.1)).mono ?_; rintro e w2 ⟨rfl, hb2⟩; have H2 := Lib.hid (Below.step H1.out.2.2 hb2); clear hb2)
  go_ret
  exact ⟨rfl, H2.out⟩
end Go.Proofs.YtgojaelkdpabkaaGreatDoor
