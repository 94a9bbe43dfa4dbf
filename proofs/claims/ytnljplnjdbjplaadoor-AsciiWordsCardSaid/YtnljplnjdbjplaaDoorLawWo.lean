/- AsciiWords. -/
import Derived.Test.YtnljplnjdbjplaaDoorLawFo
import Derived.Test.YtnljplnjdbjplaaDoorRefSq
namespace Go.Proofs.YtnljplnjdbjplaaDoor
open Go.RowKit
/-- A word: not empty, no blank in it. -/
def Good (x : List UInt8) : Prop := x ≠ [] ∧ ∀ c ∈ x, blankB c = false
theorem wl_good : ∀ (l cur : List UInt8), (∀ c ∈ cur, blankB c = false) → ∀ x ∈ wl cur l, Good x
  | [], cur, h, x, hx => by
    unfold wl fl at hx
    split at hx
    · cases hx
    · rename_i hne
      obtain rfl : x = cur := by simpa using hx
      exact ⟨fun e => hne (by rw [e]; rfl), h⟩
  | b :: r, cur, h, x, hx => by
    unfold wl at hx
    split at hx
    · rcases List.mem_append.1 hx with hx | hx
      · unfold fl at hx
        split at hx
        · cases hx
        · rename_i hne
          obtain rfl : x = cur := by simpa using hx
          exact ⟨fun e => hne (by rw [e]; rfl), h⟩
      · exact wl_good r [] (by simp) x hx
    · rename_i hb
      refine wl_good r (cur ++ [b]) (fun c hc => ?_) x hx
      rcases List.mem_append.1 hc with hc | hc
      · exact h c hc
      · obtain rfl : c = b := by simpa using hc
        simpa using hb
theorem wl_run : ∀ (x r cur : List UInt8), (∀ c ∈ x, blankB c = false) → wl cur (x ++ r) = wl (cur ++ x) r
  | [], r, cur, _ => by simp
  | b :: x, r, cur, h => by
    rw [List.cons_append, wl, if_neg (by simp [h b (by simp)]), wl_run x r (cur ++ [b]) (fun c hc => h c (by simp [hc])), List.append_assoc]
    rfl
theorem joinTail_cons (y : List UInt8) (r : List (List UInt8)) : Lib.joinTail [32] (y :: r) = 32 :: (y ++ Lib.joinTail [32] r) := by simp [Lib.joinTail]
theorem wl_join : ∀ (ws : List (List UInt8)), (∀ x ∈ ws, Good x) → wl [] (Lib.join ws [32]) = ws
  | [], _ => rfl
  | [x], h => by
    have hx := h x (by simp)
    have := wl_run x [] [] hx.2
    rw [List.append_nil, List.nil_append] at this
    rw [Lib.join_one, this, wl, fl_cons hx.1]
  | x :: y :: r, h => by
    have hx := h x (by simp)
    have ih := wl_join (y :: r) (fun z hz => h z (by simp [List.mem_cons.1 hz]))
    rw [Lib.join_cons] at ih
    rw [Lib.join_cons, joinTail_cons, wl_run x _ [] hx.2, List.nil_append, wl, if_pos (by rfl), fl_cons hx.1, ih]
    rfl
theorem join_last : ∀ (ws : List (List UInt8)), ws ≠ [] → (∀ x ∈ ws, Good x) → ∃ p c, Lib.join ws [32] = p ++ [c] ∧ blankB c = false
  | [], h, _ => absurd rfl h
  | [x], _, h => by
    have hx := h x (by simp)
    exact ⟨x.dropLast, x.getLast hx.1, by rw [Lib.join_one]; exact (List.dropLast_concat_getLast hx.1).symm, hx.2 _ (List.getLast_mem hx.1)⟩
  | x :: y :: r, _, h => by
    obtain ⟨p, c, e, hc⟩ := join_last (y :: r) (by simp) (fun z hz => h z (by simp [List.mem_cons.1 hz]))
    rw [Lib.join_cons] at e
    refine ⟨x ++ 32 :: p, c, ?_, hc⟩
    rw [Lib.join_cons, joinTail_cons, e]
    simp
theorem bl_sqz (s : ByteArray) : bl (sqz s) = Lib.join (wl [] (bl s)) [32] := bl_mkS _
theorem words_sqz (s : ByteArray) : words (sqz s) = words s := by
  unfold words
  rw [bl_sqz, wl_join _ (fun x hx => wl_good (bl s) [] (by simp) x hx)]
theorem sqz_sqz (s : ByteArray) : sqz (sqz s) = sqz s := by
  rw [show sqz (sqz s) = mkS (Lib.join (wl [] (bl (sqz s))) [32]) from rfl, bl_sqz, wl_join _ (fun x hx => wl_good (bl s) [] (by simp) x hx)]
  rfl
theorem trim_uniq (s : ByteArray) (n t u : Nat) (ht1 : n ≤ t) (ht2 : t ≤ s.size) (ht3 : ∀ j (h : j < s.size), t ≤ j → blankB s[j] = true) (ht4 : ∀ j (h : j < s.size), j + 1 = t → n < t → blankB s[j] = false)
    (hu1 : n ≤ u) (hu2 : u ≤ s.size) (hu3 : ∀ j (h : j < s.size), u ≤ j → blankB s[j] = true) (hu4 : ∀ j (h : j < s.size), j + 1 = u → n < u → blankB s[j] = false) : u = t := by
  rcases Nat.lt_trichotomy t u with h | h | h
  · have h1 := hu4 (u - 1) (by omega) (by omega) (by omega)
    rw [ht3 (u - 1) (by omega) (by omega)] at h1
    cases h1
  · exact h.symm
  · have h1 := ht4 (t - 1) (by omega) (by omega) (by omega)
    rw [hu3 (t - 1) (by omega) (by omega)] at h1
    cases h1
theorem trim_sqz (s : ByteArray) (e : Ending) (h : TrimS (sqz s) e) : e = .returned (.string (sqz s)) := by
  obtain ⟨t, h1, h2, h3, h4, rfl⟩ := h
  have hg := fun x hx => wl_good (bl s) [] (by simp) x hx
  have hbl := bl_sqz s
  cases hw : wl [] (bl s) with
  | nil =>
    rw [hw] at hbl
    have h0 : sqz s = ⟨#[]⟩ := by rw [← mkS_bl (sqz s), hbl]; rfl
    have hz : (sqz s).size = 0 := by rw [h0]; rfl
    rw [h0]
    obtain rfl : t = 0 := by omega
    have hn : runL blankB (bl (⟨#[]⟩ : ByteArray)) = 0 := rfl
    rw [hn]
    rfl
  | cons x r =>
    rw [hw] at hg
    obtain ⟨p, c, hp, hc⟩ := join_last (x :: r) (by simp) hg
    rw [hw, hp] at hbl
    have hsz : (sqz s).size = p.length + 1 := by rw [← bl_length, hbl]; simp
    have hn : runL blankB (bl (sqz s)) = 0 := by
      have hx := hg x (by simp)
      cases x with
      | nil => exact absurd rfl hx.1
      | cons b y =>
        rw [hbl, ← hp, Lib.join_cons]
        unfold runL
        rw [List.cons_append, List.takeWhile_cons, if_neg (by simp [hx.2 b (by simp)])]
        rfl
    have ht : t = (sqz s).size := by
      refine Classical.byContradiction fun hne => ?_
      have hb := h3 p.length (by omega) (by omega)
      have e1 : (sqz s)[p.length]'(by omega) = c := by
        have : (bl (sqz s))[p.length]'(by rw [bl_length]; omega) = c := by simp [hbl]
        exact this
      rw [e1, hc] at hb
      cases hb
    rw [hn, ht]
    congr 2
    rw [extract_mkS, List.drop_zero, Nat.sub_zero, ← bl_length, List.take_length, mkS_bl]
theorem words_at (s : ByteArray) (xs : List ByteArray) (n : Nat) (hx : words s = xs) (hn : xs.length = n) (w : World) (hs : s.size ≤ 1000000) :
    Calls Tryd.prog 21 #[.string s] w fun e w' => ∃ A c, e = .returned (.slice A n c) ∧ n ≤ c ∧ Sl w' cS A xs ∧ Below w.heap.size w w' := by
  refine (words21 s w hs).mono ?_
  rintro e w' ⟨v, rfl, ho, hb⟩
  obtain ⟨A, c, rfl, hc, h⟩ := ho.sl
  rw [hx, hn] at *
  exact ⟨A, c, rfl, hc, h, hb⟩
theorem refWords_at (s : ByteArray) (xs : List ByteArray) (n : Nat) (hx : words s = xs) (hn : xs.length = n) (w : World) (hs : s.size ≤ 1000000) :
    Calls Tryd.prog 24 #[.string s] w fun e w' => ∃ A c, e = .returned (.slice A n c) ∧ n ≤ c ∧ Sl w' cS A xs ∧ Below w.heap.size w w' := by
  refine (refWords24 s w hs).mono ?_
  rintro e w' ⟨v, rfl, ho, hb⟩
  obtain ⟨A, c, rfl, hc, h⟩ := ho.sl
  rw [hx, hn] at *
  exact ⟨A, c, rfl, hc, h, hb⟩
theorem trim_t (s : ByteArray) (w : World) (hs : s.size ≤ 1000000) : Calls Tryd.prog 26 #[.string (sqz s)] w fun e w' => e = .returned (.string (sqz s)) ∧ w = w' := by
  refine (trim26 (sqz s) w (by have := sqz_size s; omega)).mono ?_
  rintro e w' ⟨h, rfl⟩
  exact ⟨trim_sqz s e h, rfl⟩
theorem squeeze_t (s : ByteArray) (w : World) (hs : s.size ≤ 400000) : Calls Tryd.prog 22 #[.string (sqz s)] w fun e w' => e = .returned (.string (sqz s)) ∧ Below w.heap.size w w' := by
  have := squeeze22 (sqz s) w (by have := sqz_size s; omega)
  rwa [sqz_sqz] at this
set_option maxRecDepth 100000 in
set_option maxHeartbeats 6400000 in
theorem law6 (s : ByteArray) (m : Int) (w : World) (hm : Laid m w) :
    Calls Tryd.prog 6 #[.string s] w fun e w' => e = .returned (.bool true) ∧ Below w.heap.size w w' := by
  obtain ⟨B, hB⟩ : ∃ B, cutS s = B := ⟨_, rfl⟩
  have hsz := cutS_size s
  have hcut := fun w => cut12 s w
  rw [hB] at hsz hcut
  clear hB
  obtain ⟨xs, hxs⟩ : ∃ xs, words B = xs := ⟨_, rfl⟩
  obtain ⟨n, hn⟩ : ∃ n, xs.length = n := ⟨_, rfl⟩
  have hnl : n ≤ 301 := by rw [← hn, ← hxs]; have := words_length B; omega
  have hss := sqz_size B
  have HW := Lib.hid (And.intro (fun w => words_at B xs n hxs hn w (by omega)) (And.intro (fun w => refWords_at B xs n hxs hn w (by omega)) (fun w => words_at (sqz B) xs n (by rw [words_sqz]; exact hxs) hn w (by omega))))
  have HS := Lib.hid (And.intro (fun w => squeeze22 B w (by omega)) (And.intro (fun w => refSqueeze25 B w (by omega)) (And.intro (fun w => squeeze_t B w (by omega)) (fun w => trim_t B w (by omega)))))
  have HT := Lib.hid (And.intro (fun w => trim26 B w (by omega)) (fun w => refTrim27 B w (by omega)))
  have H0 := Lib.hid (And.intro hm (And.intro hcut (And.intro hn hnl)))
  generalize sqz B = t at HW HS
  clear hm hcut hxs hn hss hnl
  have T1 := Lib.hid trivial
  have T2 := Lib.hid trivial
  have T3 := Lib.hid trivial
  have T4 := Lib.hid trivial
  go_enter Tryd.func6, Tryd.ntmps6
  go_wp2_with (first
    | (go_at_call 12; refine (H0.out.2.1 _).mono ?_; rintro e w1 ⟨rfl, rfl⟩)
    | (go_at_call 21; have hh := T1; clear hh T1; refine (HW.out.1 _).mono ?_; rintro e w1 ⟨A1, c1', rfl, hc1, hs1, hb⟩; have H1 := Lib.hid (And.intro hb (And.intro hs1 hc1)); clear hb hs1 hc1)
    | (go_at_call 22; have hh := T2; clear hh T2; refine (HS.out.1 _).mono ?_; rintro e w2 ⟨rfl, hb⟩; have H2 := Lib.hid (And.intro (Below.step H1.out.1 hb) (H1.out.2.1.keep hb)); clear hb)
    | (go_at_call 24; refine (HW.out.2.1 _).mono ?_; rintro e w3 ⟨A3, c3', rfl, hc3, hs3, hb⟩; have H3 := Lib.hid (And.intro (Below.step H2.out.1 hb) (And.intro (H2.out.2.keep hb) (And.intro hs3 hc3))); clear hb hs3 hc3)
    | (go_at_call 23; have hh := T3; clear hh T3; refine (same_yes A1 A3 c1' c3' n xs _ H0.out.2.2.1 H1.out.2.2 H3.out.2.2.2 H3.out.2.1 H3.out.2.2.1 (by have := H0.out.2.2.2; omega)).mono ?_; rintro e w4 ⟨rfl, hb⟩; have H4 := Lib.hid (And.intro (Below.step H3.out.1 hb) (H3.out.2.1.keep hb)); clear hb)
    | (go_at_call 25; refine (HS.out.2.1 _).mono ?_; rintro e w5 ⟨rfl, hb⟩; have H5 := Lib.hid (And.intro (Below.step H4.out.1 hb) (H4.out.2.keep hb)); clear hb)
    | (go_at_call 26; have hh := T4; clear hh T4; refine (HT.out.1 _).mono ?_; rintro e w6 ⟨⟨q, p1, p2, p3, p4, rfl⟩, rfl⟩; have HP := Lib.hid (And.intro p1 (And.intro p2 (And.intro p3 p4))); clear p1 p2 p3 p4)
    | (go_at_call 27; refine (HT.out.2 _).mono ?_; rintro e w6 ⟨⟨q2, p1, p2, p3, p4, rfl⟩, rfl⟩; obtain rfl := trim_uniq B _ q q2 HP.out.1 HP.out.2.1 HP.out.2.2.1 HP.out.2.2.2 p1 p2 p3 p4; clear p1 p2 p3 p4)
    | (go_at_call 14; refine (known_l m _ (H0.out.1.keep H5.out.1)).mono ?_; rintro e w7 ⟨rfl, hb⟩; have H7 := Lib.hid (And.intro (Below.step H5.out.1 hb) (H5.out.2.keep hb)); clear hb)
    | (go_at_call 21; refine (HW.out.2.2 _).mono ?_; rintro e w8 ⟨A8, c8', rfl, hc8, hs8, hb⟩; have H8 := Lib.hid (And.intro (Below.step H7.out.1 hb) (And.intro (H7.out.2.keep hb) (And.intro hs8 hc8))); clear hb hs8 hc8)
    | (go_at_call 23; refine (same_yes A8 A1 c8' c1' n xs _ H0.out.2.2.1 H8.out.2.2.2 H1.out.2.2 H8.out.2.2.1 H8.out.2.1 (by have := H0.out.2.2.2; omega)).mono ?_; rintro e w9 ⟨rfl, hb⟩; have H9 := Lib.hid (Below.step H8.out.1 hb); clear hb)
    | (go_at_call 22; refine (HS.out.2.2.1 _).mono ?_; rintro e w10 ⟨rfl, hb⟩; have H10 := Lib.hid (Below.step H9.out hb); clear hb)
    | (go_at_call 26; refine (HS.out.2.2.2 _).mono ?_; rintro e w11 ⟨rfl, rfl⟩))
  go_ret
  exact ⟨rfl, H10.out⟩
end Go.Proofs.YtnljplnjdbjplaaDoor
