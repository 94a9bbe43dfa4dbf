/- AsciiHex and AsciiUnhex. -/
import Derived.Test.YtnljplnjdbjplaaDoorLawFo
import Derived.Test.YtnljplnjdbjplaaDoorRefUn
import Derived.Test.YtnljplnjdbjplaaDoorWrd
namespace Go.Proofs.YtnljplnjdbjplaaDoor
open Go.RowKit
theorem digC_hexV (c : UInt8) (h : hexB c = true) : digC (hexV c) = c := by
  have := byte_all (p := fun c => !hexB c || digC (hexV c) == c) (by decide +kernel) c
  rw [h] at this
  simpa using this
theorem pair_dig (c : UInt8) : pairV (digC (c.toNat / 16)) (digC (c.toNat % 16)) = c := eq_of_beq (byte_all (p := fun c => pairV (digC (c.toNat / 16)) (digC (c.toNat % 16)) == c) (by decide +kernel) c)
theorem dig_hex (c : UInt8) : hexB (digC (c.toNat / 16)) = true ∧ hexB (digC (c.toNat % 16)) = true := by
  have := byte_all (p := fun c => hexB (digC (c.toNat / 16)) && hexB (digC (c.toNat % 16))) (by decide +kernel) c
  simpa using this
theorem hexL_cons (c : UInt8) (r : List UInt8) : hexL (c :: r) = digC (c.toNat / 16) :: digC (c.toNat % 16) :: hexL r := by
  unfold hexL
  rw [List.flatMap_cons]
  rfl
theorem unhexL_hexL (l : List UInt8) : unhexL (hexL l) = l := by
  induction l with
  | nil => rfl
  | cons c r ih => rw [hexL_cons, unhexL, ih, pair_dig]
theorem hexL_all (l : List UInt8) : (hexL l).all hexB = true := by
  induction l with
  | nil => rfl
  | cons c r ih => rw [hexL_cons, List.all_cons, List.all_cons, ih, (dig_hex c).1, (dig_hex c).2]; rfl
theorem hexL_unhexL : ∀ (n : Nat) (l : List UInt8), l.length = 2 * n → l.all hexB = true → hexL (unhexL l) = l
  | 0, [], _, _ => rfl
  | n + 1, a :: b :: r, h, ha => by
    rw [List.all_cons, List.all_cons, Bool.and_eq_true, Bool.and_eq_true] at ha
    have h1 := hexV_lt a ha.1
    have h2 := hexV_lt b ha.2.1
    rw [unhexL, hexL_cons, hexL_unhexL n r (by simp at h; omega) ha.2.2, pairV_toNat ha.1 ha.2.1, show (16 * hexV a + hexV b) / 16 = hexV a by omega, show (16 * hexV a + hexV b) % 16 = hexV b by omega, digC_hexV a ha.1, digC_hexV b ha.2.1]
  | n + 1, [x], h, _ => by simp at h; omega
  | n + 1, [], h, _ => by simp at h
  | 0, x :: r, h, _ => by simp at h
/-- The text of bytes. -/
def hexS (l : List UInt8) : ByteArray := ⟨(hexL l).toArray⟩
theorem bl_hexS (l : List UInt8) : bl (hexS l) = hexL l := by simp [bl, hexS]
theorem hexS_size (l : List UInt8) : (hexS l).size = 2 * l.length := by rw [← bl_length, bl_hexS, hexL_length]
theorem hex_s (A : Option Addr) (c n : Nat) (xs : List UInt8) (w : World) (hn : xs.length = n) (hx : Sl w c1 A xs) (hm : n ≤ 1073741824) :
    Calls Tryd.prog 32 #[.slice A n c] w fun e w' => e = .returned (.string (hexS xs)) ∧ Below w.heap.size w w' := hex32 A c n xs w hn hx hm
theorem refHex_s (A : Option Addr) (c n : Nat) (xs : List UInt8) (w : World) (hn : xs.length = n) (hx : Sl w c1 A xs) (hm : n ≤ 1073741824) :
    Calls Tryd.prog 34 #[.slice A n c] w fun e w' => e = .returned (.string (hexS xs)) ∧ Below w.heap.size w w' := refHex34 A c n xs w hn hx hm
theorem unhex_s (l : List UInt8) (w : World) (h : l.length ≤ 300) :
    Calls Tryd.prog 33 #[.string (hexS l)] w fun e w' => ∃ A c, e = .returned (.tuple #[.slice A l.length c, .int .i64 0]) ∧ Sl w' c1 A l ∧ Below w.heap.size w w' := by
  refine (unhex_yes (hexS l) w (by rw [hexS_size]; omega) (by rw [hexS_size]; omega) (by rw [bl_hexS]; exact hexL_all l)).mono ?_
  rintro e w' ⟨v, rfl, hb, ho⟩
  obtain ⟨A, c, rfl, _, hs⟩ := ho.sl
  rw [bl_hexS, unhexL_hexL] at hs ⊢
  exact ⟨A, c, rfl, hs, hb⟩
/-- A conversion that holds in every later world. -/
theorem conv_keep {w : World} {A : Option Addr} {n c : Nat} {l : List UInt8} (h : Sl w c1 A l) (hn : l.length = n) {w' : World} (hb : Below w.heap.size w w') : (convert 39 9 (.slice A n c)).run Tryd.prog w' = .ok (.string (mkS l)) w' := conv_any (h.keep hb) hn
set_option maxRecDepth 100000 in
set_option maxHeartbeats 3200000 in
theorem law9_cut (A : Option Addr) (c n k : Nat) (xs : List UInt8) (m : Int) (w : World) (hm : Laid m w) (hn : n ≤ c) (hk : min n 300 = k) (hx : Sl w c1 A xs) (hl : xs.length = k) :
    Calls Tryd.prog 9 #[.slice A n c] w fun e w' => e = .returned (.bool true) ∧ Below w.heap.size w w' := by
  have h0 : min (n : Int) 300 = (k : Int) := by omega
  have h1 : (k : Int) ≤ (c : Int) := by omega
  have hk3 : k ≤ 300 := by omega
  have H0 := Lib.hid (And.intro hm (And.intro hx (And.intro hl hk3)))
  clear hm hx hl hk hn
  go_enter Tryd.func9, Tryd.ntmps9
  go_wp2_with (first
    | (go_at_call 32; refine (hex_s A c k xs _ H0.out.2.2.1 H0.out.2.1 (by omega)).mono ?_; rintro e w1 ⟨rfl, hb⟩; have H1 := Lib.hid hb; clear hb)
    | (go_at_call 33; refine (unhex_s xs _ (by have := H0.out.2.2.1; omega)).mono ?_; rintro e w2 ⟨A2, c2, rfl, hs2, hb⟩; have H2 := Lib.hid (And.intro (Below.step H1.out hb) hs2); clear hb hs2)
    | (go_at_call 14; refine (known_l m _ (H0.out.1.keep H2.out.1)).mono ?_; rintro e w3 ⟨rfl, hb⟩; have H3 := Lib.hid (And.intro (Below.step H2.out.1 hb) (Sl.keep H2.out.2 hb)); clear hb)
    | (go_at_call 34; refine (refHex_s A c k xs _ H0.out.2.2.1 (Sl.keep H0.out.2.1 H3.out.1) (by omega)).mono ?_; rintro e w4 ⟨rfl, hb⟩; have q1 := conv_keep (c := c2) H3.out.2 rfl hb; have H4 := Lib.hid (Below.step H3.out.1 hb); have q2 := conv_keep (c := c) H0.out.2.1 H0.out.2.2.1 H4.out; clear hb))
  go_ret
  exact ⟨rfl, H4.out⟩
theorem law9 (A : Option Addr) (c : Nat) (xs : List UInt8) (m : Int) (w : World) (hx : Sl w c1 A xs) (hc : xs.length ≤ c) (hm : Laid m w) :
    Calls Tryd.prog 9 #[.slice A xs.length c] w fun e w' => e = .returned (.bool true) ∧ Below w.heap.size w w' :=
  law9_cut A c xs.length (min xs.length 300) (xs.take (min xs.length 300)) m w hm hc rfl (Sl.take hx _) (by rw [List.length_take]; omega)
set_option maxRecDepth 100000 in
set_option maxHeartbeats 3200000 in
theorem law10 (s : ByteArray) (m : Int) (w : World) (hm : Laid m w) :
    Calls Tryd.prog 10 #[.string s] w fun e w' => e = .returned (.bool true) ∧ Below w.heap.size w w' := by
  obtain ⟨B, hB⟩ : ∃ B, cutS s = B := ⟨_, rfl⟩
  have hsz := cutS_size s
  have hcut := fun w => cut12 s w
  rw [hB] at hsz hcut
  have H0 := Lib.hid (And.intro hm (And.intro hcut hsz))
  clear hm hcut hB
  by_cases hy : B.size % 2 = 0 ∧ (bl B).all hexB = true
  · have hun : ∀ w, Calls Tryd.prog 33 #[.string B] w fun e w' => ∃ A c n, e = .returned (.tuple #[.slice A n c, .int .i64 0]) ∧ (unhexL (bl B)).length = n ∧ Sl w' c1 A (unhexL (bl B)) ∧ Below w.heap.size w w' := fun w => by
      refine (unhex_yes B w (by omega) hy.1 hy.2).mono ?_
      rintro e w' ⟨v, rfl, hb, ho⟩
      obtain ⟨A, c, rfl, _, hs⟩ := ho.sl
      exact ⟨A, c, _, rfl, rfl, hs, hb⟩
    have hrf : ∀ w, Calls Tryd.prog 35 #[.string B] w fun e w' => ∃ A c n, e = .returned (.tuple #[.slice A n c, .int .i64 0]) ∧ (unhexL (bl B)).length = n ∧ Sl w' c1 A (unhexL (bl B)) ∧ Below w.heap.size w w' := fun w => by
      refine (refUnhex35 B w (by omega)).mono ?_
      rintro e w' ⟨hb, ⟨h, _⟩ | ⟨_, v, rfl, ho⟩⟩
      · exact absurd hy h
      · obtain ⟨A, c, rfl, _, hs⟩ := ho.sl
        exact ⟨A, c, _, rfl, rfl, hs, hb⟩
    have hln : (unhexL (bl B)).length ≤ 300 := by
      have := unhexL_length (B.size / 2) (bl B) (by rw [bl_length]; omega)
      omega
    have hback : hexS (unhexL (bl B)) = B := by
      unfold hexS
      rw [hexL_unhexL (B.size / 2) (bl B) (by rw [bl_length]; omega) hy.2]
    have HU := Lib.hid (And.intro hun (And.intro hrf (And.intro hln hback)))
    clear hun hrf hln hback hy
    go_enter Tryd.func10, Tryd.ntmps10
    go_wp2_with (first
      | (go_at_call 12; refine (H0.out.2.1 _).mono ?_; rintro e w1 ⟨rfl, rfl⟩)
      | (go_at_call 33; refine (HU.out.1 _).mono ?_; rintro e w1 ⟨A1, c1', n1, rfl, hn1, hs1, hb⟩; have H1 := Lib.hid (And.intro hb (And.intro hs1 hn1)); clear hb hs1 hn1)
      | (go_at_call 35; refine (HU.out.2.1 _).mono ?_; rintro e w2 ⟨A2, c2', n2, rfl, hn2, hs2, hb⟩; have q1 := conv_keep (c := c1') H1.out.2.1 H1.out.2.2 hb; have q2 := conv_keep (c := c2') hs2 hn2 (Below.refl _ _); have H2 := Lib.hid (And.intro (Below.step H1.out.1 hb) (H1.out.2.1.keep hb)); clear hb hs2 hn2)
      | (go_at_call 14; refine (known_l m _ (H0.out.1.keep H2.out.1)).mono ?_; rintro e w3 ⟨rfl, hb⟩; have H3 := Lib.hid (And.intro (Below.step H2.out.1 hb) (H2.out.2.keep hb)); clear hb q1 q2)
      | (go_at_call 32; refine (hex_s A1 c1' n1 (unhexL (bl B)) _ H1.out.2.2 H3.out.2 (by have := HU.out.2.2.1; have := H1.out.2.2; omega)).mono ?_; rintro e w4 ⟨rfl, hb⟩; rw [HU.out.2.2.2]; have H4 := Lib.hid (Below.step H3.out.1 hb); clear hb))
    go_ret
    exact ⟨rfl, H4.out⟩
  · have hrf : ∀ w, Calls Tryd.prog 35 #[.string B] w fun e w' => e = .returned (.tuple #[.slice none 0 0, .int .i64 3]) ∧ Below w.heap.size w w' := fun w => by
      refine (refUnhex35 B w (by omega)).mono ?_
      rintro e w' ⟨hb, ⟨_, rfl⟩ | ⟨h, _⟩⟩
      · exact ⟨rfl, hb⟩
      · exact absurd h hy
    have HU := Lib.hid (And.intro (fun w => unhex_no B w (by omega) hy) hrf)
    clear hrf hy
    have q0 : ∀ w : World, (convert 39 9 (.slice none 0 0)).run Tryd.prog w = .ok (.string ⟨#[]⟩) w := fun w => conv_any (w := w) (A := none) (c := 0) (l := []) (Sl.nil w c1 none) rfl
    go_enter Tryd.func10, Tryd.ntmps10
    go_wp2_with (first
      | (go_at_call 12; refine (H0.out.2.1 _).mono ?_; rintro e w1 ⟨rfl, rfl⟩)
      | (go_at_call 33; refine (HU.out.1 _).mono ?_; rintro e w1 ⟨rfl, rfl⟩)
      | (go_at_call 35; refine (HU.out.2 _).mono ?_; rintro e w2 ⟨rfl, hb⟩; have H2 := Lib.hid hb; clear hb)
      | (go_at_call 14; refine (known_l m _ (H0.out.1.keep H2.out)).mono ?_; rintro e w3 ⟨rfl, hb⟩; have H3 := Lib.hid (Below.step H2.out hb); clear hb))
    go_ret
    exact ⟨rfl, H3.out⟩
end Go.Proofs.YtnljplnjdbjplaaDoor
