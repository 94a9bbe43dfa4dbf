/- date: the text of a minute of the first day. -/
import Derived.Test.YtibelollgdnidaaGreatDoorMDt3
import Derived.Test.YtibelollgdnidaaGreatDoorMAnyG
namespace Go.Proofs.YtibelollgdnidaaGreatDoor
open Go.RowKit
theorem tab_below {w w' : World} {name : String} {k : IntKind} {zs : List Int} (h : Lib.TabIs Tryz.prog w name k zs) (hb : Below w.heap.size w w') : Lib.TabIs Tryz.prog w' name k zs := by
 unfold Lib.TabIs World.var? at *
 cases hg : Tryz.prog.globalNamed name with
 | none => rw [hg] at h; cases h
 | some g =>
  rw [hg] at h
  simp only [Option.bind_some] at h ⊢
  cases hq : w.heap[g]? with
  | none => rw [hq] at h; cases h
  | some o => rw [hb.block g (Array.getElem?_eq_some_iff.1 hq).1]; exact h
def dg (n : Nat) : UInt8 := UInt8.ofNat (48 + n)
theorem dec1 {n : Nat} (h : n < 10) : Lib.decDigits n = [dg n] := by rw [Lib.decDigits, dif_pos h]; rfl
theorem dec2 {n : Nat} (h : 10 ≤ n) (h2 : n < 100) : Lib.decDigits n = [dg (n / 10), dg (n % 10)] := by rw [Lib.decDigits, dif_neg (by omega), dec1 (by omega)]; rfl
theorem itoa_nat (n : Nat) : Lib.itoa (n : Int) = Lib.decDigits n := by unfold Lib.itoa; rw [if_neg (by omega), Int.toNat_natCast]
theorem pad2 {n : Nat} (h : n < 100) : padT 2 n = [dg (n / 10), dg (n % 10)] ∧ (Lib.itoa (n : Int)).length ≤ 2 := by
 unfold padT
 rw [itoa_nat]
 by_cases h1 : n < 10
 ·rw [dec1 h1, show n / 10 = 0 by omega, show n % 10 = n by omega]
  exact ⟨rfl, Nat.le_of_ble_eq_true rfl⟩
 ·rw [dec2 (by omega) h]
  exact ⟨rfl, Nat.le_of_ble_eq_true rfl⟩
theorem dec2000 : Lib.decDigits 2000 = [50, 48, 48, 48] := by
 rw [Lib.decDigits, dif_neg (by decide), show 2000 / 10 = 200 from rfl, Lib.decDigits, dif_neg (by decide), show 200 / 10 = 20 from rfl, dec2 (by decide) (by decide)]
 rfl
theorem pad4 : padT 4 2000 = [50, 48, 48, 48] ∧ (Lib.itoa ((2000 : Nat) : Int)).length ≤ 4 := by
 unfold padT
 rw [itoa_nat, dec2000]
 exact ⟨rfl, Nat.le_of_ble_eq_true rfl⟩
def dayT (n : Nat) : List UInt8 := [83, 97, 116, 44, 32, 48, 49, 32, 74, 97, 110, 32, 50, 48, 48, 48, 32, dg (n / 60 / 10), dg (n / 60 % 10), 58, dg (n % 60 / 10), dg (n % 60 % 10), 32, 43, 48, 48, 48, 48]
set_option maxRecDepth 100000 in
set_option maxHeartbeats 1600000 in
theorem formatZone126 (n : Nat) (hn : n ≤ 1439) (w : World) (htab : Lib.TabIs Tryz.prog w "internal/strconv.uint64pow10" .u64 Lib.pow10Tab) : Calls Tryz.prog 126 #[.int .i64 (n : Int), .int .i64 0] w fun e w' => e = .returned (.tuple #[.string ⟨(dayT n).toArray⟩, .int .i64 0]) ∧ Below w.heap.size w w' := by
 obtain ⟨h, hh⟩ : ∃ h, n / 60 = h := ⟨_, rfl⟩
 obtain ⟨m, hm⟩ : ∃ m, n % 60 = m := ⟨_, rfl⟩
 have hh24 : h < 24 := by omega
 have hm60 : m < 60 := by omega
 obtain ⟨p1, hp1⟩ : ∃ p : ByteArray, ⟨(padT 2 1).toArray⟩ = p := ⟨_, rfl⟩
 obtain ⟨p4, hp4⟩ : ∃ p : ByteArray, ⟨(padT 4 2000).toArray⟩ = p := ⟨_, rfl⟩
 obtain ⟨ph, hph⟩ : ∃ p : ByteArray, ⟨(padT 2 h).toArray⟩ = p := ⟨_, rfl⟩
 obtain ⟨pm, hpm⟩ : ∃ p : ByteArray, ⟨(padT 2 m).toArray⟩ = p := ⟨_, rfl⟩
 obtain ⟨p0, hp0⟩ : ∃ p : ByteArray, ⟨(padT 2 0).toArray⟩ = p := ⟨_, rfl⟩
 have hzp1 : p1.size = 2 := by rw [← hp1, (pad2 (n := 1) (by decide)).1]; rfl
 have hzp4 : p4.size = 4 := by rw [← hp4, pad4.1]; rfl
 have hzph : ph.size = 2 := by rw [← hph, (pad2 (n := h) (by omega)).1]; rfl
 have hzpm : pm.size = 2 := by rw [← hpm, (pad2 (n := m) (by omega)).1]; rfl
 have hzp0 : p0.size = 2 := by rw [← hp0, (pad2 (n := 0) (by decide)).1]; rfl
 have HLp1 := Lib.hid (pad2 (n := 1) (by decide)).2
 have HLp4 := Lib.hid pad4.2
 have HLph := Lib.hid (pad2 (n := h) (by omega)).2
 have HLpm := Lib.hid (pad2 (n := m) (by omega)).2
 have HLp0 := Lib.hid (pad2 (n := 0) (by decide)).2
 obtain ⟨x3, hx3⟩ : ∃ x : ByteArray, (⟨#[83, 97, 116]⟩ : ByteArray) ++ (⟨#[44, 32]⟩ : ByteArray) = x := ⟨_, rfl⟩
 obtain ⟨x7, hx7⟩ : ∃ x : ByteArray, (x3 : ByteArray) ++ (p1 : ByteArray) = x := ⟨_, rfl⟩
 obtain ⟨x8, hx8⟩ : ∃ x : ByteArray, (x7 : ByteArray) ++ (⟨#[32]⟩ : ByteArray) = x := ⟨_, rfl⟩
 obtain ⟨x14, hx14⟩ : ∃ x : ByteArray, (x8 : ByteArray) ++ (⟨#[74, 97, 110]⟩ : ByteArray) = x := ⟨_, rfl⟩
 obtain ⟨x15, hx15⟩ : ∃ x : ByteArray, (x14 : ByteArray) ++ (⟨#[32]⟩ : ByteArray) = x := ⟨_, rfl⟩
 obtain ⟨x19, hx19⟩ : ∃ x : ByteArray, (x15 : ByteArray) ++ (p4 : ByteArray) = x := ⟨_, rfl⟩
 obtain ⟨x20, hx20⟩ : ∃ x : ByteArray, (x19 : ByteArray) ++ (⟨#[32]⟩ : ByteArray) = x := ⟨_, rfl⟩
 obtain ⟨x24, hx24⟩ : ∃ x : ByteArray, (x20 : ByteArray) ++ (ph : ByteArray) = x := ⟨_, rfl⟩
 obtain ⟨x25, hx25⟩ : ∃ x : ByteArray, (x24 : ByteArray) ++ (⟨#[58]⟩ : ByteArray) = x := ⟨_, rfl⟩
 obtain ⟨x29, hx29⟩ : ∃ x : ByteArray, (x25 : ByteArray) ++ (pm : ByteArray) = x := ⟨_, rfl⟩
 obtain ⟨x30, hx30⟩ : ∃ x : ByteArray, (x29 : ByteArray) ++ (⟨#[32]⟩ : ByteArray) = x := ⟨_, rfl⟩
 obtain ⟨x32, hx32⟩ : ∃ x : ByteArray, (x30 : ByteArray) ++ (⟨#[43]⟩ : ByteArray) = x := ⟨_, rfl⟩
 obtain ⟨x36, hx36⟩ : ∃ x : ByteArray, (x32 : ByteArray) ++ (p0 : ByteArray) = x := ⟨_, rfl⟩
 obtain ⟨x40, hx40⟩ : ∃ x : ByteArray, (x36 : ByteArray) ++ (p0 : ByteArray) = x := ⟨_, rfl⟩
 have hx3s : x3.size = 5 := by rw [← hx3]; rfl
 have hx7s : x7.size = 7 := by rw [← hx7, ByteArray.size_append, hx3s]; rw [hzp1]
 have hx8s : x8.size = 8 := by rw [← hx8, ByteArray.size_append, hx7s]; rfl
 have hx14s : x14.size = 11 := by rw [← hx14, ByteArray.size_append, hx8s]; rfl
 have hx15s : x15.size = 12 := by rw [← hx15, ByteArray.size_append, hx14s]; rfl
 have hx19s : x19.size = 16 := by rw [← hx19, ByteArray.size_append, hx15s]; rw [hzp4]
 have hx20s : x20.size = 17 := by rw [← hx20, ByteArray.size_append, hx19s]; rfl
 have hx24s : x24.size = 19 := by rw [← hx24, ByteArray.size_append, hx20s]; rw [hzph]
 have hx25s : x25.size = 20 := by rw [← hx25, ByteArray.size_append, hx24s]; rfl
 have hx29s : x29.size = 22 := by rw [← hx29, ByteArray.size_append, hx25s]; rw [hzpm]
 have hx30s : x30.size = 23 := by rw [← hx30, ByteArray.size_append, hx29s]; rfl
 have hx32s : x32.size = 24 := by rw [← hx32, ByteArray.size_append, hx30s]; rfl
 have hx36s : x36.size = 26 := by rw [← hx36, ByteArray.size_append, hx32s]; rw [hzp0]
 have hx40s : x40.size = 28 := by rw [← hx40, ByteArray.size_append, hx36s]; rw [hzp0]
 have HA3 := Lib.hid (And.intro hx3 (show ¬ 9223372036854775807 < (⟨#[83, 97, 116]⟩ : ByteArray).size + (⟨#[44, 32]⟩ : ByteArray).size by decide))
 have HA7 := Lib.hid (And.intro hx7 (show ¬ 9223372036854775807 < x3.size + p1.size by rw [hx3s, hzp1]; decide))
 have HA8 := Lib.hid (And.intro hx8 (show ¬ 9223372036854775807 < x7.size + 1 by rw [hx7s]; decide))
 have HA14 := Lib.hid (And.intro hx14 (show ¬ 9223372036854775807 < x8.size + 3 by rw [hx8s]; decide))
 have HA15 := Lib.hid (And.intro hx15 (show ¬ 9223372036854775807 < x14.size + 1 by rw [hx14s]; decide))
 have HA19 := Lib.hid (And.intro hx19 (show ¬ 9223372036854775807 < x15.size + p4.size by rw [hx15s, hzp4]; decide))
 have HA20 := Lib.hid (And.intro hx20 (show ¬ 9223372036854775807 < x19.size + 1 by rw [hx19s]; decide))
 have HA24 := Lib.hid (And.intro hx24 (show ¬ 9223372036854775807 < x20.size + ph.size by rw [hx20s, hzph]; decide))
 have HA25 := Lib.hid (And.intro hx25 (show ¬ 9223372036854775807 < x24.size + 1 by rw [hx24s]; decide))
 have HA29 := Lib.hid (And.intro hx29 (show ¬ 9223372036854775807 < x25.size + pm.size by rw [hx25s, hzpm]; decide))
 have HA30 := Lib.hid (And.intro hx30 (show ¬ 9223372036854775807 < x29.size + 1 by rw [hx29s]; decide))
 have HA32 := Lib.hid (And.intro hx32 (show ¬ 9223372036854775807 < x30.size + 1 by rw [hx30s]; decide))
 have HA36 := Lib.hid (And.intro hx36 (show ¬ 9223372036854775807 < x32.size + p0.size by rw [hx32s, hzp0]; decide))
 have HA40 := Lib.hid (And.intro hx40 (show ¬ 9223372036854775807 < x36.size + p0.size by rw [hx36s, hzp0]; decide))
 have HFIN := Lib.hid (show x40 = ⟨(dayT n).toArray⟩ by
  rw [← hx40, ← hx36, ← hx32, ← hx30, ← hx29, ← hx25, ← hx24, ← hx20, ← hx19, ← hx15, ← hx14, ← hx8, ← hx7, ← hx3, ← hp1, ← hp4, ← hph, ← hpm, ← hp0, (pad2 (n := 1) (by decide)).1, pad4.1, (pad2 (n := h) (by omega)).1, (pad2 (n := m) (by omega)).1, (pad2 (n := 0) (by decide)).1, ← hh, ← hm]
  rfl)
 have Hp1 := Lib.hid hp1
 have Hp4 := Lib.hid hp4
 have Hph := Lib.hid hph
 have Hpm := Lib.hid hpm
 have Hp0 := Lib.hid hp0
 have HT0 := Lib.hid htab
 have HHM := Lib.hid (And.intro hh hm)
 clear hp1 hp4 hph hpm hp0 htab hh hm hzp1 hzp4 hzph hzpm hzp0 hx3 hx3s hx7 hx7s hx8 hx8s hx14 hx14s hx15 hx15s hx19 hx19s hx20 hx20s hx24 hx24s hx25 hx25s hx29 hx29s hx30 hx30s hx32 hx32s hx36 hx36s hx40 hx40s
 go_enter Tryz.func126, Tryz.ntmps126
 go_wp2_with (first
  | (go_at_call 120; refine (dValid120 n hn _).mono ?_; rintro e w2 ⟨rfl, rfl⟩)
  | (go_at_call 164; refine (toCivil164 n hn _).mono ?_; rintro e w3 ⟨rfl, hb3⟩; rw [HHM.out.1, HHM.out.2]; unfold vCv; have HB3 := Lib.hid hb3; clear hb3)
  | (go_at_call 119; refine (weekday119 n hn _).mono ?_; rintro e w4 ⟨rfl, rfl⟩))
 have hb4 := Below.step HB3.out (below_alloc w3 (Obj.cells #[.int .i64 2000, .int .i64 1, .int .i64 1, .int .i64 (h : Int), .int .i64 (m : Int)] 145))
 have r4 := Row.new w3 [.int .i64 2000, .int .i64 1, .int .i64 1, .int .i64 (h : Int), .int .i64 (m : Int)] 145
 obtain ⟨g6, hg6⟩ : ∃ g, w3.heap.size = g := ⟨_, rfl⟩
 rw [hg6] at r4 ⊢
 revert hb4 r4
 generalize hW4 : World.alloc w3 _ = W4
 intro hb4 r4
 have HB4 := Lib.hid hb4
 have R4 := Lib.hid r4
 have HT := Lib.hid (tab_below HT0.out hb4)
 clear hb4 r4 hg6 hW4 HB3 HHM
 refine AnyO.wp_anyI (by kernel_rfl) (by kernel_rfl) (AnyO.InvG (σ := Unit) (fun σ => AnyO.pvL [some (vDs), some (.int .i64 5), some (.string ⟨#[83, 97, 116]⟩), some (.string x3), some (.pointer (some ⟨g6, 2, none⟩)), some (.int .i64 1), some (.string p1), some (.string x7), some (.string x8), some (vMs), some (.pointer (some ⟨g6, 1, none⟩)), some (.int .i64 1), some (.int .i64 0), some (.string ⟨#[74, 97, 110]⟩), some (.string x14), some (.string x15), some (.pointer (some ⟨g6, 0, none⟩)), some (.int .i64 2000), some (.string p4), some (.string x19), some (.string x20), some (.pointer (some ⟨g6, 3, none⟩)), some (.int .i64 (h : Int)), some (.string ph), some (.string x24), some (.string x25), some (.pointer (some ⟨g6, 4, none⟩)), some (.int .i64 (m : Int)), some (.string pm), some (.string x29), some (.string x30), some (.string ⟨#[43]⟩), some (.string x32), some (.int .i64 0), some (.int .i64 0), some (.string p0), some (.string x36), some (.int .i64 0), some (.int .i64 0), some (.string p0), some (.string x40), some (.string x40), some (Value.int IntKind.i64 0)]) (fun _ _ u => Below W4.heap.size W4 u)) (AnyO.InvG.start (g := ()) (below_drew W4)) ?_ ?_
 ·intro i hi
  have hi2 : i = 0 ∨ i = 2 ∨ i = 6 ∨ i = 9 ∨ i = 13 ∨ i = 18 ∨ i = 23 ∨ i = 28 ∨ i = 35 ∨ i = 39 ∨ i = 1 ∨ i = 3 ∨ i = 4 ∨ i = 5 ∨ i = 7 ∨ i = 8 ∨ i = 10 ∨ i = 11 ∨ i = 12 ∨ i = 14 ∨ i = 15 ∨ i = 16 ∨ i = 17 ∨ i = 19 ∨ i = 20 ∨ i = 21 ∨ i = 22 ∨ i = 24 ∨ i = 25 ∨ i = 26 ∨ i = 27 ∨ i = 29 ∨ i = 30 ∨ i = 31 ∨ i = 32 ∨ i = 33 ∨ i = 34 ∨ i = 36 ∨ i = 37 ∨ i = 38 ∨ i = 40 ∨ i = 41 ∨ i = 42 := by simp only [List.size_toArray, List.append_eq, List.length_append, List.length_cons, List.length_nil] at hi; omega
  clear hi
  rcases hi2 with rfl | rfl | rfl | rfl | rfl | rfl | rfl | rfl | rfl | rfl | rfl | rfl | rfl | rfl | rfl | rfl | rfl | rfl | rfl | rfl | rfl | rfl | rfl | rfl | rfl | rfl | rfl | rfl | rfl | rfl | rfl | rfl | rfl | rfl | rfl | rfl | rfl | rfl | rfl | rfl | rfl | rfl | rfl
  ·refine AnyO.I rfl [] ?_; rintro D vs u σ Q h0 hC hp ac hb K hK
   go_simp
   go_at_call 146
   refine (dayNames146 u).mono ?_
   rintro e w2 ⟨rfl, hb2⟩
   exact hK _ _ (AnyO.InvG.step (g := σ) Q.out.1 rfl (Below.step Q.out.2 hb2))
  ·refine AnyO.I rfl [0, 1] ?_; rintro D vs u σ Q h0 hC hp ac hb K hK
   have s47 : _ = _ := AnyO.sv 47 0 hb hp Q
   have s48 : _ = _ := AnyO.sv 48 1 hb hp Q
   unfold vDs dayS at *
   go_simp; exact hK _ _ (AnyO.InvG.step (g := σ) Q.out.1 rfl Q.out.2)
  ·refine AnyO.I rfl [5, 0] ?_; rintro D vs u σ Q h0 hC hp ac hb K hK
   have s52 : _ = _ := AnyO.sv 52 5 hb hp Q
   go_simp
   go_at_call 165
   refine (padded165 1 2 (by decide) (by decide) HLp1.out u (tab_below HT.out Q.out.2)).mono ?_
   rintro e w2 ⟨rfl, hb2⟩
   rw [Hp1.out]
   exact hK _ _ (AnyO.InvG.step (g := σ) Q.out.1 rfl (Below.step Q.out.2 hb2))
  ·refine AnyO.I rfl [6] ?_; rintro D vs u σ Q h0 hC hp ac hb K hK
   go_simp
   go_at_call 147
   refine (monthNames147 u).mono ?_
   rintro e w2 ⟨rfl, hb2⟩
   exact hK _ _ (AnyO.InvG.step (g := σ) Q.out.1 rfl (Below.step Q.out.2 hb2))
  ·refine AnyO.I rfl [9, 12] ?_; rintro D vs u σ Q h0 hC hp ac hb K hK
   have s56 : _ = _ := AnyO.sv 56 9 hb hp Q
   have s59 : _ = _ := AnyO.sv 59 12 hb hp Q
   unfold vMs monS at *
   go_simp; exact hK _ _ (AnyO.InvG.step (g := σ) Q.out.1 rfl Q.out.2)
  ·refine AnyO.I rfl [17, 9] ?_; rintro D vs u σ Q h0 hC hp ac hb K hK
   have s64 : _ = _ := AnyO.sv 64 17 hb hp Q
   go_simp
   go_at_call 165
   refine (padded165 2000 4 (by decide) (by decide) HLp4.out u (tab_below HT.out Q.out.2)).mono ?_
   rintro e w2 ⟨rfl, hb2⟩
   rw [Hp4.out]
   exact hK _ _ (AnyO.InvG.step (g := σ) Q.out.1 rfl (Below.step Q.out.2 hb2))
  ·refine AnyO.I rfl [22, 18] ?_; rintro D vs u σ Q h0 hC hp ac hb K hK
   have s69 : _ = _ := AnyO.sv 69 22 hb hp Q
   go_simp
   go_at_call 165
   refine (padded165 h 2 (by decide) (by omega) HLph.out u (tab_below HT.out Q.out.2)).mono ?_
   rintro e w2 ⟨rfl, hb2⟩
   rw [Hph.out]
   exact hK _ _ (AnyO.InvG.step (g := σ) Q.out.1 rfl (Below.step Q.out.2 hb2))
  ·refine AnyO.I rfl [27, 23] ?_; rintro D vs u σ Q h0 hC hp ac hb K hK
   have s74 : _ = _ := AnyO.sv 74 27 hb hp Q
   go_simp
   go_at_call 165
   refine (padded165 m 2 (by decide) (by omega) HLpm.out u (tab_below HT.out Q.out.2)).mono ?_
   rintro e w2 ⟨rfl, hb2⟩
   rw [Hpm.out]
   exact hK _ _ (AnyO.InvG.step (g := σ) Q.out.1 rfl (Below.step Q.out.2 hb2))
  ·refine AnyO.I rfl [34, 28] ?_; rintro D vs u σ Q h0 hC hp ac hb K hK
   have s81 : _ = _ := AnyO.sv 81 34 hb hp Q
   go_simp
   go_at_call 165
   refine (padded165 0 2 (by decide) (by decide) HLp0.out u (tab_below HT.out Q.out.2)).mono ?_
   rintro e w2 ⟨rfl, hb2⟩
   rw [Hp0.out]
   exact hK _ _ (AnyO.InvG.step (g := σ) Q.out.1 rfl (Below.step Q.out.2 hb2))
  ·refine AnyO.I rfl [38, 35] ?_; rintro D vs u σ Q h0 hC hp ac hb K hK
   have s85 : _ = _ := AnyO.sv 85 38 hb hp Q
   go_simp
   go_at_call 165
   refine (padded165 0 2 (by decide) (by decide) HLp0.out u (tab_below HT.out Q.out.2)).mono ?_
   rintro e w2 ⟨rfl, hb2⟩
   rw [Hp0.out]
   exact hK _ _ (AnyO.InvG.step (g := σ) Q.out.1 rfl (Below.step Q.out.2 hb2))
  all_goals
   refine AnyO.J rfl ?_; rintro D vs u σ Q h0 hC hp ac hb K hK
   try have s8 : ac.tmps[8]?.getD undef = .int .i64 5 := by rw [hb.out]; kernel_rfl
   try have s49 : _ = _ := AnyO.sv 49 2 hb hp Q
   try have s6 : ac.tmps[6]?.getD undef = .pointer (some ⟨g6, 0, none⟩) := by rw [hb.out]; kernel_rfl
   try have s51 : _ = _ := AnyO.sv 51 4 hb hp Q
   try have s50 : _ = _ := AnyO.sv 50 3 hb hp Q
   try have s53 : _ = _ := AnyO.sv 53 6 hb hp Q
   try have s54 : _ = _ := AnyO.sv 54 7 hb hp Q
   try have s57 : _ = _ := AnyO.sv 57 10 hb hp Q
   try have s58 : _ = _ := AnyO.sv 58 11 hb hp Q
   try have s55 : _ = _ := AnyO.sv 55 8 hb hp Q
   try have s60 : _ = _ := AnyO.sv 60 13 hb hp Q
   try have s61 : _ = _ := AnyO.sv 61 14 hb hp Q
   try have s63 : _ = _ := AnyO.sv 63 16 hb hp Q
   try have s62 : _ = _ := AnyO.sv 62 15 hb hp Q
   try have s65 : _ = _ := AnyO.sv 65 18 hb hp Q
   try have s66 : _ = _ := AnyO.sv 66 19 hb hp Q
   try have s68 : _ = _ := AnyO.sv 68 21 hb hp Q
   try have s67 : _ = _ := AnyO.sv 67 20 hb hp Q
   try have s70 : _ = _ := AnyO.sv 70 23 hb hp Q
   try have s71 : _ = _ := AnyO.sv 71 24 hb hp Q
   try have s73 : _ = _ := AnyO.sv 73 26 hb hp Q
   try have s72 : _ = _ := AnyO.sv 72 25 hb hp Q
   try have s75 : _ = _ := AnyO.sv 75 28 hb hp Q
   try have s76 : _ = _ := AnyO.sv 76 29 hb hp Q
   try have s10 : ac.tmps[10]?.getD undef = .string ⟨#[43]⟩ := by rw [hb.out]; kernel_rfl
   try have s77 : _ = _ := AnyO.sv 77 30 hb hp Q
   try have s78 : _ = _ := AnyO.sv 78 31 hb hp Q
   try have s1 : ac.tmps[1]?.getD undef = .int .i64 0 := by rw [hb.out]; kernel_rfl
   try have s80 : _ = _ := AnyO.sv 80 33 hb hp Q
   try have s79 : _ = _ := AnyO.sv 79 32 hb hp Q
   try have s82 : _ = _ := AnyO.sv 82 35 hb hp Q
   try have s84 : _ = _ := AnyO.sv 84 37 hb hp Q
   try have s83 : _ = _ := AnyO.sv 83 36 hb hp Q
   try have s86 : _ = _ := AnyO.sv 86 39 hb hp Q
   try have s87 : _ = _ := AnyO.sv 87 40 hb hp Q
   have hadd_0 := HA3.out.1
   have hz_0 := HA3.out.2
   have rr1_1 : u.cell? ⟨g6, 2, none⟩ = some (.int .i64 1) := (R4.out.keep Q.out.2).cell 2
   have hadd_2 := HA7.out.1
   have hz_2 := HA7.out.2
   have hadd_3 := HA8.out.1
   have hz_3 := HA8.out.2
   have rr1_4 : u.cell? ⟨g6, 1, none⟩ = some (.int .i64 1) := (R4.out.keep Q.out.2).cell 1
   have hadd_5 := HA14.out.1
   have hz_5 := HA14.out.2
   have hadd_6 := HA15.out.1
   have hz_6 := HA15.out.2
   have rr1_7 : u.cell? ⟨g6, 0, none⟩ = some (.int .i64 2000) := (R4.out.keep Q.out.2).cell 0
   have hadd_8 := HA19.out.1
   have hz_8 := HA19.out.2
   have hadd_9 := HA20.out.1
   have hz_9 := HA20.out.2
   have rr1_10 : u.cell? ⟨g6, 3, none⟩ = some (.int .i64 (h : Int)) := (R4.out.keep Q.out.2).cell 3
   have hadd_11 := HA24.out.1
   have hz_11 := HA24.out.2
   have hadd_12 := HA25.out.1
   have hz_12 := HA25.out.2
   have rr1_13 : u.cell? ⟨g6, 4, none⟩ = some (.int .i64 (m : Int)) := (R4.out.keep Q.out.2).cell 4
   have hadd_14 := HA29.out.1
   have hz_14 := HA29.out.2
   have hadd_15 := HA30.out.1
   have hz_15 := HA30.out.2
   have hadd_16 := HA32.out.1
   have hz_16 := HA32.out.2
   have hadd_17 := HA36.out.1
   have hz_17 := HA36.out.2
   have hadd_18 := HA40.out.1
   have hz_18 := HA40.out.2
   go_simp
   exact hK _ _ (AnyO.InvG.step (g := σ) Q.out.1 rfl Q.out.2)
 ·intro D vs u hI hD
  obtain ⟨σ, hP, hW⟩ := hI
  have e0 : _ = _ := hP 0 (hD 0 (by decide))
  have e1 : _ = _ := hP 1 (hD 1 (by decide))
  have e2 : _ = _ := hP 2 (hD 2 (by decide))
  have e3 : _ = _ := hP 3 (hD 3 (by decide))
  have e4 : _ = _ := hP 4 (hD 4 (by decide))
  have e5 : _ = _ := hP 5 (hD 5 (by decide))
  have e6 : _ = _ := hP 6 (hD 6 (by decide))
  have e7 : _ = _ := hP 7 (hD 7 (by decide))
  have e8 : _ = _ := hP 8 (hD 8 (by decide))
  have e9 : _ = _ := hP 9 (hD 9 (by decide))
  have e10 : _ = _ := hP 10 (hD 10 (by decide))
  have e11 : _ = _ := hP 11 (hD 11 (by decide))
  have e12 : _ = _ := hP 12 (hD 12 (by decide))
  have e13 : _ = _ := hP 13 (hD 13 (by decide))
  have e14 : _ = _ := hP 14 (hD 14 (by decide))
  have e15 : _ = _ := hP 15 (hD 15 (by decide))
  have e16 : _ = _ := hP 16 (hD 16 (by decide))
  have e17 : _ = _ := hP 17 (hD 17 (by decide))
  have e18 : _ = _ := hP 18 (hD 18 (by decide))
  have e19 : _ = _ := hP 19 (hD 19 (by decide))
  have e20 : _ = _ := hP 20 (hD 20 (by decide))
  have e21 : _ = _ := hP 21 (hD 21 (by decide))
  have e22 : _ = _ := hP 22 (hD 22 (by decide))
  have e23 : _ = _ := hP 23 (hD 23 (by decide))
  have e24 : _ = _ := hP 24 (hD 24 (by decide))
  have e25 : _ = _ := hP 25 (hD 25 (by decide))
  have e26 : _ = _ := hP 26 (hD 26 (by decide))
  have e27 : _ = _ := hP 27 (hD 27 (by decide))
  have e28 : _ = _ := hP 28 (hD 28 (by decide))
  have e29 : _ = _ := hP 29 (hD 29 (by decide))
  have e30 : _ = _ := hP 30 (hD 30 (by decide))
  have e31 : _ = _ := hP 31 (hD 31 (by decide))
  have e32 : _ = _ := hP 32 (hD 32 (by decide))
  have e33 : _ = _ := hP 33 (hD 33 (by decide))
  have e34 : _ = _ := hP 34 (hD 34 (by decide))
  have e35 : _ = _ := hP 35 (hD 35 (by decide))
  have e36 : _ = _ := hP 36 (hD 36 (by decide))
  have e37 : _ = _ := hP 37 (hD 37 (by decide))
  have e38 : _ = _ := hP 38 (hD 38 (by decide))
  have e39 : _ = _ := hP 39 (hD 39 (by decide))
  have e40 : _ = _ := hP 40 (hD 40 (by decide))
  have e41 : _ = _ := hP 41 (hD 41 (by decide))
  have e42 : _ = _ := hP 42 (hD 42 (by decide))
  have HW := Lib.hid hW
  clear hW hP hD
  rw [puts_range [some 47, some 48, some 49, some 50, some 51, some 52, some 53, some 54, some 55, some 56, some 57, some 58, some 59, some 60, some 61, some 62, some 63, some 64, some 65, some 66, some 67, some 68, some 69, some 70, some 71, some 72, some 73, some 74, some 75, some 76, some 77, some 78, some 79, some 80, some 81, some 82, some 83, some 84, some 85, some 86, some 87, some 4, some 5] (by kernel_rfl)]
  simp only [putL, Nat.reduceAdd, e0, e1, e2, e3, e4, e5, e6, e7, e8, e9, e10, e11, e12, e13, e14, e15, e16, e17, e18, e19, e20, e21, e22, e23, e24, e25, e26, e27, e28, e29, e30, e31, e32, e33, e34, e35, e36, e37, e38, e39, e40, e41, e42]
  clear e0 e1 e2 e3 e4 e5 e6 e7 e8 e9 e10 e11 e12 e13 e14 e15 e16 e17 e18 e19 e20 e21 e22 e23 e24 e25 e26 e27 e28 e29 e30 e31 e32 e33 e34 e35 e36 e37 e38 e39 e40 e41 e42
  go_simp
  go_wp2
  go_ret2
  exact ⟨by rw [← HFIN.out]; rfl, Below.step HB4.out HW.out⟩
theorem format87 (n : Nat) (hn : n ≤ 1439) (w : World) (htab : Lib.TabIs Tryz.prog w "internal/strconv.uint64pow10" .u64 Lib.pow10Tab) : Calls Tryz.prog 87 #[.int .i64 (n : Int)] w fun e w' => e = .returned (.tuple #[.string ⟨(dayT n).toArray⟩, .int .i64 0]) ∧ Below w.heap.size w w' := by
 have H := Lib.hid (formatZone126 n hn w htab)
 clear htab
 go_enter Tryz.func87, Tryz.ntmps87
 go_wp2_with (go_at_call 126; refine H.out.mono ?_; rintro e w2 ⟨rfl, hb2⟩; have HB := Lib.hid hb2; clear hb2)
 go_ret2
 exact ⟨rfl, HB.out⟩
end Go.Proofs.YtibelollgdnidaaGreatDoor
