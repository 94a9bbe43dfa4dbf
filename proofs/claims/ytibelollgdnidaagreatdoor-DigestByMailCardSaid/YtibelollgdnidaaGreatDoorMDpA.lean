/- What a call turns that stores into one block. -/
import Derived.Test.YtibelollgdnidaaGreatDoorMMsA
namespace Go.Proofs.YtibelollgdnidaaGreatDoor
open Go.RowKit
structure One (g : Nat) (w w' : World) : Prop where
 os : w'.os = w.os
 tape : w'.tape = w.tape
 output : w'.output = w.output
 size : w.heap.size ≤ w'.heap.size
 out : ∀ k, k < w.heap.size → k ≠ g → w'.heap[k]? = w.heap[k]?
section
variable {g : Nat} {w w' w'' : World}
theorem One.refl : One g w w := ⟨rfl, rfl, rfl, Nat.le_refl _, fun _ _ _ => rfl⟩
theorem One.trans (h : One g w w') (k : One g w' w'') : One g w w'' := ⟨k.os.trans h.os, k.tape.trans h.tape, k.output.trans h.output, Nat.le_trans h.size k.size, fun j hj hg => (k.out j (Nat.lt_of_lt_of_le hj h.size) hg).trans (h.out j hj hg)⟩
theorem One.of_below (h : Below w.heap.size w w') : One g w w' := ⟨h.os, h.tape, h.output, h.size, fun k hk _ => h.block k hk⟩
theorem One.set (k : Nat) (v : Value) : One g w (w.setCell ⟨g, k, none⟩ v) := ⟨rfl, rfl, rfl, by simp [World.setCell], fun j _ hj => heap_set_other w g k v j hj⟩
theorem One.stD (k : Nat) (ds : List Value) : One g w (stD w g k ds) := by
 obtain ⟨h1, h2, h3⟩ := setCells_os g ds k w
 exact ⟨h1, h2, h3, Nat.le_of_eq (setCells_size g ds k w).symm, fun j _ hj => heap_stD_other w g k ds j hj⟩
theorem One.row {b : Nat} {cs : List Value} {t : TypeId} (h : One g w w') (hr : Row w b cs t) (hb : b ≠ g) : Row w' b cs t := hr.same (h.out b hr.lt hb)
theorem One.below {B : Nat} (h : One g w w') (hB : B ≤ g) (hw : B ≤ w.heap.size) : Below B w w' := ⟨h.os, h.tape, h.output, h.size, fun k hk => h.out k (Nat.lt_of_lt_of_le hk hw) (by omega)⟩
end
open Go.RowKit
def BRow (w : World) (g : Nat) (l : List UInt8) : Prop := ∃ (cs : Array Value) (t : TypeId) (n : Nat), w.heap[g]? = some (.cells cs t (n, n + 1)) ∧ l.length ≤ n ∧ n ≤ cs.size ∧ ∀ (j : Nat) (u : Value), (l.map cB)[j]? = some u → cs[j]? = some u
section
variable {w w' : World} {g : Nat} {l : List UInt8}
theorem BRow.lt (h : BRow w g l) : g < w.heap.size := by
 obtain ⟨cs, t, n, h1, -⟩ := h
 exact (Array.getElem?_eq_some_iff.1 h1).1
theorem BRow.keep (h : BRow w g l) (hb : Below w.heap.size w w') : BRow w' g l := by
 have hl := h.lt
 obtain ⟨cs, t, n, h1, h2⟩ := h
 exact ⟨cs, t, n, (hb.block g hl).trans h1, h2⟩
theorem BRow.same (h : BRow w g l) (hb : w'.heap[g]? = w.heap[g]?) : BRow w' g l := by
 obtain ⟨cs, t, n, h1, h2⟩ := h
 exact ⟨cs, t, n, hb.trans h1, h2⟩
theorem BRow.cell (h : BRow w g l) (k : Nat) (c : UInt8) (hc : l[k]? = some c) : w.cell? ⟨g, k, none⟩ = some (cB c) := by
 obtain ⟨cs, t, n, h1, -, -, h4⟩ := h
 have := h4 k (cB c) (by rw [List.getElem?_map, hc]; rfl)
 simp [World.cell?, h1, this]
theorem BRow.fz (h : BRow w g l) (k : Nat) (hk : k < l.length) : w.frozen? ⟨g, k, none⟩ = false := by
 obtain ⟨cs, t, n, h1, h2, -, -⟩ := h
 simp [World.frozen?, h1]
 omega
theorem BRow.sl (h : BRow w g l) : Sl w c1 (some ⟨g, 0, none⟩) l := by
 refine Sl.ofAt ⟨h.lt, fun j u hu => ?_⟩
 obtain ⟨cs, t, n, h1, -, -, h4⟩ := h
 rw [add_off, Nat.zero_add]
 have := h4 j u hu
 simp [World.cell?, h1, this]
theorem BRow.set (h : BRow w g l) (k : Nat) (c : UInt8) (hk : k < l.length) : BRow (w.setCell ⟨g, k, none⟩ (cB c)) g (l.set k c) := by
 obtain ⟨cs, t, n, h1, h2, h3, h4⟩ := h
 refine ⟨cs.setIfInBounds k (cB c), t, n, ?_, by rw [List.length_set]; exact h2, by simpa using h3, fun j u hu => ?_⟩
 ·simp only [World.setCell, Array.getElem?_modify, h1]
  simp
 ·rw [List.map_set] at hu
  rw [Array.getElem?_setIfInBounds]
  by_cases e : k = j
  ·subst e
   rw [List.getElem?_set_self (by rw [List.length_map]; exact hk)] at hu
   rw [if_pos rfl, if_pos (by omega)]
   exact hu
  ·rw [List.getElem?_set_ne e] at hu
   rw [if_neg e]
   exact h4 j u hu
end
theorem conv_brow (w : World) (s : ByteArray) : ∃ c w', (convert 9 23 (.string s)).run Tryz.prog w = .ok (.slice (some ⟨w.heap.size, 0, none⟩) s.size c) w' ∧ Below w.heap.size w w' ∧ BRow w' w.heap.size (bl s) ∧ s.size ≤ c ∧ w'.heap.size = w.heap.size + 1 := by
 refine ⟨_, _, Lib.run_convert_string_bytes w 9 23 5 s Tryz.underlying9 underBs Tryz.underlying5, ⟨rfl, rfl, rfl, by rw [Lib.bytesWorld_size]; omega, fun k hk => Lib.bytesWorld_at_old w _ s k hk⟩, ?_, grownCap_ge _ _ _ _, Lib.bytesWorld_size _ _ _⟩
 refine ⟨_, _, _, Lib.bytesWorld_at_new w _ s, ?_, Nat.le_refl _, fun j u hu => ?_⟩
 ·rw [bl_length]
  simp only [Lib.bytesCells, Array.size_append, Array.size_map]
  show s.size ≤ s.data.size + _
  have : s.data.size = s.size := rfl
  omega
 ·have hj : j < s.size := by
   have := (List.getElem?_eq_some_iff.1 hu).1
   rwa [List.length_map, bl_length] at this
  have h1 := Lib.bytesWorld_cell w 5 s j hj
  rw [List.getElem?_map, List.getElem?_eq_getElem (by rw [bl_length]; exact hj)] at hu
  have hu2 : u = cB ((bl s)[j]'(by rw [bl_length]; exact hj)) := (Option.some.inj hu).symm
  subst hu2
  simp only [World.cell?, Lib.bytesWorld_at_new] at h1
  have h2 : (Lib.bytesCells w 5 s)[j]? = some (.int .u8 ((s.data.toList.getD j 0).toNat : Int)) := by simpa using h1
  rw [h2, List.getD_eq_getElem?_getD, List.getElem?_eq_getElem (show j < s.data.toList.length from by rw [← bl_length] at hj; exact hj)]
  rfl
theorem conv_any {w : World} {A : Option Addr} {n c : Nat} {l : List UInt8} (h : Sl w c1 A l) (hn : l.length = n) : (convert 23 9 (.slice A n c)).run Tryz.prog w = .ok (.string ⟨l.toArray⟩) w := by
 cases A with
 | some ad => exact conv_bs h hn (by simp)
 | none =>
  have h0 : l = [] := by
   refine Classical.byContradiction fun hne => ?_
   obtain ⟨ad, e, _⟩ := h hne
   cases e
  subst h0
  subst hn
  exact run_convert_bytes_nil w 23 5 underBs Tryz.underlying5 0 c 9 Tryz.underlying9
open Go.RowKit
def upB (c : UInt8) : UInt8 := if 97 ≤ c.toNat ∧ c.toNat ≤ 122 then c - 32 else c
def capL (l : List UInt8) : List UInt8 := l.map upB
theorem cap_step (l : List UInt8) (k : Nat) (hk : k < l.length) : (capL (l.take k) ++ l.drop k).set k (upB l[k]) = capL (l.take (k + 1)) ++ l.drop (k + 1) := by
 have hl : (capL (l.take k)).length = k := by unfold capL; rw [List.length_map, List.length_take]; omega
 rw [List.set_append_right _ _ (by omega), hl, Nat.sub_self, List.drop_eq_getElem_cons hk, List.set_cons_zero, List.take_succ_eq_append_getElem hk]
 unfold capL
 rw [List.map_append, List.append_assoc]
 rfl
theorem cap_at (l : List UInt8) (k : Nat) (hk : k < l.length) : (capL (l.take k) ++ l.drop k)[k]? = some l[k] := by
 have hl : (capL (l.take k)).length = k := by unfold capL; rw [List.length_map, List.length_take]; omega
 rw [List.getElem?_append_right (by omega), hl, Nat.sub_self, List.drop_eq_getElem_cons hk]
 rfl
theorem cap_same (l : List UInt8) (k : Nat) (hk : k < l.length) (h : upB l[k] = l[k]) : capL (l.take (k + 1)) ++ l.drop (k + 1) = capL (l.take k) ++ l.drop k := by
 rw [List.take_succ_eq_append_getElem hk, List.drop_eq_getElem_cons hk]
 unfold capL
 rw [List.map_append, List.append_assoc]
 show _ ++ ([upB l[k]] ++ _) = _
 rw [h]
 rfl
set_option maxRecDepth 100000 in
theorem capital181 (s : ByteArray) (hs : s.size ≤ 1000) (w : World) : Calls Tryz.prog 181 #[.string s] w fun e w' => e = .returned (.string ⟨(capL (bl s)).toArray⟩) ∧ Below w.heap.size w w' := by
 obtain ⟨n, hn⟩ : ∃ n, s.size = n := ⟨_, rfl⟩
 obtain ⟨c, w1, hcv, hb1, hr1, hcn, -⟩ := conv_brow w s
 obtain ⟨g, hg⟩ : ∃ g, w.heap.size = g := ⟨_, rfl⟩
 obtain ⟨l, hl⟩ : ∃ l, bl s = l := ⟨_, rfl⟩
 have hln : l.length = n := by rw [← hl, bl_length, hn]
 rw [hn] at hcv hcn hs
 rw [hg] at hcv hr1
 rw [hl] at hr1
 have H1 := Lib.hid (And.intro hb1 hr1)
 have HL := Lib.hid (And.intro hl hln)
 have HG := Lib.hid hg
 have hcn2 : (n : Int) ≤ (c : Int) := by omega
 clear hb1 hr1 hl hln hg
 go_enter Tryz.func181, Tryz.ntmps181
 go_wp2
 go_loopw [4, 5, 10] (fun _ _ i wr => ∃ k : Nat, k ≤ n ∧ i = .int .i64 (k : Int) ∧ BRow wr g (capL (l.take k) ++ l.drop k) ∧ One g w1 wr) (fun _ _ i _ => n - (intOf i).toNat)
 case atStart => exact ⟨0, Nat.zero_le _, rfl, H1.out.2, One.refl⟩
 case round =>
  obtain ⟨k, hk, rfl, hr, ho⟩ := hrel
  have HR := Lib.hid (And.intro hr ho)
  by_cases hlt : k < n
  ·have hki : (k : Int) < (n : Int) := by omega
   have hkl : k < l.length := by rw [HL.out.2]; exact hlt
   obtain ⟨x, hx⟩ : ∃ x : UInt8, l[k]'hkl = x := ⟨_, rfl⟩
   have hat := cap_at l k hkl
   have hst := cap_step l k hkl
   rw [hx] at hat hst
   have kc : wr.cell? ⟨g, k, none⟩ = some (.int .u8 (x.toNat : Int)) := hr.cell k x hat
   have kf := hr.fz k (List.getElem?_eq_some_iff.1 hat).1
   have HST := Lib.hid (And.intro hst (List.getElem?_eq_some_iff.1 hat).1)
   have hkc : (k : Int) + 1 ≤ (c : Int) := by omega
   have HX := Lib.hid hx
   clear hr ho hat hst hx
   by_cases h1 : 97 ≤ x.toNat
   ·by_cases h2 : x.toNat ≤ 122
    ·have h1i : 97 ≤ (x.toNat : Int) := by omega
     have h2i : (x.toNat : Int) ≤ 122 := by omega
     have hup : upB x = x - 32 := if_pos ⟨h1, h2⟩
     have hsub : (x.toNat : Int) - 32 = ((x - 32).toNat : Int) := by
      rw [UInt8.toNat_sub_of_le _ _ (by show (32 : UInt8).toNat ≤ x.toNat; exact Nat.le_trans (by decide) h1)]
      show (x.toNat : Int) - 32 = ((x.toNat - 32 : Nat) : Int)
      omega
     have HUP := Lib.hid (And.intro hup hsub)
     clear h1 h2 hup hsub
     go_wp2
     refine ⟨⟨k + 1, hlt, by go_num, ?_, HR.out.2.trans (One.set k _)⟩, by simp [intOf]; omega⟩
     rw [HUP.out.2]
     have h := HR.out.1.set k (x - 32) HST.out.2
     rw [← HUP.out.1, HST.out.1, HUP.out.1] at h
     exact h
    ·have h1i : 97 ≤ (x.toNat : Int) := by omega
     have h2i : ¬ (x.toNat : Int) ≤ 122 := by omega
     have HUP := Lib.hid (show upB x = x from if_neg (fun h => h2 h.2))
     clear h1 h2
     go_wp2
     go_roundw
     case rel => exact ⟨k + 1, hlt, by go_num, by rw [cap_same l k hkl (by rw [HX.out]; exact HUP.out)]; exact HR.out.1, HR.out.2⟩
     case measure => simp [intOf]; omega
   ·have h1i : ¬ 97 ≤ (x.toNat : Int) := by omega
    have HUP := Lib.hid (show upB x = x from if_neg (fun h => h1 h.1))
    clear h1
    go_wp2
    go_roundw
    case rel => exact ⟨k + 1, hlt, by go_num, by rw [cap_same l k hkl (by rw [HX.out]; exact HUP.out)]; exact HR.out.1, HR.out.2⟩
    case measure => simp [intOf]; omega
  ·obtain rfl : k = n := by omega
   have hall : capL (l.take k) ++ l.drop k = capL l := by
    rw [List.take_of_length_le (by rw [HL.out.2]; exact Nat.le_refl _), List.drop_of_length_le (by rw [HL.out.2]; exact Nat.le_refl _), List.append_nil]
   rw [hall] at hr
   have hcv2 : (convert 23 9 (.slice (some ⟨g, 0, none⟩) k c)).run Tryz.prog wr = .ok (.string ⟨(capL l).toArray⟩) wr := conv_any hr.sl (by unfold capL; rw [List.length_map]; exact HL.out.2)
   clear hr ho
   go_wp2
   go_ret
   exact ⟨by rw [HL.out.1]; rfl, H1.out.1.trans (HR.out.2.below (Nat.le_of_eq HG.out) H1.out.1.size)⟩
open Go.RowKit
def lnT (l : List (List UInt8)) : List UInt8 := l.flatMap fun x => x ++ [10]
theorem lnT_cons (x : List UInt8) (l : List (List UInt8)) : lnT (x :: l) = x ++ 10 :: lnT l := by simp [lnT]
theorem lnT_append (a b : List (List UInt8)) : lnT (a ++ b) = lnT a ++ lnT b := by simp [lnT]
def nlB (l : List UInt8) : Prop := (10 : UInt8) ∉ l
def sepL : List UInt8 := List.replicate 30 45
def protL (l : List UInt8) : List UInt8 := if l.head? = some 45 then 45 :: 32 :: l else l
theorem prot_nl {l : List UInt8} (h : nlB l) : nlB (protL l) := by
 unfold protL nlB at *
 split
 ·intro hm
  rcases List.mem_cons.1 hm with e | hm
  ·exact absurd e (by decide)
  ·rcases List.mem_cons.1 hm with e | hm
   ·exact absurd e (by decide)
   ·exact h hm
 ·exact h
theorem prot_sep (l : List UInt8) : protL l ≠ sepL := by
 unfold protL
 split
 ·intro e
  have h2 : (some 32 : Option UInt8) = some 45 := congrArg (fun x : List UInt8 => x[1]?) e
  exact absurd h2 (by decide)
 ·rename_i hh
  intro e
  rw [e] at hh
  exact hh rfl
theorem split_nl (s : List UInt8) : ∀ cur, nlB cur → ∀ l ∈ splitGo 10 cur s, nlB l := by
 induction s with
 | nil => intro cur hc l hl; simp only [splitGo, List.mem_singleton] at hl; rw [hl]; exact hc
 | cons x xs ih =>
  intro cur hc l hl
  rw [splitGo] at hl
  split at hl
  ·rcases List.mem_cons.1 hl with rfl | hl
   ·exact hc
   ·exact ih [] (by simp [nlB]) l hl
  ·rename_i hx
   refine ih (cur ++ [x]) (fun hm => ?_) l hl
   rcases List.mem_append.1 hm with hm | hm
   ·exact hc hm
   ·exact hx (List.mem_singleton.1 hm).symm
theorem split_cr (s : List UInt8) (h13 : (13 : UInt8) ∉ s) : ∀ cur, (13 : UInt8) ∉ cur → ∀ l ∈ splitGo 10 cur s, (13 : UInt8) ∉ l := by
 induction s with
 | nil => intro cur hc l hl; simp only [splitGo, List.mem_singleton] at hl; rw [hl]; exact hc
 | cons x xs ih =>
  intro cur hc l hl
  rw [splitGo] at hl
  split at hl
  ·rcases List.mem_cons.1 hl with rfl | hl
   ·exact hc
   ·exact ih (fun hm => h13 (List.mem_cons_of_mem _ hm)) [] (by simp) l hl
  ·refine ih (fun hm => h13 (List.mem_cons_of_mem _ hm)) (cur ++ [x]) (fun hm => ?_) l hl
   rcases List.mem_append.1 hm with hm | hm
   ·exact hc hm
   ·exact h13 (by rw [List.mem_singleton.1 hm]; exact List.mem_cons_self)
end Go.Proofs.YtibelollgdnidaaGreatDoor
