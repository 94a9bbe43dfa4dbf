/- field: names: letters; searches in bytes; ascii.Printable. -/
import Derived.Test.YtibelollgdnidaaGreatDoorMMl4
namespace Go.Proofs.YtibelollgdnidaaGreatDoor
open Go.RowKit
def ucB (c : UInt8) : Bool := decide (65 ≤ c.toNat) && decide (c.toNat ≤ 90)
def ltB (c : UInt8) : Bool := loB c || ucB c
section
set_option maxHeartbeats 400000
theorem isUpper_b (c : UInt8) (w : World) : Calls Tryz.prog 174 #[vB c] w fun e w' => e = .returned (.bool (ucB c)) ∧ w = w' := by
 go_enter Tryz.func174, Tryz.ntmps174
 go_wp2
 all_goals
  go_ret
  exact ⟨ret_bool (by unfold ucB; rw [Bool.eq_iff_iff]; simp; try omega), rfl⟩
theorem isLetter_y (c : UInt8) (h : ltB c = true) (w : World) : Calls Tryz.prog 137 #[vB c] w fun e w' => e = .returned (.bool true) ∧ w = w' := by
 rcases h1 : loB c with _ | _
 ·have h2 : ucB c = true := by unfold ltB at h; rwa [h1, Bool.false_or] at h
  clear h
  go_enter Tryz.func137, Tryz.ntmps137
  go_wp2_with (first
   | (go_at_call 68; refine (isLower_b _ _).mono ?_; rintro e w' ⟨rfl, rfl⟩; rw [h1])
   | (go_at_call 174; refine (isUpper_b _ _).mono ?_; rintro e w' ⟨rfl, rfl⟩; rw [h2]))
  go_ret
  exact ⟨rfl, rfl⟩
 ·clear h
  go_enter Tryz.func137, Tryz.ntmps137
  go_wp2_with (go_at_call 68; refine (isLower_b _ _).mono ?_; rintro e w' ⟨rfl, rfl⟩; rw [h1])
  go_ret
  exact ⟨rfl, rfl⟩
theorem nm139_y (c : UInt8) (h : ltB c = true) (w : World) : Calls Tryz.prog 139 #[vB c] w fun e w' => e = .returned (.bool false) ∧ w = w' := by
 go_enter Tryz.func139, Tryz.ntmps139
 go_wp2_with (go_at_call 137; refine (isLetter_y _ h _).mono ?_; rintro e w' ⟨rfl, rfl⟩)
 go_ret
 exact ⟨rfl, rfl⟩
end
set_option maxRecDepth 100000 in
theorem indexFuncB (f : Nat) (g c : Nat) (l : List UInt8) (w : World) (hc : ∀ x ∈ l, ∀ w : World, Calls Tryz.prog f #[vB x] w fun e w' => e = .returned (.bool false) ∧ w = w') (hcf : ∀ (args : Array Value) (W : World), Sem.run Tryz.prog (callFunc f args) W = .ok (.enter f args) W)
  (hat : At w ⟨g, 0, none⟩ (l.map cB)) (hl : l.length ≤ 1000000) : Calls Tryz.prog 103 #[.slice (some ⟨g, 0, none⟩) l.length c, .func (.func f) #[] #[]] w fun e w' => e = .returned (.int .i64 (-1)) ∧ w' = w := by
 obtain ⟨n, hn⟩ : ∃ n, l.length = n := ⟨_, rfl⟩
 have HC := Lib.hid (And.intro hc (And.intro hat hn))
 rw [hn] at hl ⊢
 clear hc hat hn
 go_enter Tryz.func103, Tryz.ntmps103
 go_wp2
 go_loopw [5, 8] (fun _ i wr => ∃ k : Nat, k ≤ n ∧ i = .int .i64 (k : Int) ∧ wr = w) (fun _ i _ => n - (intOf i).toNat)
 case atStart => exact ⟨0, Nat.zero_le _, rfl, rfl⟩
 case round =>
  obtain ⟨k, hk, rfl, hwr⟩ := hrel
  obtain rfl := hwr.symm
  by_cases hlt : k < n
  ·have hki : (k : Int) < (n : Int) := by omega
   have hkl : k < l.length := by rw [HC.out.2.2]; exact hlt
   have hcl : w.cell? ⟨g, k, none⟩ = some (vB l[k]) := by
    have h1 := HC.out.2.1.2 k (cB l[k]) (by rw [List.getElem?_map, List.getElem?_eq_getElem hkl]; rfl)
    rw [show (⟨g, 0, none⟩ : Addr).add k = ⟨g, k, none⟩ from by unfold Addr.add; split <;> simp_all] at h1
    exact h1
   have HK := Lib.hid (HC.out.1 l[k] (List.getElem_mem _))
   go_wp2_with (refine (HK.out _).mono ?_; rintro e w2 ⟨rfl, rfl⟩)
   go_roundw
   case rel => exact ⟨k + 1, hlt, by go_num, by first | rfl | trivial⟩
   case measure => simp [intOf]; omega
  ·obtain rfl : k = n := by omega
   go_wp2
   go_ret
   exact ⟨rfl, rfl⟩
theorem containsFuncB (f : Nat) (g c : Nat) (l : List UInt8) (w : World) (hc : ∀ x ∈ l, ∀ w : World, Calls Tryz.prog f #[vB x] w fun e w' => e = .returned (.bool false) ∧ w = w') (hcf : ∀ (args : Array Value) (W : World), Sem.run Tryz.prog (callFunc f args) W = .ok (.enter f args) W)
  (hat : At w ⟨g, 0, none⟩ (l.map cB)) (hl : l.length ≤ 1000000) : Calls Tryz.prog 138 #[.slice (some ⟨g, 0, none⟩) l.length c, .func (.func f) #[] #[]] w fun e w' => e = .returned (.bool false) ∧ w' = w := by
 have H := Lib.hid (indexFuncB f g c l w hc hcf hat hl)
 clear hc hat
 go_enter Tryz.func138, Tryz.ntmps138
 go_wp2_with (go_at_call 103; refine H.out.mono ?_; rintro e w2 ⟨rfl, rfl⟩)
 go_ret
 exact ⟨rfl, rfl⟩
set_option maxRecDepth 100000 in
theorem validName104 (l : List UInt8) (h0 : l ≠ []) (hl : l.length ≤ 40) (h : ∀ c ∈ l, ltB c = true) (w : World) : Calls Tryz.prog 104 #[.string (tx l)] w fun e w' => e = .returned (.bool true) ∧ Below w.heap.size w w' := by
 obtain ⟨s, hs⟩ : ∃ s, tx l = s := ⟨_, rfl⟩
 have hz : s.size = l.length := by rw [← hs]; rfl
 have hl0 : 0 < l.length := List.length_pos_iff.2 h0
 have he : s.toList.isEmpty = false := by
  rw [ByteArray.toList_eq, Bool.eq_false_iff]
  intro e
  have : bl s = [] := List.isEmpty_iff.1 e
  rw [← hs, bl_tx] at this
  exact h0 this
 have hpos : 0 < s.size := by omega
 have h40 : ¬ (40 : Int) < (s.size : Int) := by omega
 have h40 : (s.size : Int) ≤ 40 := by omega
 have hbl : bl s = l := by rw [← hs, bl_tx]
 have hc0 : ltB s[0] = true := by
  have : s[0] ∈ bl s := List.getElem_mem (l := bl s) hpos
  exact h _ (hbl ▸ this)
 obtain ⟨c, w2, hcv, hb2, hat2⟩ := conv_sb w s
 rw [hbl] at hat2
 have hcf : ∀ (args : Array Value) (W : World), Sem.run Tryz.prog (callFunc 139 args) W = .ok (.enter 139 args) W := enters_of Tryz.func139 (by kernel_rfl) rfl
 have hC := containsFuncB 139 w.heap.size c l w2 (fun x hx => nm139_y x (h x hx)) hcf hat2 (by omega)
 rw [← hz] at hC
 have H := Lib.hid (And.intro hb2 hC)
 have HL := fun u : World => Lib.hid (isLetter_y s[0] hc0 u)
 clear hb2 hC hat2 h0 hl h hz hl0 hbl hc0
 rw [hs]
 clear hs
 go_enter Tryz.func104, Tryz.ntmps104
 go_wp2_with (first
  | (go_at_call 137; refine (HL _).out.mono ?_; rintro e w3 ⟨rfl, rfl⟩)
  | (go_at_call 138; refine H.out.2.mono ?_; rintro e w3 ⟨rfl, rfl⟩))
 go_ret
 exact ⟨rfl, H.out.1⟩
theorem printable131 (s : ByteArray) (h : ∀ c ∈ bl s, prB c = true) (hs : s.size ≤ 1000000) (w : World) : Calls Tryz.prog 131 #[.string s] w fun e w' => e = .returned (.int .i64 (-1)) ∧ w' = w := by
 have hcf : ∀ (args : Array Value) (W : World), Sem.run Tryz.prog (callFunc 168 args) W = .ok (.enter 168 args) W := enters_of Tryz.func168 (by kernel_rfl) rfl
 have hrun : runL prB (bl s) = s.size := by
  rw [← bl_length s]
  generalize bl s = l at h
  induction l with
  | nil => rfl
  | cons a l ih =>
   have h1 := ih (fun c hc => h c (List.mem_cons_of_mem _ hc))
   unfold runL at h1 ⊢
   rw [List.takeWhile_cons_of_pos (h a List.mem_cons_self), List.length_cons, List.length_cons, h1]
 have hk := skip_p 168 prB isPrint_b hcf s 0 w (Nat.zero_le _) (by omega)
 rw [show (0 + runL prB ((bl s).drop 0)) = s.size by rw [List.drop_zero, hrun, Nat.zero_add]] at hk
 have HK := Lib.hid hk
 clear hk hrun h
 go_enter Tryz.func131, Tryz.ntmps131
 go_wp2_with (go_at_call 107; refine HK.out.mono ?_; rintro e w3 ⟨rfl, rfl⟩)
 go_ret
 exact ⟨rfl, rfl⟩
open Go.RowKit
structure FlOk (nm : List UInt8) (ws : List (List UInt8)) : Prop where
 n0 : nm ≠ []
 n40 : nm.length ≤ 40
 nl : ∀ c ∈ nm, ltB c = true
 wg : ∀ x ∈ ws, Good x
 wp : ∀ x ∈ ws, ∀ c ∈ x, visB c = true
 len : (nm ++ 58 :: ws.flatMap (fun x => 32 :: x)).length ≤ 78
def bdL (ws : List (List UInt8)) : List UInt8 := Lib.join ws [32]
def lnL (nm : List UInt8) (ws : List (List UInt8)) : List UInt8 := nm ++ 58 :: ws.flatMap (fun x => 32 :: x)
def vFl (nm : List UInt8) (ws : List (List UInt8)) : Value := .agg #[.string (tx nm), .string (tx (bdL ws))]
theorem bd_cons (x : List UInt8) (ws : List (List UInt8)) : 32 :: bdL (x :: ws) = (x :: ws).flatMap (fun x => 32 :: x) := by
 induction ws generalizing x with
 | nil => simp [bdL, Lib.join]
 | cons y ws ih =>
  rw [List.flatMap_cons, ← ih y]
  simp [bdL, Lib.join]
theorem bd_sqz {nm : List UInt8} {ws : List (List UInt8)} (h : FlOk nm ws) : sqz (tx (bdL ws)) = tx (bdL ws) := by
 apply bl_inj
 rw [bl_sqz, bl_tx, bdL, wl_join ws h.wg]
theorem bd_words {nm : List UInt8} {ws : List (List UInt8)} (h : FlOk nm ws) : words (tx (bdL ws)) = ws.map tx := by
 unfold words
 rw [bl_tx, bdL, wl_join ws h.wg]
 rfl
theorem bd_mem (ws : List (List UInt8)) (c : UInt8) (hc : c ∈ bdL ws) : c = 32 ∨ ∃ x ∈ ws, c ∈ x := by
 cases ws with
 | nil => simp [bdL, Lib.join] at hc
 | cons x ws =>
  have h1 : c ∈ (x :: ws).flatMap (fun x => 32 :: x) := by rw [← bd_cons]; exact List.mem_cons_of_mem _ hc
  rw [List.mem_flatMap] at h1
  obtain ⟨y, hy, h2⟩ := h1
  rcases List.mem_cons.1 h2 with h2 | h2
  ·exact .inl h2
  ·exact .inr ⟨y, hy, h2⟩
theorem bd_pr {nm : List UInt8} {ws : List (List UInt8)} (h : FlOk nm ws) : ∀ c ∈ bl (tx (bdL ws)), prB c = true := by
 intro c hc
 rcases bd_mem ws c hc with rfl | ⟨x, hx, h2⟩
 ·rfl
 ·unfold prB
  rw [h.wp x hx c h2]
  rfl
theorem bd_len {nm : List UInt8} {ws : List (List UInt8)} (h : FlOk nm ws) : (bdL ws).length ≤ 78 := by
 have := h.len
 cases ws with
 | nil => simp [bdL, Lib.join]
 | cons x ws =>
  rw [← bd_cons] at this
  simp only [List.length_append, List.length_cons] at this
  omega
theorem ws_len {nm : List UInt8} {ws : List (List UInt8)} (h : FlOk nm ws) : ∀ x ∈ ws, x.length ≤ 78 := by
 intro x hx
 have h1 := h.len
 obtain ⟨a, b, rfl⟩ := List.append_of_mem hx
 simp only [List.flatMap_append, List.flatMap_cons, List.length_append, List.length_cons] at h1
 omega
theorem ws_num {nm : List UInt8} {ws : List (List UInt8)} (h : FlOk nm ws) : ws.length ≤ 78 := by
 have h1 := h.len
 have : ∀ l : List (List UInt8), l.length ≤ (l.flatMap (fun x => 32 :: x)).length := by
  intro l
  induction l with
  | nil => exact Nat.le_refl _
  | cons a l ih => rw [List.flatMap_cons, List.length_append, List.length_cons, List.length_cons]; omega
 have h2 := this ws
 simp only [List.length_append, List.length_cons] at h1
 omega
theorem ws_num_of {nm : List UInt8} {ws : List (List UInt8)} (h1 : (lnL nm ws).length ≤ 78) : ws.length ≤ 78 := by
 have : ∀ l : List (List UInt8), l.length ≤ (l.flatMap (fun x => 32 :: x)).length := by
  intro l
  induction l with
  | nil => exact Nat.le_refl _
  | cons a l ih => rw [List.flatMap_cons, List.length_append, List.length_cons, List.length_cons]; omega
 have h2 := this ws
 unfold lnL at h1
 simp only [List.length_append, List.length_cons] at h1
 omega
theorem words21h {nm : List UInt8} {ws : List (List UInt8)} (h : FlOk nm ws) (w : World) : Calls Tryz.prog 66 #[.string (tx (bdL ws))] w fun e w' => ∃ A n c, e = .returned (.slice A n c) ∧ HpS w' (.slice A n c) ws ∧ Below w.heap.size w w' := by
 refine (words21 (tx (bdL ws)) w (by rw [tx_size]; have := bd_len h; omega)).mono ?_
 rintro e w' ⟨v, rfl, ho, hb⟩
 rw [bd_words h] at ho
 obtain ⟨A, c, e, -, -⟩ := ho.sl
 subst e
 exact ⟨A, _, c, rfl, HpS.of_own ho, hb⟩
theorem ck130 (x : List UInt8) (h : x.length ≤ 900) (w : World) : Calls Tryz.prog 130 #[.string (tx x)] w fun e w' => e = .returned (.bool false) ∧ w' = w := by
 have h1 : ((tx x).size : Int) ≤ 900 := by rw [tx_size]; omega
 go_enter Tryz.func130, Tryz.ntmps130
 go_wp2
 go_ret
 exact ⟨ret_bool (decide_eq_false (by omega)), rfl⟩
set_option maxRecDepth 100000 in
theorem containsFunc132 (A : Option Addr) (n c : Nat) (ws : List (List UInt8)) (w : World) (h : HpS w (.slice A n c) ws) (hx : ∀ x ∈ ws, x.length ≤ 78) (hl : ws.length ≤ 100) :
  Calls Tryz.prog 132 #[.slice A n c, .func (.func 130) #[] #[]] w fun e w' => e = .returned (.bool false) ∧ w' = w := by
 have hcf : ∀ (args : Array Value) (W : World), Sem.run Tryz.prog (callFunc 130 args) W = .ok (.enter 130 args) W := enters_of Tryz.func130 (by kernel_rfl) rfl
 have hI : Calls Tryz.prog 169 #[.slice A n c, .func (.func 130) #[] #[]] w fun e w' => e = .returned (.int .i64 (-1)) ∧ w' = w := by
  have hn : (n : Int) ≤ 100 := by have := h.un.1; omega
  have H := Lib.hid (And.intro h hx)
  clear h hx
  go_enter Tryz.func169, Tryz.ntmps169
  go_wp2
  go_loopw [5, 8] (fun _ i wr => ∃ k : Nat, k ≤ n ∧ i = .int .i64 (k : Int) ∧ wr = w) (fun _ i _ => n - (intOf i).toNat)
  case atStart => exact ⟨0, Nat.zero_le _, rfl, rfl⟩
  case round =>
   obtain ⟨k, hk, rfl, hwr⟩ := hrel
   obtain rfl := hwr.symm
   by_cases hlt : k < n
   ·have hki : (k : Int) < (n : Int) := by omega
    have hkh : k < ws.length := by rw [← H.out.1.un.1]; exact hlt
    obtain ⟨g, rfl, h3⟩ := H.out.1.un.2.2 k _ (List.getElem?_eq_getElem hkh)
    have hcl : w.cell? ⟨g, k, none⟩ = some (.string (tx ws[k])) := by have := h3 k _ (List.getElem?_eq_getElem hkh); rwa [Nat.zero_add] at this
    have HX := Lib.hid (H.out.2 ws[k] (List.getElem_mem _))
    clear h3
    go_wp2_with (go_at_call 130; refine (ck130 ws[k] (by have := HX.out; omega) _).mono ?_; rintro e w2 ⟨rfl, rfl⟩)
    go_roundw
    case rel => exact ⟨k + 1, hlt, by go_num, by first | rfl | trivial⟩
    case measure => simp [intOf]; omega
   ·obtain rfl : k = n := by omega
    go_wp2
    go_ret
    exact ⟨rfl, rfl⟩
 have HI := Lib.hid hI
 clear hI h hx
 go_enter Tryz.func132, Tryz.ntmps132
 go_wp2_with (go_at_call 169; refine HI.out.mono ?_; rintro e w2 ⟨rfl, rfl⟩)
 go_ret
 exact ⟨rfl, rfl⟩
set_option maxRecDepth 100000 in
set_option maxHeartbeats 1600000 in
theorem check92 {nm : List UInt8} {ws : List (List UInt8)} (h : FlOk nm ws) (w : World) : Calls Tryz.prog 92 #[vFl nm ws] w fun e w' => e = .returned (.int .i64 0) ∧ Below w.heap.size w w' := by
 have hV := fun u : World => Lib.hid (validName104 nm h.n0 h.n40 h.nl u)
 have hP := fun u : World => Lib.hid (printable131 (tx (bdL ws)) (bd_pr h) (by rw [tx_size]; have := bd_len h; omega) u)
 have hW := fun u : World => Lib.hid (words21h h u)
 have hq := bd_sqz h
 have hz : (tx (bdL ws)).size ≤ 1000000 := by rw [tx_size]; have := bd_len h; omega
 have hz2 : ((tx (bdL ws)).size : Int) ≤ 8192 := by rw [tx_size]; have := bd_len h; omega
 have HL := Lib.hid (And.intro (ws_len h) (ws_num h))
 unfold vFl
 clear h
 obtain ⟨sb, hsb⟩ : ∃ s, tx (bdL ws) = s := ⟨_, rfl⟩
 obtain ⟨sn, hsn⟩ : ∃ s, tx nm = s := ⟨_, rfl⟩
 rw [hsb] at hP hW hq hz hz2 ⊢
 rw [hsn] at hV ⊢
 clear hsb hsn
 have HS := Lib.hid (And.intro hq (And.intro hz hz2))
 have hr := Row.new w [.string sn, .string sb] 67
 have Q := Lib.hid (And.intro hr (below_alloc w (.cells #[.string sn, .string sb] 67)))
 clear hq hz hr
 go_enter Tryz.func92, Tryz.ntmps92
 go_wp2_with (first
  | (go_at_call 104; refine (hV _).out.mono ?_; rintro e w1 ⟨rfl, hb1⟩; have r1 := Q.out.1.keep hb1; have c0 := r1.cell 0; have c1 := r1.cell 1; have S1 := Lib.hid (And.intro c1 (And.intro r1 (Below.step Q.out.2 hb1))); clear hb1 r1)
  | (go_at_call 131; refine (hP _).out.mono ?_; rintro e w1 ⟨rfl, rfl⟩))
 refine AnyO.wp_anyI (by kernel_rfl) (by kernel_rfl) (AnyO.InvG (σ := Unit) (fun σ => AnyO.pvL [some (.pointer (some ⟨w.heap.size, 1, none⟩)), some (.string sb), some (.string sb), some (.pointer (some ⟨w.heap.size, 1, none⟩)), some (.string sb), some (.bool false), some (.bool false)]) (fun _ _ u => Below w1.heap.size w1 u)) (AnyO.InvG.start (g := ()) (below_drew w1)) ?_ ?_
 ·intro i hi
  have hi2 : i = 2 ∨ i = 0 ∨ i = 1 ∨ i = 3 ∨ i = 4 ∨ i = 5 ∨ i = 6 := by simp only [List.size_toArray, List.length_cons, List.length_nil] at hi; omega
  clear hi
  rcases hi2 with rfl | rfl | rfl | rfl | rfl | rfl | rfl
  ·refine AnyO.I rfl [1] ?_; rintro D vs u σ Q h0 hC hp ac hb K hK
   have s16 : _ = _ := AnyO.sv 16 1 hb hp Q
   go_simp
   go_at_call 55
   refine (squeeze22 sb u HS.out.2.1).mono ?_
   rintro e w2 ⟨rfl, hb2⟩
   rw [HS.out.1]
   exact hK _ _ (AnyO.InvG.step (g := σ) Q.out.1 rfl (Below.step Q.out.2 hb2))
  all_goals
   refine AnyO.J rfl ?_; rintro D vs u σ Q h0 hC hp ac hb K hK
   try have s1 : ac.tmps[1]?.getD undef = .pointer (some ⟨w.heap.size, 0, none⟩) := by rw [hb.out]; kernel_rfl
   try have s15 : _ = _ := AnyO.sv 15 0 hb hp Q
   try have s18 : _ = _ := AnyO.sv 18 3 hb hp Q
   try have s17 : _ = _ := AnyO.sv 17 2 hb hp Q
   try have s19 : _ = _ := AnyO.sv 19 4 hb hp Q
   try have s20 : _ = _ := AnyO.sv 20 5 hb hp Q
   have rr1_0 : u.cell? ⟨w.heap.size, 1, none⟩ = some (.string sb) := cell_below S1.out.1 Q.out.2
   have rr1_1 : (sb.toList == sb.toList) = true := beq_self_eq_true _
   go_simp
   exact hK _ _ (AnyO.InvG.step (g := σ) Q.out.1 rfl Q.out.2)
 ·intro D vs u hI hD
  obtain ⟨σ, hP, hW⟩ := hI
  have e0 : _ = _ := hP 0 (hD 0 (by decide))
  have e1 : _ = _ := hP 1 (hD 1 (by decide))
  have e2 : _ = _ := hP 2 (hD 2 (by decide))
  have e3 : _ = _ := hP 3 (hD 3 (by decide))
  have e4 : _ = _ := hP 4 (hD 4 (by decide))
  have e5 : _ = _ := hP 5 (hD 5 (by decide))
  have e6 : _ = _ := hP 6 (hD 6 (by decide))
  have HW := Lib.hid hW
  clear hW hP hD
  rw [puts_range [some 15, some 16, some 17, some 18, some 19, some 20, some 14] (by kernel_rfl)]
  simp only [putL, Nat.reduceAdd, e0, e1, e2, e3, e4, e5, e6]
  clear e0 e1 e2 e3 e4 e5 e6
  have r2 := S1.out.2.1.keep HW.out
  have d1 := r2.cell 1
  have S2 := Lib.hid (And.intro r2 (Below.step S1.out.2.2 HW.out))
  clear c0 c1 r2 S1 HW
  go_simp
  go_wp2_with (first
   | (go_at_call 66; refine (hW _).out.mono ?_; rintro e w3 ⟨A, n, c, rfl, hh, hb3⟩; have S3 := Lib.hid (And.intro hh (Below.step S2.out.2 hb3)); clear hh hb3)
   | (go_at_call 132; refine (containsFunc132 A n c ws _ S3.out.1 HL.out.1 (by have := HL.out.2; omega)).mono ?_; rintro e w4 ⟨rfl, rfl⟩))
  go_ret
  exact ⟨rfl, S3.out.2⟩
theorem lnL_take {nm : List UInt8} {ws : List (List UInt8)} {k : Nat} (hk : k < ws.length) : lnL nm (ws.take (k + 1)) = lnL nm (ws.take k) ++ 32 :: ws[k] := by
 unfold lnL
 rw [List.take_succ_eq_append_getElem hk, List.flatMap_append, List.append_assoc, List.cons_append]
 simp
theorem lnL_le (nm : List UInt8) (ws : List (List UInt8)) (k : Nat) : (lnL nm (ws.take k)).length ≤ (lnL nm ws).length := by
 have h : lnL nm ws = lnL nm (ws.take k) ++ (ws.drop k).flatMap (fun x => 32 :: x) := by
  unfold lnL
  rw [List.append_assoc, List.cons_append, ← List.flatMap_append, List.take_append_drop]
 rw [h, List.length_append]
 omega
set_option maxRecDepth 100000 in
set_option maxHeartbeats 1600000 in
theorem fold56 {nm : List UInt8} {ws : List (List UInt8)} (h : FlOk nm ws) (w : World) : Calls Tryz.prog 56 #[vFl nm ws] w fun e w' => e = .returned (.tuple #[.string (tx (lnL nm ws ++ [10])), .int .i64 0]) ∧ Below w.heap.size w w' := by
 have hC := fun u : World => Lib.hid (check92 h u)
 have hW := fun u : World => Lib.hid (words21h h u)
 have hL78 : (lnL nm ws).length ≤ 78 := h.len
 have hLs := Lib.hid (And.intro hL78 (fun k => lnL_le nm ws k))
 have hWS := Lib.hid (ws_len h)
 unfold vFl at hC ⊢
 have hn58 : nm.length ≤ 40 := h.n40
 clear h hL78
 obtain ⟨sb, hsb⟩ : ∃ s, tx (bdL ws) = s := ⟨_, rfl⟩
 obtain ⟨sn, hsn⟩ : ∃ s, tx nm = s := ⟨_, rfl⟩
 rw [hsb] at hC hW ⊢
 rw [hsn] at hC ⊢
 have hzn : sn.size = nm.length := by rw [← hsn]; rfl
 have g1 : ¬ 9223372036854775807 < sn.size + 1 := by omega
 have he1 : sn ++ (⟨#[58]⟩ : ByteArray) = tx (lnL nm (ws.take 0)) := by
  rw [← hsn, show (⟨#[58]⟩ : ByteArray) = tx [58] from rfl, tx_app]
  rfl
 obtain ⟨t0, ht0⟩ : ∃ t, tx (lnL nm (ws.take 0)) = t := ⟨_, rfl⟩
 have HT := Lib.hid ht0
 rw [ht0] at he1
 clear hsb hsn hzn hn58 ht0
 have hr := Row.new w [.string sn, .string sb] 67
 have Q := Lib.hid (And.intro hr (below_alloc w (.cells #[.string sn, .string sb] 67)))
 clear hr
 go_enter Tryz.func56, Tryz.ntmps56
 go_wp2_with (first
  | (go_at_call 92; refine (hC _).out.mono ?_; rintro e w1 ⟨rfl, hb1⟩; have r1 := Q.out.1.keep hb1; have b2 := below_alloc w1 (.cells #[.pointer none, .slice none 0 0] 93); have r2 := r1.keep b2; have c0 := r2.cell 0; have c1 := r2.cell 1; have S1 := Lib.hid (And.intro (Bd.new w1) (And.intro (Below.step Q.out.2 hb1) b2)); clear hb1 r1 r2 b2)
  | (go_at_call 66; refine (hW _).out.mono ?_; rintro e w3 ⟨A, n, c, rfl, hh, hb3⟩; have S3 := Lib.hid (And.intro (S1.out.1.keep hb3) (And.intro hh (Below.step (Below.step S1.out.2.1 S1.out.2.2) hb3))); clear hh hb3))
 have HN := Lib.hid S3.out.2.1.un.1
 go_loopw [6, 7, 9, 22] (fun l c _ i wr => ∃ k : Nat, k ≤ n ∧ i = .int .i64 (k : Int) ∧ c = .int .i64 (k : Int) ∧ l = .string (tx (lnL nm (ws.take k))) ∧ wr = w3) (fun _ _ _ i _ => n - (intOf i).toNat)
 case atStart => exact ⟨0, Nat.zero_le _, rfl, rfl, by rw [HT.out], rfl⟩
 case round =>
  obtain ⟨k, hk, rfl, rfl, rfl, hwr⟩ := hrel
  obtain rfl := hwr.symm
  obtain ⟨T, hT⟩ : ∃ T, tx (lnL nm (ws.take k)) = T := ⟨_, rfl⟩
  have hzT : T.size = (lnL nm (ws.take k)).length := by rw [← hT]; rfl
  have hTl := hLs.out.2 k
  rw [hT]
  by_cases hlt : k < n
  ·have hki : (k : Int) < (n : Int) := by omega
   have hkh : k < ws.length := by rw [← HN.out]; exact hlt
   obtain ⟨g, rfl, h3⟩ := S3.out.2.1.un.2.2 k _ (List.getElem?_eq_getElem hkh)
   have hcl : w3.cell? ⟨g, k, none⟩ = some (.string (tx ws[k])) := by have := h3 k _ (List.getElem?_eq_getElem hkh); rwa [Nat.zero_add] at this
   have hsn := lnL_take (nm := nm) hkh
   have hsl := hLs.out.2 (k + 1)
   have h78 := hLs.out.1
   rw [hsn, List.length_append, List.length_cons] at hsl
   obtain ⟨x, hx⟩ : ∃ x, tx ws[k] = x := ⟨_, rfl⟩
   have hzx : x.size = ws[k].length := by rw [← hx]; rfl
   rw [hx] at hcl
   have he : T ++ ((⟨#[32]⟩ : ByteArray) ++ x) = tx (lnL nm (ws.take (k + 1))) := by
    rw [hsn, ← hT, ← hx, show (⟨#[32]⟩ : ByteArray) = tx [32] from rfl, tx_app, tx_app]
    rfl
   have hcmp : ¬ 78 < (T.size : Int) + 1 + (x.size : Int) := by omega
   have hcm2 : (T.size : Int) + 1 + (x.size : Int) ≤ 78 := by omega
   have g2 : ¬ 9223372036854775807 < 1 + x.size := by omega
   have g3 : ¬ 9223372036854775807 < T.size + (1 + x.size) := by omega
   have hk78 : k ≤ 78 := by have := ws_num_of hLs.out.1; omega
   have HE := Lib.hid he
   clear h3 hsn hsl h78 hT hzT hTl hx hzx he
   by_cases hk0 : 0 < k
   ·have hki0 : 0 < (k : Int) := by omega
    go_wp2
    go_roundw
    case rel => exact ⟨k + 1, hlt, by go_num, by go_num, by first | rfl | (rw [HE.out]), by first | rfl | trivial⟩
    case measure => simp [intOf]; omega
   ·obtain rfl : k = 0 := by omega
    go_wp2
    go_roundw
    case rel => exact ⟨1, hlt, rfl, rfl, by first | rfl | (rw [HE.out]), by first | rfl | trivial⟩
    case measure => simp [intOf]; omega
  ·obtain rfl : k = n := by omega
   have hT2 : lnL nm (ws.take k) = lnL nm ws := by rw [List.take_of_length_le (by rw [HN.out]; exact Nat.le_refl _)]
   have h78 := hLs.out.1
   rw [hT2] at hT hzT
   have g4 : ¬ 9223372036854775807 < T.size + 1 := by omega
   have he2 : T ++ (⟨#[10]⟩ : ByteArray) = tx (lnL nm ws ++ [10]) := by
    rw [← hT, show (⟨#[10]⟩ : ByteArray) = tx [10] from rfl, tx_app]
   obtain ⟨Z, hZ⟩ : ∃ Z, tx (lnL nm ws ++ [10]) = Z := ⟨_, rfl⟩
   rw [hZ] at he2
   have hzZ : Z.size ≤ 100 := by rw [← hZ, tx_size, List.length_append, List.length_singleton]; omega
   have HZ := Lib.hid (And.intro hZ hzZ)
   clear hT hzT hTl hT2 h78 hZ hzZ
   go_wp2_with (first
    | (go_at_call 51; refine (S3.out.1.str Z (by have := HZ.out.2; simp only [List.length_nil]; omega)).mono ?_; rintro e w4 ⟨rfl, h4, k4⟩; have S4 := Lib.hid (And.intro h4 k4.1); clear h4 k4)
    | (go_at_call 52; refine S4.out.1.string.mono ?_; rintro e w5 ⟨rfl, hb5⟩; have S5 := Lib.hid hb5; clear hb5))
   go_ret2
   refine ⟨?_, (S3.out.2.2.trans (S4.out.2.mono S1.out.2.1.size)).trans (S5.out.mono S1.out.2.1.size)⟩
   rw [HZ.out.1]
   rfl
open Go.RowKit
abbrev Fld : Type := List UInt8 × List (List UInt8)
def cFl (f : Fld) : List Value := [.string (tx f.1), .string (tx (bdL f.2))]
theorem cFl_length (f : Fld) : (cFl f).length = 2 := rfl
def hdT (fs : List Fld) : List UInt8 := fs.flatMap fun f => lnL f.1 f.2 ++ [10]
theorem hdT_take {fs : List Fld} {k : Nat} (hk : k < fs.length) : hdT (fs.take (k + 1)) = hdT (fs.take k) ++ (lnL fs[k].1 fs[k].2 ++ [10]) := by
 unfold hdT
 rw [List.take_succ_eq_append_getElem hk, List.flatMap_append]
 simp
theorem hdT_len (fs : List Fld) (h : ∀ f ∈ fs, FlOk f.1 f.2) : (hdT fs).length ≤ 79 * fs.length := by
 induction fs with
 | nil => exact Nat.le_refl _
 | cons f fs ih =>
  have h1 := ih (fun g hg => h g (List.mem_cons_of_mem _ hg))
  have h2 := (h f List.mem_cons_self).len
  unfold hdT at h1 ⊢
  rw [List.flatMap_cons, List.length_append, List.length_append, List.length_singleton, List.length_cons]
  unfold lnL at h1 ⊢
  omega
theorem Sl.fl {w : World} {g : Nat} {fs : List Fld} (h : Sl w cFl (some ⟨g, 0, none⟩) fs) {k : Nat} (hk : k < fs.length) : w.cell? ⟨g, k * 2, none⟩ = some (.string (tx fs[k].1)) ∧ w.cell? ⟨g, k * 2 + 1, none⟩ = some (.string (tx (bdL fs[k].2))) := by
 obtain ⟨ad, e, hat⟩ := Sl.at_ cFl_length h hk
 obtain rfl : (⟨g, 0, none⟩ : Addr) = ad := Option.some.inj e
 have h0 := hat.2 0 _ rfl
 have h1 := hat.2 1 _ rfl
 rw [add_of_add] at h0 h1
 have e0 : ∀ j, (⟨g, 0, none⟩ : Addr).add j = ⟨g, j, none⟩ := fun j => by unfold Addr.add; split <;> simp_all
 rw [e0] at h0 h1
 exact ⟨h0, h1⟩
set_option maxRecDepth 100000 in
set_option maxHeartbeats 1600000 in
theorem print23 (g c : Nat) (fs : List Fld) (w : World) (h : Sl w cFl (some ⟨g, 0, none⟩) fs) (hf : ∀ f ∈ fs, FlOk f.1 f.2) (hl : fs.length ≤ 6) (hc : fs.length ≤ c) : Calls Tryz.prog 23 #[.slice (some ⟨g, 0, none⟩) fs.length c] w fun e w' => e = .returned (.tuple #[.string (tx (hdT fs)), .int .i64 0]) ∧ Below w.heap.size w w' := by
 obtain ⟨n, hn⟩ : ∃ n, fs.length = n := ⟨_, rfl⟩
 have hn6 : (n : Int) ≤ 6 := by omega
 have hL := hdT_len fs hf
 have hlt : ∀ k, (hdT (fs.take k)).length ≤ 79 * 6 := fun k => by
  have h1 := hdT_len (fs.take k) (fun f hf' => hf f (List.mem_of_mem_take hf'))
  have h2 := List.length_take_le k fs
  have h3 : (fs.take k).length ≤ 6 := by rw [List.length_take]; omega
  omega
 have H := Lib.hid (And.intro h (And.intro hf (And.intro hn (And.intro hlt hL))))
 have b1 := below_alloc w (.cells #[.pointer none, .slice none 0 0] 93)
 have S1 := Lib.hid (And.intro (Bd.new w) b1)
 rw [hn] at hl hc ⊢
 clear h hf hlt hL hn b1
 go_enter Tryz.func23, Tryz.ntmps23
 go_wp2
 go_loopw [6, 7, 8, 14] (fun _ _ _ i wr => ∃ k : Nat, k ≤ n ∧ i = .int .i64 (k : Int) ∧ Bd w.heap.size w.heap.size (hdT (fs.take k)) [] wr ∧ Below w.heap.size w wr) (fun _ _ _ i _ => n - (intOf i).toNat)
 case atStart => exact ⟨0, Nat.zero_le _, rfl, S1.out.1, S1.out.2⟩
 case round =>
  obtain ⟨k, hk, rfl, hbd, hbw⟩ := hrel
  have HB := Lib.hid (And.intro hbd hbw)
  clear hbd hbw
  by_cases hlt : k < n
  ·have hki : (k : Int) < (n : Int) := by omega
   have hkh : k < fs.length := by rw [H.out.2.2.1]; exact hlt
   have hce := (H.out.1.keep HB.out.2).fl hkh
   obtain ⟨hc0, hc1⟩ := hce
   have hsn := hdT_take hkh
   have hfo := H.out.2.1 fs[k] (List.getElem_mem _)
   have hF := fun u : World => Lib.hid (fold56 hfo u)
   obtain ⟨f, hfk⟩ : ∃ f, fs[k] = f := ⟨_, rfl⟩
   rw [hfk] at hc0 hc1 hsn hF
   unfold vFl at hF
   have hbx := below_alloc wr (.cells #[.string (tx f.1), .string (tx (bdL f.2))] 67)
   have hl3 := (hfk ▸ hfo).len
   obtain ⟨t, ht⟩ : ∃ t, tx (lnL f.1 f.2 ++ [10]) = t := ⟨_, rfl⟩
   obtain ⟨a, ha⟩ : ∃ a, tx f.1 = a := ⟨_, rfl⟩
   obtain ⟨b, hb⟩ : ∃ b, tx (bdL f.2) = b := ⟨_, rfl⟩
   rw [ha] at hc0 hF hbx
   rw [hb] at hc1 hF hbx
   rw [ht] at hF
   have hbt : bl t = lnL f.1 f.2 ++ [10] := by rw [← ht, bl_tx]
   rw [← hbt] at hsn
   have hzt : t.size ≤ 79 := by rw [← bl_length, hbt, List.length_append, List.length_singleton]; unfold lnL; omega
   have HS := Lib.hid (And.intro hsn (And.intro hzt hbx))
   clear hsn hzt hbx hfo hl3 hbt ht ha hb hfk
   have hk6 : k < 6 := by omega
   go_wp2_with (first
    | (go_at_call 56; refine (hF _).out.mono ?_; rintro e w3 ⟨rfl, hb3⟩; have S3 := Lib.hid (And.intro ((HB.out.1.keep HS.out.2.2).keep hb3) ((HB.out.2.trans (HS.out.2.2.mono HB.out.2.size)).trans (hb3.mono (Nat.le_trans HB.out.2.size HS.out.2.2.size)))); clear hb3)
    | (go_at_call 51; refine (S3.out.1.str t (by have := H.out.2.2.2.1 k; have := HS.out.2.1; omega)).mono ?_; rintro e w4 ⟨rfl, h4, k4⟩; rw [← HS.out.1] at h4; have S4 := Lib.hid (And.intro h4 (S3.out.2.trans k4.1)); clear h4 k4))
   go_roundw
   case rel => exact ⟨k + 1, hlt, by go_num, S4.out.1, S4.out.2⟩
   case measure => simp [intOf]; omega
  ·obtain rfl : k = n := by omega
   have hT : hdT (fs.take k) = hdT fs := by rw [List.take_of_length_le (by rw [H.out.2.2.1]; exact Nat.le_refl _)]
   have hB1 := HB.out.1
   rw [hT] at hB1
   have hle : (hdT fs).length ≤ 600 := by have := H.out.2.2.2.2; have := H.out.2.2.1; omega
   obtain ⟨m, hm⟩ : ∃ m, (hdT fs).length = m := ⟨_, rfl⟩
   have HLn := Lib.hid (And.intro hB1 hm)
   rw [hm] at hle
   have hmi : (m : Int) ≤ 65536 := by omega
   clear hB1 hT hm
   go_wp2_with (first
    | (go_at_call 57; refine HLn.out.1.len.mono ?_; rintro e w4 ⟨rfl, rfl⟩; rw [HLn.out.2])
    | (go_at_call 52; refine HLn.out.1.string.mono ?_; rintro e w5 ⟨rfl, hb5⟩; have S5 := Lib.hid hb5; clear hb5))
   go_ret2
   exact ⟨rfl, HB.out.2.trans S5.out⟩
end Go.Proofs.YtibelollgdnidaaGreatDoor
