/- digest: the reader: next, value, exactly, date. -/
import Derived.Test.YtibelollgdnidaaGreatDoorMPar
namespace Go.Proofs.YtibelollgdnidaaGreatDoor
open Go.RowKit
def tx (l : List UInt8) : ByteArray := ⟨l.toArray⟩
theorem bl_tx (l : List UInt8) : bl (tx l) = l := rfl
theorem tx_data (l : List UInt8) : (tx l).data.toList = l := rfl
theorem tx_size (l : List UInt8) : (tx l).size = l.length := rfl
theorem tx_eq {l : List UInt8} {s : ByteArray} (h : bl s = l) : tx l = s := bl_inj h.symm
theorem tx_beq (a b : List UInt8) : ((tx a).toList == (tx b).toList) = decide (a = b) := by
 by_cases h : a = b
 ·subst h
  rw [decide_eq_true rfl]
  exact beq_self_eq_true _
 ·rw [decide_eq_false h, beq_eq_false_iff_ne]
  intro e
  rw [Lib.toList_data, Lib.toList_data, tx_data, tx_data] at e
  exact h e
structure Ldz (w0 w : World) : Prop where
 max : ∃ m, w0.cell? ⟨0, 0, none⟩ = some (.int .i64 m)
 tab : Lib.TabIs Tryz.prog w0 "internal/strconv.uint64pow10" .u64 Lib.pow10Tab
 bel : Below w0.heap.size w0 w
section
variable {w0 w w' : World} {b : Nat}
theorem Ldz.keep (h : Ldz w0 w) (hb : Below w.heap.size w w') : Ldz w0 w' := ⟨h.max, h.tab, Below.step h.bel hb⟩
theorem Ldz.one (h : Ldz w0 w) (ho : One b w w') (hb : w0.heap.size ≤ b) : Ldz w0 w' := ⟨h.max, h.tab, h.bel.trans (ho.below hb h.bel.size)⟩
theorem Ldz.len (h : Ldz w0 w) : ∃ m, w.cell? ⟨0, 0, none⟩ = some (.int .i64 m) := by
 obtain ⟨m, hm⟩ := h.max
 exact ⟨m, cell_below hm h.bel⟩
theorem Ldz.pow (h : Ldz w0 w) : Lib.TabIs Tryz.prog w "internal/strconv.uint64pow10" .u64 Lib.pow10Tab := tab_below h.tab h.bel
end
theorem indexByte_at {c : UInt8} {y : List UInt8} : ∀ {x : List UInt8}, c ∉ x → Lib.indexByte (x ++ c :: y) c = (x.length : Int)
 | [], _ => by
  rw [List.nil_append, Lib.indexByte, if_pos (beq_self_eq_true c)]
  rfl
 | d :: x, h => by
  have hd : (d == c) = false := by rw [beq_eq_false_iff_ne]; exact fun e => h (by rw [e]; exact List.mem_cons_self)
  rw [List.cons_append, Lib.indexByte, hd, indexByte_at (fun e => h (List.mem_cons_of_mem _ e))]
  rw [if_neg (by decide), if_neg (by rw [beq_iff_eq]; omega), List.length_cons]
  omega
theorem cut_at {c : UInt8} {x y : List UInt8} (hx : c ∉ x) : Lib.cut (x ++ c :: y) [c] = (x, y, true) := by
 unfold Lib.cut
 rw [Lib.index_one, indexByte_at hx, if_pos (by omega), Int.toNat_natCast, List.take_left]
 rw [show x.length + [c].length = (x ++ [c]).length by simp, show x ++ c :: y = (x ++ [c]) ++ y by simp, List.drop_left]
theorem cut_nl {x y : List UInt8} (hx : nlB x) : Lib.cut (x ++ 10 :: y) [10] = (x, y, true) := cut_at hx
theorem cutp (l r : List UInt8) (p : ByteArray) (hl : l = bl p ++ r) (w : World) : Calls Tryz.prog 115 #[.string (tx l), .string p] w fun e w' => e = .returned (.tuple #[.string (tx r), .bool true]) ∧ w' = w := by
 have hp : Lib.hasPrefix (tx l).data.toList p.data.toList = true := by
  rw [tx_data, hl]
  exact List.isPrefixOf_iff_prefix.2 (List.prefix_append _ _)
 have := Tryz.strings_CutPrefix (tx l) p w
 rw [Lib.trimPrefix, hp, if_pos rfl, tx_data, hl] at this
 rw [hl]
 refine this.mono ?_
 rintro e w' ⟨rfl, rfl⟩
 rw [show (bl p ++ r).drop p.data.toList.length = r from List.drop_left]
 exact ⟨rfl, rfl⟩
def RdR (w : World) (b : Nat) (ls : List (List UInt8)) (L : Nat) : Prop := Row w b [.string (tx (lnT ls)), .int .i64 (L : Int), .int .i64 0] 83
theorem dg_ne {d : Nat} (h : d < 10) : dg d ≠ 10 := fun e => by
 have h1 := dg_nat h
 rw [e, show (10 : UInt8).toNat = 10 from rfl] at h1
 omega
theorem date_nl {n : Nat} (hn : n ≤ 1439) : nlB ([68, 97, 116, 101, 58, 32] ++ dayT n) := by
 unfold dayT
 have e1 := dg_ne (d := n / 60 / 10) (by omega)
 have e2 := dg_ne (d := n / 60 % 10) (by omega)
 have e3 := dg_ne (d := n % 60 / 10) (by omega)
 have e4 := dg_ne (d := n % 60 % 10) (by omega)
 revert e1 e2 e3 e4
 generalize dg (n / 60 / 10) = c1
 generalize dg (n / 60 % 10) = c2
 generalize dg (n % 60 / 10) = c3
 generalize dg (n % 60 % 10) = c4
 intro e1 e2 e3 e4
 unfold nlB
 simp [e1.symm, e2.symm, e3.symm, e4.symm]
section
set_option maxRecDepth 100000
theorem next35 (w0 w : World) (b : Nat) (x : List UInt8) (ls : List (List UInt8)) (L : Nat) (hL : Ldz w0 w) (hR : RdR w b (x :: ls) L) (hx : nlB x) (hs : (lnT (x :: ls)).length ≤ 2000000) (hn : L ≤ 2000000) (hb : w0.heap.size ≤ b) : Calls Tryz.prog 35 #[.pointer (some ⟨b, 0, none⟩)] w fun e w' => e = .returned (.string (tx x)) ∧ RdR w' b ls (L + 1) ∧ One b w w' := by
 have c0 : w.cell? ⟨b, 0, none⟩ = some (.string (tx (lnT (x :: ls)))) := hR.cell 0
 have c1 : w.cell? ⟨b, 1, none⟩ = some (.int .i64 (L : Int)) := hR.cell 1
 have c2 : w.cell? ⟨b, 2, none⟩ = some (.int .i64 0) := hR.cell 2
 have f0 := hR.fz 0
 have f1 := hR.fz 1
 have hn2 : (L : Int) ≤ 2000000 := by omega
 have hC : ∀ u, (∃ m, u.cell? ⟨0, 0, none⟩ = some (.int .i64 m)) → Calls Tryz.prog 73 #[.string (tx (lnT (x :: ls))), .string ⟨#[10]⟩] u fun e w' => e = .returned (.tuple #[.string (tx x), .string (tx (lnT ls)), .bool true]) ∧ ∃ n, w' = u.drewN n := by
  rintro u ⟨m, hm⟩
  have := Tryz.strings_Cut (tx (lnT (x :: ls))) ⟨#[10]⟩ m u (by rw [tx_size]; omega) hm
  rw [tx_data, show ((⟨#[10]⟩ : ByteArray).data.toList) = [10] from rfl, lnT_cons, cut_nl hx] at this
  rw [lnT_cons]
  exact this
 obtain ⟨t, ht⟩ : ∃ t, tx (lnT (x :: ls)) = t := ⟨_, rfl⟩
 obtain ⟨y, hy⟩ : ∃ y, tx x = y := ⟨_, rfl⟩
 obtain ⟨z, hz⟩ : ∃ z, tx (lnT ls) = z := ⟨_, rfl⟩
 unfold RdR at hR ⊢
 rw [ht, hy, hz] at hC
 rw [ht] at c0 hR
 rw [hy, hz]
 have HC := Lib.hid hC
 have H := Lib.hid hR
 have HL := Lib.hid hL
 have HB := Lib.hid hb
 have H1 := Lib.hid (hR.set 1 (.int .i64 ((L : Int) + 1)))
 have HO := Lib.hid (One.set (w := w) (g := b) 1 (.int .i64 ((L : Int) + 1)))
 have c3 : ∀ v, (w.setCell ⟨b, 1, none⟩ v).cell? ⟨b, 0, none⟩ = some (.string t) := fun v => (hR.set 1 v).cell 0
 clear hC hR hL hb ht hy hz hx hs
 go_enter Tryz.func35, Tryz.ntmps35
 go_wp2_with (go_at_call 73; refine (HC.out _ (HL.out.one HO.out HB.out).len).mono ?_; rintro e w2 ⟨rfl, m, rfl⟩; have R2 := Lib.hid (Row.keep H1.out (below_drewN _ m)); have O2 := Lib.hid (HO.out.trans (One.of_below (below_drewN _ m))); revert R2 O2; generalize World.drewN _ m = w3; intro R2 O2; have f2 := R2.out.fz 0; have c4 : w3.cell? ⟨b, 0, none⟩ = some (.string t) := R2.out.cell 0)
 go_ret
 exact ⟨rfl, R2.out.set 0 (.string z), O2.out.trans (One.set 0 _)⟩
theorem any78 (x : ByteArray) (w : World) : Calls Tryz.prog 78 #[.string x] w fun e w' => e = .returned (.bool true) ∧ Below w.heap.size w w' := by
 go_enter Tryz.func78, Tryz.ntmps78
 go_wp2
 go_ret
 exact ⟨rfl, Below.refl _ _⟩
theorem value_any (w : World) (b : Nat) (ls : List (List UInt8)) (L : Nat) (l r : List UInt8) (p : ByteArray) (hR : RdR w b ls L) (hl : l = bl p ++ r) : Calls Tryz.prog 75 #[.pointer (some ⟨b, 0, none⟩), .string (tx l), .string p, .func (.func 78) #[] #[]] w fun e w' => e = .returned (.string (tx r)) ∧ Below w.heap.size w w' := by
 have H := Lib.hid hR
 obtain ⟨y, hy⟩ : ∃ y, tx r = y := ⟨_, rfl⟩
 have HC := fun u => Lib.hid (cutp l r p hl u)
 rw [hy] at HC ⊢
 have HY := Lib.hid hy
 clear hy hR
 obtain ⟨x, hx⟩ : ∃ x, tx l = x := ⟨_, rfl⟩
 rw [hx] at HC ⊢
 clear hx hl
 go_enter Tryz.func75, Tryz.ntmps75
 go_wp2_with (first
  | (go_at_call 115; refine (HC _).out.mono ?_; rintro e w2 ⟨rfl, rfl⟩; have c2 : w2.cell? ⟨b, 2, none⟩ = some (.int .i64 0) := H.out.cell 2)
  | (go_at_call 78; refine (any78 _ _).mono ?_; rintro e w3 ⟨rfl, hb3⟩; have H3 := Lib.hid hb3; clear hb3))
 go_ret
 exact ⟨rfl, H3.out⟩
theorem value_from (w : World) (b : Nat) (ls : List (List UInt8)) (L : Nat) (l r : List UInt8) (p : ByteArray) (hR : RdR w b ls L) (hl : l = bl p ++ r) (hp : PlOk (tx r)) (hr : 1 ≤ (tx r).size) : Calls Tryz.prog 75 #[.pointer (some ⟨b, 0, none⟩), .string (tx l), .string p, .func (.func 45) #[] #[]] w fun e w' => e = .returned (.string (tx r)) ∧ Below w.heap.size w w' := by
 have H := Lib.hid hR
 obtain ⟨y, hy⟩ : ∃ y, tx r = y := ⟨_, rfl⟩
 have HC := fun u => Lib.hid (cutp l r p hl u)
 rw [hy] at HC ⊢
 have HY := Lib.hid hy
 rw [hy] at hp hr
 have HP := Lib.hid (And.intro hp hr)
 clear hp hr
 clear hy hR
 obtain ⟨x, hx⟩ : ∃ x, tx l = x := ⟨_, rfl⟩
 rw [hx] at HC ⊢
 clear hx hl
 go_enter Tryz.func75, Tryz.ntmps75
 go_wp2_with (first
  | (go_at_call 115; refine (HC _).out.mono ?_; rintro e w2 ⟨rfl, rfl⟩; have c2 : w2.cell? ⟨b, 2, none⟩ = some (.int .i64 0) := H.out.cell 2)
  | (go_at_call 45; refine (isFrom45 y HP.out.1 HP.out.2 _).mono ?_; rintro e w3 ⟨rfl, hb3⟩; have H3 := Lib.hid hb3; clear hb3))
 go_ret
 exact ⟨rfl, by rw [H3.out]; exact Below.refl _ _⟩
theorem value_subj (w : World) (b : Nat) (ls : List (List UInt8)) (L : Nat) (l r : List UInt8) (p : ByteArray) (hR : RdR w b ls L) (hl : l = bl p ++ r) (hp : PlOk (tx r)) : Calls Tryz.prog 75 #[.pointer (some ⟨b, 0, none⟩), .string (tx l), .string p, .func (.func 46) #[] #[]] w fun e w' => e = .returned (.string (tx r)) ∧ Below w.heap.size w w' := by
 have H := Lib.hid hR
 obtain ⟨y, hy⟩ : ∃ y, tx r = y := ⟨_, rfl⟩
 have HC := fun u => Lib.hid (cutp l r p hl u)
 rw [hy] at HC ⊢
 have HY := Lib.hid hy
 rw [hy] at hp
 have HP := Lib.hid hp
 clear hp
 clear hy hR
 obtain ⟨x, hx⟩ : ∃ x, tx l = x := ⟨_, rfl⟩
 rw [hx] at HC ⊢
 clear hx hl
 go_enter Tryz.func75, Tryz.ntmps75
 go_wp2_with (first
  | (go_at_call 115; refine (HC _).out.mono ?_; rintro e w2 ⟨rfl, rfl⟩; have c2 : w2.cell? ⟨b, 2, none⟩ = some (.int .i64 0) := H.out.cell 2)
  | (go_at_call 46; refine (isSubject46 y HP.out _).mono ?_; rintro e w3 ⟨rfl, hb3⟩; have H3 := Lib.hid hb3; clear hb3))
 go_ret
 exact ⟨rfl, by rw [H3.out]; exact Below.refl _ _⟩
theorem value_can (w : World) (b : Nat) (ls : List (List UInt8)) (L : Nat) (l r : List UInt8) (p : ByteArray) (hR : RdR w b ls L) (hl : l = bl p ++ r) (w0 : World) (hL : Ldz w0 w) (n : Nat) (hn : n ≤ 1439) (hr : r = dayT n) : Calls Tryz.prog 75 #[.pointer (some ⟨b, 0, none⟩), .string (tx l), .string p, .func (.func 76) #[] #[]] w fun e w' => e = .returned (.string (tx r)) ∧ Below w.heap.size w w' := by
 have H := Lib.hid hR
 obtain ⟨y, hy⟩ : ∃ y, tx r = y := ⟨_, rfl⟩
 have HC := fun u => Lib.hid (cutp l r p hl u)
 rw [hy] at HC ⊢
 have HY := Lib.hid hy
 have HP := fun u hu => isCanonical76 n hn u hu
 rw [show (⟨(dayT n).toArray⟩ : ByteArray) = y from by rw [← hy, hr]; rfl] at HP
 have HL := Lib.hid hL
 clear hL hr
 clear hy hR
 obtain ⟨x, hx⟩ : ∃ x, tx l = x := ⟨_, rfl⟩
 rw [hx] at HC ⊢
 clear hx hl
 go_enter Tryz.func75, Tryz.ntmps75
 go_wp2_with (first
  | (go_at_call 115; refine (HC _).out.mono ?_; rintro e w2 ⟨rfl, rfl⟩; have c2 : w2.cell? ⟨b, 2, none⟩ = some (.int .i64 0) := H.out.cell 2)
  | (go_at_call 76; refine (HP _ HL.out.pow).mono ?_; rintro e w3 ⟨rfl, hb3⟩; have H3 := Lib.hid hb3; clear hb3))
 go_ret
 exact ⟨rfl, H3.out⟩
theorem exactly37 (w0 w : World) (b : Nat) (x : List UInt8) (ls : List (List UInt8)) (L : Nat) (hL : Ldz w0 w) (hR : RdR w b (x :: ls) L) (hx : nlB x) (hs : (lnT (x :: ls)).length ≤ 2000000) (hn : L ≤ 2000000) (hb : w0.heap.size ≤ b) (p : ByteArray) (hp : bl p = x) : Calls Tryz.prog 37 #[.pointer (some ⟨b, 0, none⟩), .string p] w fun e w' => e = .returned (.tuple #[]) ∧ RdR w' b ls (L + 1) ∧ One b w w' := by
 have HL := Lib.hid hL
 have HR := Lib.hid hR
 have HX := Lib.hid (And.intro hx (And.intro hs (And.intro hn hb)))
 have hy : tx x = p := tx_eq hp
 clear hL hR hx hs hn hb
 go_enter Tryz.func37, Tryz.ntmps37
 go_wp2_with (go_at_call 35; refine (next35 w0 _ b x ls L HL.out HR.out HX.out.1 HX.out.2.1 HX.out.2.2.1 HX.out.2.2.2).mono ?_; rw [hy]; rintro e w1 ⟨rfl, hr1, ho1⟩; have R1 := Lib.hid hr1; have O1 := Lib.hid ho1; clear hr1 ho1)
 go_end0
 exact ⟨rfl, R1.out, O1.out⟩
theorem date36 (w0 w : World) (b : Nat) (n : Nat) (ls : List (List UInt8)) (L : Nat) (hL : Ldz w0 w) (hR : RdR w b (([68, 97, 116, 101, 58, 32] ++ dayT n) :: ls) L) (hs : (lnT (([68, 97, 116, 101, 58, 32] ++ dayT n) :: ls)).length ≤ 2000000) (hn : L ≤ 2000000) (hb : w0.heap.size ≤ b) (hn2 : n ≤ 1439) : Calls Tryz.prog 36 #[.pointer (some ⟨b, 0, none⟩)] w fun e w' => e = .returned (.int .i64 (n : Int)) ∧ RdR w' b ls (L + 1) ∧ One b w w' := by
 have HL := Lib.hid hL
 have HR := Lib.hid hR
 have HX := Lib.hid (And.intro hs (And.intro hn (And.intro hb hn2)))
 clear hL hR hs hn hb hn2
 go_enter Tryz.func36, Tryz.ntmps36
 go_wp2_with (first
  | (go_at_call 35; refine (next35 w0 _ b _ ls L HL.out HR.out (date_nl HX.out.2.2.2) HX.out.1 HX.out.2.1 HX.out.2.2.1).mono ?_; rintro e w1 ⟨rfl, hr1, ho1⟩; have R1 := Lib.hid hr1; have O1 := Lib.hid ho1; have L1 := Lib.hid (HL.out.one ho1 HX.out.2.2.1); clear hr1 ho1)
  | (go_at_call 75; refine (value_can _ b ls (L + 1) _ (dayT n) _ R1.out rfl w0 L1.out n HX.out.2.2.2 rfl).mono ?_; rintro e w2 ⟨rfl, hb2⟩; have R2 := Lib.hid (Row.keep R1.out hb2); have O2 := Lib.hid (O1.out.trans (One.of_below hb2)); clear hb2; have c2 : w2.cell? ⟨b, 2, none⟩ = some (.int .i64 0) := R2.out.cell 2)
  | (go_at_call 77; refine (parse77 n HX.out.2.2.2 _).mono ?_; rintro e w3 ⟨rfl, hb3⟩; have R3 := Lib.hid (Row.keep R2.out hb3); have O3 := Lib.hid (O2.out.trans (One.of_below hb3)); clear hb3))
 go_ret
 exact ⟨rfl, R3.out, O3.out⟩
end
end Go.Proofs.YtibelollgdnidaaGreatDoor
