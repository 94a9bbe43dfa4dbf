/- digest: write, walked once, whatever it hands its parts to. -/
import Derived.Test.YtibelollgdnidaaGreatDoorMWrp
namespace Go.Proofs.YtibelollgdnidaaGreatDoor
open Go.RowKit
attribute [local go_sem] Oper.semAt_some
def CW (f b B : Nat) (A : List UInt8 → List Nat → World → Prop) (w : World) (S : Nat) (cs : List Value) (l : List UInt8) (F : List Nat) (ps : List (List UInt8)) (W : World) (σ : Nat) (u : World) : Bool → Bool → Prop
 | false, _ => Below W.heap.size W u
 | true, false => Below W.heap.size W u ∧ W.heap.size ≤ σ ∧ σ < u.heap.size ∧ Sl u cS (some ⟨σ, 0, none⟩) (ps.map tx)
 | true, true => WrS f b B A w S cs (l ++ ps.flatten) (σ :: F) u ∧ Frm B F W u
section
variable {f b B : Nat} {A : List UInt8 → List Nat → World → Prop} {w : World} {S : Nat} {cs : List Value} {l : List UInt8} {F : List Nat} {ps : List (List UInt8)} {W u : World} {σ : Nat} {d : Bool}
theorem CW.below (h : CW f b B A w S cs l F ps W σ u d false) : Below W.heap.size W u := by
 cases d with
 | false => exact h
 | true => exact h.1
theorem Frm.of_below {B : Nat} {F : List Nat} {W u : World} (hb : Below W.heap.size W u) (hB : B ≤ W.heap.size) (hF : ∀ k ∈ F, k < W.heap.size) : Frm B F W u :=
 ⟨hb.mono hB, fun k hk => hb.block k (hF k hk), ⟨hb.size, fun k o hk _ => (hb.block k (Array.getElem?_eq_some_iff.1 hk).1).trans hk⟩⟩
theorem CW.call (hA : AccS f b B A) (h0 : WrS f b B A w S cs l F W) (h : CW f b B A w S cs l F ps W σ u true false) (m : Nat) (hm : ps.length = m) (hn : m ≤ 20) (hl : l.length + ps.flatten.length ≤ 2000000) :
  Calls Tryz.prog f #[.slice (some ⟨σ, 0, none⟩) m m, .pointer (some ⟨b, 0, none⟩)] u fun e w' => e = .returned (.tuple #[]) ∧ CW f b B A w S cs l F ps W σ w' true true := by
 refine (h0.out hA h.1 σ h.2.1 h.2.2.1 ps m hm h.2.2.2 hn hl).mono ?_
 rintro e w' ⟨rfl, h1, h2⟩
 exact ⟨rfl, h1, (Frm.of_below h.1 (hA.le h0.acc) h0.flt).trans ⟨h2.bel, fun k hk => h2.keep k (List.mem_cons_of_mem _ hk), h2.oth⟩⟩
theorem WrS.outF (hA : AccS f b B A) (h : WrS f b B A w S cs l F W) (hb : Below W.heap.size W u) (k : Nat) (h1 : W.heap.size ≤ k) (h2 : k < u.heap.size) (ps : List (List UInt8)) (m : Nat) (hm : ps.length = m) (hs : Sl u cS (some ⟨k, 0, none⟩) (ps.map tx)) (hn : m ≤ 20) (hl : l.length + ps.flatten.length ≤ 2000000) :
  Calls Tryz.prog f #[.slice (some ⟨k, 0, none⟩) m m, .pointer (some ⟨b, 0, none⟩)] u fun e w' => e = .returned (.tuple #[]) ∧ WrS f b B A w S cs (l ++ ps.flatten) (k :: F) w' ∧ Frm B F W w' := by
 refine (h.out hA hb k h1 h2 ps m hm hs hn hl).mono ?_
 rintro e w' ⟨rfl, h4, h5⟩
 exact ⟨rfl, h4, (Frm.of_below hb (hA.le h.acc) h.flt).trans ⟨h5.bel, fun k hk => h5.keep k (List.mem_cons_of_mem _ hk), h5.oth⟩⟩
end
theorem format87t (n : Nat) (hn : n ≤ 1439) (w : World) (htab : Lib.TabIs Tryz.prog w "internal/strconv.uint64pow10" .u64 Lib.pow10Tab) : Calls Tryz.prog 87 #[.int .i64 (n : Int)] w fun e w' => e = .returned (.tuple #[.string (tx (dayT n)), .int .i64 0]) ∧ Below w.heap.size w w' := format87 n hn w htab
theorem Ldz.of {w0 w W : World} {B : Nat} (h : Ldz w0 w) (hb : Below B w W) (hB : w0.heap.size ≤ B) : Ldz w0 W := ⟨h.max, h.tab, h.bel.trans (hb.mono hB)⟩
theorem ld_fn {w : World} {g : Nat} {v : Value} {t : TypeId} (h : Row w g [v] t) : w.cell? ⟨g, 0, none⟩ = some v := h.cell 0
def hd3 (t : List UInt8) (n dt : Nat) : List (List UInt8) := [hdL t n, [68, 97, 116, 101, 58, 32] ++ dayT dt, topL]
theorem flat2 (t : List UInt8) (n dt : Nat) : [] ++ List.flatten [hdL t n, [10, 68, 97, 116, 101, 58, 32], dayT dt, [10, 84, 111, 112, 105, 99, 115, 58, 10]] = lnT (hd3 t n dt) := by simp [lnT, topL, hd3]
theorem itsL_app : ∀ (xs : List It) (ls : List (List UInt8)), itsL xs ls = itsL xs [] ++ ls
 | [], ls => rfl
 | x :: xs, ls => by
  show itF x :: itR x (itsL xs ls) = (itF x :: itR x (itsL xs [])) ++ ls
  rw [itsL_app xs ls, itR_app x (itsL xs [] ++ ls), itR_app x (itsL xs [])]
  simp
theorem itsL_snoc (xs : List It) (x : It) : itsL (xs ++ [x]) [] = itsL xs [] ++ itF x :: itR x [] := by
 induction xs with
 | nil => rfl
 | cons y ys ih =>
  show itF y :: itR y (itsL (ys ++ [x]) []) = (itF y :: itR y (itsL ys [])) ++ _
  rw [ih, itR_app y (itsL ys [] ++ _), itR_app y (itsL ys [])]
  simp
theorem itsL_app2 : ∀ (a b : List It), itsL (a ++ b) [] = itsL a [] ++ itsL b []
 | [], b => rfl
 | x :: a, b => by
  show itF x :: itR x (itsL (a ++ b) []) = (itF x :: itR x (itsL a [])) ++ itsL b []
  rw [itsL_app2 a b, itR_app x (itsL a [] ++ itsL b []), itR_app x (itsL a [])]
  simp
def five (x : It) : List (List UInt8) := [itF x, itD x, itS x, itM x, []]
theorem itF_five (x : It) : itF x :: itR x [] = five x ++ ((piecesL x.body).map protL ++ [sepL]) := rfl
theorem flat9 (x : It) : List.flatten [[70, 114, 111, 109, 58, 32], x.frm, [10, 68, 97, 116, 101, 58, 32], dayT x.date, [10, 83, 117, 98, 106, 101, 99, 116, 58, 32], x.subj, [10, 77, 101, 115, 115, 97, 103, 101, 45, 73, 68, 58, 32], textL x.id, [10, 10]] = lnT (five x) := by simp [lnT, five, itF, itD, itS, itM]
theorem print_mt (x : Id) (w : World) : Calls Tryz.prog 88 #[vI x] w fun e w' => e = .returned (.string (tx (textL x))) ∧ Below w.heap.size w w' := print_m x w
theorem dgL_eq (t : List UInt8) (n dt : Nat) (xs : List It) : dgL t n dt xs = hd3 t n dt ++ ((ctS (xs.map (·.subj))).map ctL ++ ([sepL] ++ (itsL xs [] ++ [endL t n]))) := by
 unfold dgL hd3
 rw [itsL_app]
 simp
theorem pre_len {a c : List (List UInt8)} {N : Nat} (h : (lnT (a ++ c)).length ≤ N) : (lnT a).length ≤ N := by
 rw [lnT_append, List.length_append] at h
 omega
theorem own_str_ne {w : World} {base : Nat} {e : TypeId} {v : Value} {xs : List ByteArray} (h : Own w base e 1 cS v xs) (hne : xs ≠ []) : ∃ g c, v = .slice (some ⟨g, 0, none⟩) xs.length c ∧ xs.length ≤ c ∧ base ≤ g ∧ g < w.heap.size ∧ ∀ (j : Nat) x, xs[j]? = some x → w.cell? ⟨g, 0 + j, none⟩ = some (.string x) := by
 have hlt := h.lt
 rcases own_str h with ⟨_, e⟩ | ⟨g, c, rfl, h1, h2, h3⟩
 ·exact absurd e hne
 ·exact ⟨g, c, rfl, h1, (hlt g rfl).1, h2, h3⟩
set_option maxRecDepth 100000 in
set_option maxHeartbeats 3200000 in
theorem write49 (f b B : Nat) (A : List UInt8 → List Nat → World → Prop) (hA : AccS f b B A) (w0 w : World) (t : List UInt8) (n dt : Nat) (A4 : Addr) (c4 : Nat) (xs : List It) (F0 : List Nat)
  (ht : t.length ≤ 1000) (hn : n ≤ 9) (hdt : dt ≤ 1439) (hit : ∀ x ∈ xs, x.date ≤ 1439 ∧ x.subj.length ≤ 1000 ∧ x.body.length ≤ 1000) (hne : xs ≠ []) (hc : xs.length ≤ c4) (h8 : xs.length ≤ 8) (htot : (lnT (dgL t n dt xs)).length ≤ 1000000)
  (hL : Ldz w0 w) (hw0 : w0.heap.size ≤ B) (hS : ∀ W, Below B w W → Sl W cIt (some A4) xs) (h0 : A [] F0 w) (hF0 : ∀ k ∈ F0, k < w.heap.size) :
  Calls Tryz.prog 49 #[vDg t n dt (.slice (some A4) xs.length c4), .func (.func f) #[] #[.pointer (some ⟨b, 0, none⟩)]] w fun e w' => e = .returned (.tuple #[]) ∧ (∃ F, A (lnT (dgL t n dt xs)) F w') ∧ Below B w w' := by
 have hBw := hA.le h0
 have R0 := Row.new w [.string (tx t), .int .i64 1, .int .i64 (n : Int), .int .i64 (dt : Int), .slice (some A4) xs.length c4] 39
 have R1 := Row.new (w.alloc (.cells #[.string (tx t), .int .i64 1, .int .i64 (n : Int), .int .i64 (dt : Int), .slice (some A4) xs.length c4] 39)) [.func (.func f) #[] #[.pointer (some ⟨b, 0, none⟩)]] 99
 rw [World.size_alloc] at R1
 have b1 := below_alloc w (.cells #[.string (tx t), .int .i64 1, .int .i64 (n : Int), .int .i64 (dt : Int), .slice (some A4) xs.length c4] 39)
 have b2 := below_alloc (w.alloc (.cells #[.string (tx t), .int .i64 1, .int .i64 (n : Int), .int .i64 (dt : Int), .slice (some A4) xs.length c4] 39)) (.cells #[.func (.func f) #[] #[.pointer (some ⟨b, 0, none⟩)]] 99)
 have a1 := hA.more w.heap.size h0 b1 (Nat.le_refl _) (by rw [World.size_alloc]; omega)
 have a2 := hA.more (w.heap.size + 1) a1 b2 (by rw [World.size_alloc]; omega) (by rw [World.size_alloc, World.size_alloc]; omega)
 have S0 : WrS f b B A w w.heap.size [.string (tx t), .int .i64 1, .int .i64 (n : Int), .int .i64 (dt : Int), .slice (some A4) xs.length c4] [] ((w.heap.size + 1) :: w.heap.size :: F0) ((w.alloc (.cells #[.string (tx t), .int .i64 1, .int .i64 (n : Int), .int .i64 (dt : Int), .slice (some A4) xs.length c4] 39)).alloc (.cells #[.func (.func f) #[] #[.pointer (some ⟨b, 0, none⟩)]] 99)) :=
  ⟨a2, R0.keep b2, R1, List.mem_cons_of_mem _ List.mem_cons_self, List.mem_cons_self, (Below.step b1 b2).mono hBw, hBw, fun k hk => by rcases List.mem_cons.1 hk with rfl | hk; rw [World.size_alloc, World.size_alloc]; omega; rcases List.mem_cons.1 hk with rfl | hk; rw [World.size_alloc, World.size_alloc]; omega; have := hF0 k hk; rw [World.size_alloc, World.size_alloc]; omega⟩
 have hS0 := Lib.hid S0
 have HA := Lib.hid hA
 have HX := Lib.hid (And.intro ht (And.intro hn (And.intro hdt (And.intro hit (And.intro hc (And.intro h8 (And.intro htot (And.intro hL (And.intro hw0 (And.intro hS hF0))))))))))
 have hfc : ∀ (args : Array Value) (W : World), Sem.run Tryz.prog (callFunc f args) W = .ok (.enter f args) W := hA.ent
 clear S0 R0 R1 a1 a2 b1 b2 hA ht hdt hit hc htot hL hw0 hS h0 hF0 hBw hn h8
 unfold vDg
 refine callsIn_wide.1 (callsIn_of_wp_marks (n := 5) Tryz.func49 rfl trivial (wpIn_wide.2 ?_))
 simp only [Tryz.ntmps49, List.size_toArray, List.length_cons, List.length_nil, Nat.reduceAdd, Nat.reduceSub, Array.replicate_succ, Array.replicate_zero, List.push_toArray, List.append_toArray, List.nil_append, List.cons_append]
 go_wp2_with (go_at_call 87; (refine (usee hS0 (format87t dt HX.out.2.2.1 _ ((Ldz.of HX.out.2.2.2.2.2.2.2.1 hS0.out.bel HX.out.2.2.2.2.2.2.2.2.1)).pow)).mono ?_; rintro e w2 ⟨rfl, hb2⟩; have S1 := Lib.hid (hS0.out.below HA.out hb2); clear hb2 hS0))
 refine AnyO.wp_anyI (by kernel_rfl) (by kernel_rfl) (AnyO.InvG (σ := Nat) (fun σ => AnyO.pvL [some (.func (.func f) #[] #[.pointer (some ⟨b, 0, none⟩)]), some (vDg t n dt (.slice (some A4) xs.length c4)), some (.string (tx (hdL t n))), some (.string (tx (dayT dt))), some (.slice (some ⟨σ, 0, none⟩) 4 4), some (.tuple #[])]) (fun σ D u => CW f b B A w w.heap.size [.string (tx t), .int .i64 1, .int .i64 (n : Int), .int .i64 (dt : Int), .slice (some A4) xs.length c4] ([]) ((w.heap.size + 1) :: w.heap.size :: F0) [hdL t n, [10, 68, 97, 116, 101, 58, 32], dayT dt, [10, 84, 111, 112, 105, 99, 115, 58, 10]] w2 σ u (D 4) (D 5))) (AnyO.InvG.start (g := 0) (below_drew _)) ?_ ?_
 ·intro i hi
  have hi2 : i = 0 ∨ i = 1 ∨ i = 2 ∨ i = 3 ∨ i = 4 ∨ i = 5 := by simp only [List.size_toArray, List.length_cons, List.length_nil] at hi; omega
  clear hi
  rcases hi2 with rfl | rfl | rfl | rfl | rfl | rfl
  ·refine AnyO.I rfl [] ?_; rintro D vs u σ Q h0 hC hp ac hb K hK
   have s3 := AnyO.sz (v := .pointer (some ⟨w.heap.size + 1, 0, none⟩)) 3 hb
   have hf5 := AnyO.fls (hC.out 5) h0 (by kernel_rfl)
   have hst := Q.out.2
   rw [hf5] at hst
   have hbq := CW.below hst
   have rr := (S1.out.fn.keep hbq).cell 0
   dsimp only [List.getElem?_cons_zero] at rr
   clear hst hbq hf5
   go_simp; exact hK _ _ (AnyO.InvG.step (g := σ) Q.out.1 rfl Q.out.2)
  ·refine AnyO.I rfl [] ?_; rintro D vs u σ Q h0 hC hp ac hb K hK
   have s2 := AnyO.sz (v := .pointer (some ⟨w.heap.size, 0, none⟩)) 2 hb
   have hf2 := AnyO.fls (hC.out 2) h0 (by kernel_rfl)
   have hf4 := AnyO.fls (hC.out 4) hf2 (by kernel_rfl)
   have hf5 := AnyO.fls (hC.out 5) hf4 (by kernel_rfl)
   have hst := Q.out.2
   rw [hf5] at hst
   have hbq := CW.below hst
   have rr0 := (S1.out.dg.keep hbq).cell 0
   have rr1 := (S1.out.dg.keep hbq).cell 1
   have rr2 := (S1.out.dg.keep hbq).cell 2
   have rr3 := (S1.out.dg.keep hbq).cell 3
   have rr4 := (S1.out.dg.keep hbq).cell 4
   dsimp only [List.getElem?_cons_zero, List.getElem?_cons_succ] at rr0 rr1 rr2 rr3 rr4
   clear hst hbq hf2 hf4 hf5
   go_simp; exact hK _ _ (AnyO.InvG.step (g := σ) Q.out.1 rfl Q.out.2)
  ·refine AnyO.I rfl [1] ?_; rintro D vs u σ Q h0 hC hp ac hb K hK
   have s20 : _ = _ := AnyO.sv 20 1 hb hp Q
   have hf4 := AnyO.fls (hC.out 4) h0 (by kernel_rfl)
   have hf5 := AnyO.fls (hC.out 5) hf4 (by kernel_rfl)
   have hst := Q.out.2
   rw [hf4] at hst
   have HST := Lib.hid hst
   clear hst hf5
   go_simp
   go_at_call 41
   refine (head41 t n dt _ u HX.out.2.1 HX.out.1).mono ?_
   rintro e w9 ⟨rfl, hb9⟩
   exact hK _ _ (AnyO.InvG.step (g := σ) Q.out.1 rfl (by rw [show AnyO.addD D 2 4 = D 4 from rfl, hf4]; exact Below.step HST.out hb9))
  ·refine AnyO.I rfl [] ?_; rintro D vs u σ Q h0 hC hp ac hb K hK
   have s4 := AnyO.sz (v := .string (tx (dayT dt))) 4 hb
   go_simp; exact hK _ _ (AnyO.InvG.step (g := σ) Q.out.1 rfl Q.out.2)
  ·refine AnyO.I rfl [2, 3] ?_; rintro D vs u σ Q h0 hC hp ac hb K hK
   have s21 : _ = _ := AnyO.sv 21 2 hb hp Q
   have s22 : _ = _ := AnyO.sv 22 3 hb hp Q
   have hf5 := AnyO.fls (hC.out 5) h0 (by kernel_rfl)
   have hst := Q.out.2
   rw [h0] at hst
   have HST := Lib.hid hst
   clear hst
   go_simp
   refine hK _ _ (AnyO.InvG.ghost (g := σ) u.heap.size Q.out.1 ?_ rfl ?_)
   ·intro j hj hq
    rcases j with _ | _ | _ | _ | _ | _ | j
    all_goals first | exact hq | exact absurd (show D 4 = true from hj) (by rw [h0]; decide) | exact absurd (show D 5 = true from hj) (by rw [hf5]; decide)
   rw [show AnyO.addD D 4 4 = true from rfl, show AnyO.addD D 4 5 = D 5 from rfl, hf5]
   exact ⟨Below.step HST.out (below_alloc _ _), HST.out.size, by rw [World.size_alloc]; omega, sl_newL u ([hdL t n, [10, 68, 97, 116, 101, 58, 32], dayT dt, [10, 84, 111, 112, 105, 99, 115, 58, 10]].map tx)⟩
  ·refine AnyO.I rfl [0, 4, 2] ?_; rintro D vs u σ Q h0 hC hp ac hb K hK
   have s19 : _ = _ := AnyO.sv 19 0 hb hp Q
   have s23 : _ = _ := AnyO.sv 23 4 hb hp Q
   have hp4 : D 4 = true := hp.out 4 (by decide)
   have hst := Q.out.2
   rw [hp4, h0] at hst
   have HST := Lib.hid hst
   clear hst
   go_simp
   refine (CW.call HA.out S1.out HST.out 4 rfl (by decide) (by have := HX.out.1; simp [hdL, wA, wB, dayT]; omega)).mono ?_
   rintro e w9 ⟨rfl, h9⟩
   exact hK _ _ (AnyO.InvG.step (g := σ) Q.out.1 rfl (by rw [show AnyO.addD D 5 4 = D 4 from rfl, hp4, show AnyO.addD D 5 5 = true from rfl]; exact h9))
 ·intro D vs u hI hD
  obtain ⟨σ, hP, hW⟩ := hI
  have e0 : _ = _ := hP 0 (hD 0 (by decide))
  have e1 : _ = _ := hP 1 (hD 1 (by decide))
  have e2 : _ = _ := hP 2 (hD 2 (by decide))
  have e3 : _ = _ := hP 3 (hD 3 (by decide))
  have e4 : _ = _ := hP 4 (hD 4 (by decide))
  have e5 : _ = _ := hP 5 (hD 5 (by decide))
  rw [show D 4 = true from hD 4 (by decide), show D 5 = true from hD 5 (by decide)] at hW
  have HW := Lib.hid hW
  clear hW hP hD
  rw [puts_range [some 19, some 20, some 21, some 22, some 23, some 24] (by kernel_rfl)]
  simp only [putL, Nat.reduceAdd, e0, e1, e2, e3, e4, e5]
  clear e0 e1 e2 e3 e4 e5
  go_simp
  obtain ⟨F2, hF2⟩ : ∃ F, σ :: (w.heap.size + 1) :: w.heap.size :: F0 = F := ⟨_, rfl⟩
  have S2 := Lib.hid (by have := HW.out.1; rw [flat2, hF2] at this; exact this)
  clear HW S1 hF2
  have hss : (xs.map (·.subj)).length ≤ 8 := by rw [List.length_map]; exact HX.out.2.2.2.2.2.1
  have hcl := ctS_len (xs.map (·.subj))
  obtain ⟨CT, hCT⟩ : ∃ CT, (ctS (xs.map (·.subj))) = CT := ⟨_, rfl⟩
  have hCTne : CT.map tx ≠ [] := by rw [← hCT]; exact fun e => ctS_ne (fun e => hne (List.map_eq_nil_iff.1 e)) (List.map_eq_nil_iff.1 e)
  obtain ⟨m, hm⟩ : ∃ m, CT.length = m := ⟨_, rfl⟩
  have hm8 : m ≤ 8 := by rw [← hm, ← hCT]; omega
  have htot2 : (lnT (hd3 t n dt ++ (CT.map ctL ++ ([sepL] ++ (itsL xs [] ++ [endL t n]))))).length ≤ 1000000 := by rw [← hCT, ← dgL_eq]; exact HX.out.2.2.2.2.2.2.1
  have HT := Lib.hid (And.intro htot2 (And.intro hCT (And.intro hCTne hm)))
  clear hcl hss hCTne htot2
  have dd0 : u.cell? ⟨w.heap.size, 0, none⟩ = some (.string (tx t)) := S2.out.dg.cell 0
  have dd1 : u.cell? ⟨w.heap.size, 1, none⟩ = some (.int .i64 1) := S2.out.dg.cell 1
  have dd2 : u.cell? ⟨w.heap.size, 2, none⟩ = some (.int .i64 (n : Int)) := S2.out.dg.cell 2
  have dd3 : u.cell? ⟨w.heap.size, 3, none⟩ = some (.int .i64 (dt : Int)) := S2.out.dg.cell 3
  have dd4 : u.cell? ⟨w.heap.size, 4, none⟩ = some (.slice (some A4) xs.length c4) := S2.out.dg.cell 4
  go_wp2_with (go_at_call 42; (refine (usee S2 (contents42 t n dt (some A4) c4 xs _ (HX.out.2.2.2.2.2.2.2.2.2.1 _ S2.out.bel) HX.out.2.2.2.2.1 HX.out.2.2.2.2.2.1 (fun x hx => (HX.out.2.2.2.1 x hx).2.1))).mono ?_; rintro e w3 ⟨v5, rfl, hov, hb3⟩; rw [HT.out.2.1] at hov; obtain ⟨g, c5, rfl, hc5, hg1, hg2, hgx⟩ := own_str_ne hov HT.out.2.2.1; rw [List.length_map, HT.out.2.2.2] at hc5; rw [List.length_map, HT.out.2.2.2]; have S3 := Lib.hid (And.intro (S2.out.more HA.out hb3 g hg1 hg2) (And.intro hgx (Nat.lt_of_lt_of_le S2.out.fn.lt hg1))); clear hb3 hov S2 hgx dd0 dd1 dd2 dd3 dd4))
  have hgS : w.heap.size + 1 < g := S3.out.2.2
  go_loopw [28] (fun i W => ∃ (j : Nat) (F : List Nat), j ≤ m ∧ i = .int .i64 (j : Int) ∧ WrS f b B A w w.heap.size [.string (tx t), .int .i64 1, .int .i64 (n : Int), .int .i64 (dt : Int), .slice (some A4) xs.length c4] (lnT (hd3 t n dt ++ (CT.take j).map ctL)) F W ∧ g ∈ F ∧ W.heap[g]? = w3.heap[g]?) (fun i _ => m - (intOf i).toNat)
  case atStart => exact ⟨0, _, Nat.zero_le _, rfl, by rw [List.take_zero, List.map_nil, List.append_nil]; exact S3.out.1, List.mem_cons_self, rfl⟩
  case round =>
   obtain ⟨j, F, hj, rfl, hw, hgF, hgw⟩ := hrel
   by_cases hjm : j < m
   ·have hjl : j < CT.length := by rw [HT.out.2.2.2]; exact hjm
    obtain ⟨x, hxe⟩ : ∃ x, CT[j] = x := ⟨_, rfl⟩
    have hcx : wr.cell? ⟨g, j, none⟩ = some (.string (tx x)) := by
     rw [cell_same (w := w3) hgw]
     have := S3.out.2.1 j (tx x) (by rw [List.getElem?_map, List.getElem?_eq_getElem hjl, hxe]; rfl)
     rwa [Nat.zero_add] at this
    have hfn := ld_fn hw.fn
    have htk : (CT.take (j + 1)) = CT.take j ++ [x] := by rw [← hxe]; exact List.take_succ_eq_append_getElem hjl
    have hfl : lnT (hd3 t n dt ++ (CT.take j).map ctL) ++ List.flatten [[32, 32], x, [10]] = lnT (hd3 t n dt ++ (CT.take (j + 1)).map ctL) := by
     rw [htk, List.map_append, ← List.append_assoc, lnT_append _ (List.map ctL [x])]
     simp [lnT, ctL]
    have hle : (lnT (hd3 t n dt ++ (CT.take (j + 1)).map ctL)).length ≤ 1000000 := by
     have h1 := HT.out.1
     rw [← List.append_assoc] at h1
     have h2 := pre_len h1
     rw [← List.take_append_drop (j + 1) CT, List.map_append, ← List.append_assoc] at h2
     exact pre_len h2
    have H1 := Lib.hid (And.intro hw (And.intro hgF hgw))
    have HF := Lib.hid (And.intro hfl (show (lnT (hd3 t n dt ++ (CT.take j).map ctL)).length + (List.flatten [[32, 32], x, [10]]).length ≤ 2000000 by rw [← List.length_append, hfl]; omega))
    clear hw hgF hgw hfl hle htk hxe
    go_wp2_with ((refine (usee H1 (H1.out.1.out HA.out (below_alloc wr (.cells #[.string ⟨#[32, 32]⟩, .string (tx x), .string ⟨#[10]⟩] 9)) wr.heap.size (Nat.le_refl _) (by rw [World.size_alloc]; omega) [[32, 32], x, [10]] 3 rfl (sl_newL wr [tx [32, 32], tx x, tx [10]]) (by decide) HF.out.2)).mono ?_; rintro e w4 ⟨rfl, hw4, hf4⟩; have H2 := Lib.hid (And.intro (HF.out.1 ▸ hw4) (And.intro hf4 (And.intro H1.out.2.1 (And.intro H1.out.2.2 (H1.out.1.flt g H1.out.2.1))))); clear hw4 hf4 H1))
    refine ⟨⟨j + 1, wr.heap.size :: F, hjm, by rw [Int.natCast_add]; rfl, H2.out.1, List.mem_cons_of_mem _ H2.out.2.2.1, ?_⟩, by simp [intOf]; omega⟩
    exact (H2.out.2.1.keep g (List.mem_cons_of_mem _ H2.out.2.2.1)).trans (((below_alloc wr _).block g (H2.out.1.dg.lt |> fun _ => H2.out.2.2.2.2)).trans H2.out.2.2.2.1)
   ·obtain rfl : j = m := by omega
    rw [List.take_of_length_le (by rw [HT.out.2.2.2]; exact Nat.le_refl _)] at hw
    have hfn := ld_fn hw.fn
    have hfl : lnT (hd3 t n dt ++ CT.map ctL) ++ List.flatten [sepL, [10]] = lnT (hd3 t n dt ++ CT.map ctL ++ [sepL]) := by
     rw [lnT_append _ [sepL]]
     simp [lnT]
    have hle : (lnT (hd3 t n dt ++ CT.map ctL ++ [sepL])).length ≤ 1000000 := by
     have h1 := HT.out.1
     rw [← List.append_assoc, ← List.append_assoc] at h1
     exact pre_len h1
    have H1 := Lib.hid hw
    have HF := Lib.hid (And.intro hfl (show (lnT (hd3 t n dt ++ CT.map ctL)).length + (List.flatten [sepL, [10]]).length ≤ 2000000 by rw [← List.length_append, hfl]; omega))
    clear hw hgF hgw hfl hle S3 hgS
    go_wp2_with (refine (usee H1 (H1.out.out HA.out (below_alloc wr (.cells #[.string (tx sepL), .string ⟨#[10]⟩] 9)) wr.heap.size (Nat.le_refl _) (by rw [World.size_alloc]; omega) [sepL, [10]] 2 rfl (sl_newL wr [tx sepL, tx [10]]) (by decide) HF.out.2)).mono ?_; rintro e w4 ⟨rfl, hw4, hf4⟩; have H2 := Lib.hid (HF.out.1 ▸ hw4); have ee4 : w4.cell? ⟨w.heap.size, 4, none⟩ = some (.slice (some A4) xs.length c4) := hw4.dg.cell 4; clear hw4 hf4 H1)
    refine wp_loop (fun a' W => ∃ (Ds : List Nat) (k : Nat) (F : List Nat), a'.defers = Ds.map mkD ∧ a'.tmps.size = 86 ∧ a'.tmps[2]?.getD undef = .pointer (some ⟨w.heap.size, 0, none⟩) ∧ a'.tmps[3]?.getD undef = .pointer (some ⟨w.heap.size + 1, 0, none⟩) ∧ a'.tmps[41]?.getD undef = .slice (some A4) xs.length c4 ∧ a'.tmps[42]?.getD undef = .int .i64 (xs.length : Int) ∧ a'.tmps[43]?.getD undef = .int .i64 (k : Int) ∧ k ≤ xs.length ∧ WrS f b B A w w.heap.size [.string (tx t), .int .i64 1, .int .i64 (n : Int), .int .i64 (dt : Int), .slice (some A4) xs.length c4] (lnT (hd3 t n dt ++ CT.map ctL ++ [sepL] ++ itsL (xs.take k) [])) F W ∧ Ds.Nodup ∧ ∀ D ∈ Ds, W.heap[D]? = some (.deferred (some [])) ∧ w.heap.size + 1 < D ∧ D < W.heap.size) (fun a' _ => xs.length - (intOf (a'.tmps[43]?.getD undef)).toNat) ?_ ?_
    ·exact ⟨[], 0, _, rfl, rfl, rfl, rfl, rfl, rfl, rfl, Nat.zero_le _, by rw [List.take_zero]; exact (List.append_nil (hd3 t n dt ++ CT.map ctL ++ [sepL])).symm ▸ H2.out, List.nodup_nil, fun D hD => by cases hD⟩
    ·clear H2 ee4
     rintro ⟨tm, df⟩ wl ⟨Ds, k, F, hds, htm, h2, h3, h41, h42, h43, hk, hw, hnd, hD⟩
     dsimp only at hds htm h2 h3 h41 h42 h43
     subst hds
     have hl := arr_of tm 86 htm
     obtain ⟨y, hy⟩ : ∃ y : Nat → Value, (fun i => tm[i]?.getD undef) = y := ⟨_, rfl⟩
     rw [hy] at hl
     have hl2 : tm = #[y 0, y 1, y 2, y 3, y 4, y 5, y 6, y 7, y 8, y 9, y 10, y 11, y 12, y 13, y 14, y 15, y 16, y 17, y 18, y 19, y 20, y 21, y 22, y 23, y 24, y 25, y 26, y 27, y 28, y 29, y 30, y 31, y 32, y 33, y 34, y 35, y 36, y 37, y 38, y 39, y 40, y 41, y 42, y 43, y 44, y 45, y 46, y 47, y 48, y 49, y 50, y 51, y 52, y 53, y 54, y 55, y 56, y 57, y 58, y 59, y 60, y 61, y 62, y 63, y 64, y 65, y 66, y 67, y 68, y 69, y 70, y 71, y 72, y 73, y 74, y 75, y 76, y 77, y 78, y 79, y 80, y 81, y 82, y 83, y 84, y 85] := hl
     rw [show y 2 = _ from (congrFun hy 2).symm.trans h2, show y 3 = _ from (congrFun hy 3).symm.trans h3, show y 41 = _ from (congrFun hy 41).symm.trans h41, show y 42 = _ from (congrFun hy 42).symm.trans h42, show y 43 = _ from (congrFun hy 43).symm.trans h43] at hl2
     clear hl hy htm h2 h3 h41 h42 h43
     subst hl2
     by_cases hlt : k < xs.length
     ·obtain ⟨x, hxe⟩ : ∃ x, xs[k] = x := ⟨_, rfl⟩
      have htk : xs.take (k + 1) = xs.take k ++ [x] := by rw [← hxe]; exact List.take_succ_eq_append_getElem hlt
      have hmem : x ∈ xs := by rw [← hxe]; exact List.getElem_mem hlt
      obtain ⟨ad, hae, ho1, ho2⟩ := Sl.it (HX.out.2.2.2.2.2.2.2.2.2.1 _ hw.bel) hlt
      injection hae with hae
      subst hae
      rw [hxe] at ho2
      have hit := HX.out.2.2.2.1 x hmem
      have hrow := Row.new wl (cIt x) 36
      have hc1 : (wl.alloc (.cells (aIt x) 36)).cell? ⟨wl.heap.size, 1, none⟩ = some (.int .i64 (x.date : Int)) := hrow.cell 1
      have H1 := Lib.hid (And.intro hw (And.intro (hw.more HA.out (below_alloc wl (.cells (aIt x) 36)) wl.heap.size (Nat.le_refl _) (by rw [World.size_alloc]; omega)) (And.intro hrow (And.intro hit (And.intro htk (And.intro hnd hD))))))
      clear hw hrow hit htk hmem hxe hnd hD
      go_wp2_with (go_at_call 87; (refine (usee H1 (format87t x.date H1.out.2.2.2.1.1 _ ((Ldz.of HX.out.2.2.2.2.2.2.2.1 H1.out.2.1.bel HX.out.2.2.2.2.2.2.2.2.1)).pow)).mono ?_; rintro e w5 ⟨rfl, hb5⟩; have H3 := Lib.hid (And.intro (H1.out.2.1.below HA.out hb5) (And.intro (H1.out.2.2.1.keep hb5) hb5)); clear hb5))
      obtain ⟨PL, hPL⟩ : ∃ PL, hd3 t n dt ++ CT.map ctL ++ [sepL] ++ itsL (xs.take k) [] = PL := ⟨_, rfl⟩
      have hPT : (lnT (PL ++ (five x ++ ((piecesL x.body).map protL ++ [sepL])))).length ≤ 1000000 := by
       have h1 := HT.out.1
       rw [← List.append_assoc, ← List.append_assoc, ← List.append_assoc, ← List.take_append_drop (k + 1) xs, H1.out.2.2.2.2.1, itsL_app2, itsL_snoc, itF_five] at h1
       rw [← List.append_assoc, ← List.append_assoc, hPL] at h1
       exact pre_len (pre_len h1)
      have S5 := Lib.hid (by have := H3.out.1; rw [hPL] at this; exact this)
      have HRow := Lib.hid H3.out.2.1
      have HP := Lib.hid (And.intro hPT (And.intro hPL (show (lnT PL).length + (List.flatten [[70, 114, 111, 109, 58, 32], x.frm, [10, 68, 97, 116, 101, 58, 32], dayT x.date, [10, 83, 117, 98, 106, 101, 99, 116, 58, 32], x.subj, [10, 77, 101, 115, 115, 97, 103, 101, 45, 73, 68, 58, 32], textL x.id, [10, 10]]).length ≤ 2000000 by
       rw [flat9, ← List.length_append, ← lnT_append]
       rw [← List.append_assoc] at hPT
       have := pre_len hPT
       omega)))
      clear hPT hPL hc1
      refine AnyO.wp_anyI (by kernel_rfl) (by kernel_rfl) (AnyO.InvG (σ := Nat) (fun σ => AnyO.pvL [some (.func (.func f) #[] #[.pointer (some ⟨b, 0, none⟩)]), some (.pointer (some ⟨wl.heap.size, 0, none⟩)), some (.string (tx x.frm)), some (.string (tx (dayT x.date))), some (.pointer (some ⟨wl.heap.size, 2, none⟩)), some (.string (tx x.subj)), some (.pointer (some ⟨wl.heap.size, 3, none⟩)), some (vI x.id), some (.string (tx (textL x.id))), some (.slice (some ⟨σ, 0, none⟩) 9 9), some (.tuple #[])]) (fun σ D u => CW f b B A w w.heap.size [.string (tx t), .int .i64 1, .int .i64 (n : Int), .int .i64 (dt : Int), .slice (some A4) xs.length c4] (lnT PL) (wl.heap.size :: F) [[70, 114, 111, 109, 58, 32], x.frm, [10, 68, 97, 116, 101, 58, 32], dayT x.date, [10, 83, 117, 98, 106, 101, 99, 116, 58, 32], x.subj, [10, 77, 101, 115, 115, 97, 103, 101, 45, 73, 68, 58, 32], textL x.id, [10, 10]] w5 σ u (D 9) (D 10))) (AnyO.InvG.start (g := 0) (below_drew _)) ?_ ?_
      ·intro i hi
       have hi2 : i = 0 ∨ i = 2 ∨ i = 5 ∨ i = 7 ∨ i = 8 ∨ i = 9 ∨ i = 10 ∨ i = 1 ∨ i = 3 ∨ i = 4 ∨ i = 6 := by simp only [List.size_toArray, List.length_cons, List.length_nil] at hi; omega
       clear hi
       rcases hi2 with rfl | rfl | rfl | rfl | rfl | rfl | rfl | rfl | rfl | rfl | rfl
       ·refine AnyO.I rfl [] ?_; rintro D vs u σ Q h0 hC hp ac hb K hK
        have s3 := AnyO.sz (v := .pointer (some ⟨w.heap.size + 1, 0, none⟩)) 3 hb
        have hf10 := AnyO.fls (hC.out 10) h0 (by kernel_rfl)
        have hst := Q.out.2
        rw [hf10] at hst
        have hbq := CW.below hst
        have rr := (S5.out.fn.keep hbq).cell 0
        dsimp only [List.getElem?_cons_zero] at rr
        clear hst hbq hf10
        go_simp; exact hK _ _ (AnyO.InvG.step (g := σ) Q.out.1 rfl Q.out.2)
       ·refine AnyO.I rfl [1] ?_; rintro D vs u σ Q h0 hC hp ac hb K hK
        have s54 : _ = _ := AnyO.sv 54 1 hb hp Q
        have hf9 := AnyO.fls (hC.out 9) h0 (by kernel_rfl)
        have hf10 := AnyO.fls (hC.out 10) hf9 (by kernel_rfl)
        have hst := Q.out.2
        rw [hf10] at hst
        have hbq := CW.below hst
        have rr : u.cell? ⟨wl.heap.size, 0, none⟩ = some (.string (tx x.frm)) := (HRow.out.keep hbq).cell 0
        clear hst hbq hf9 hf10
        go_simp; exact hK _ _ (AnyO.InvG.step (g := σ) Q.out.1 rfl Q.out.2)
       ·refine AnyO.I rfl [4] ?_; rintro D vs u σ Q h0 hC hp ac hb K hK
        have s57 : _ = _ := AnyO.sv 57 4 hb hp Q
        have hf9 := AnyO.fls (hC.out 9) h0 (by kernel_rfl)
        have hf10 := AnyO.fls (hC.out 10) hf9 (by kernel_rfl)
        have hst := Q.out.2
        rw [hf10] at hst
        have hbq := CW.below hst
        have rr : u.cell? ⟨wl.heap.size, 2, none⟩ = some (.string (tx x.subj)) := (HRow.out.keep hbq).cell 2
        clear hst hbq hf9 hf10
        go_simp; exact hK _ _ (AnyO.InvG.step (g := σ) Q.out.1 rfl Q.out.2)
       ·refine AnyO.I rfl [6] ?_; rintro D vs u σ Q h0 hC hp ac hb K hK
        have s59 : _ = _ := AnyO.sv 59 6 hb hp Q
        have hf8 := AnyO.fls (hC.out 8) h0 (by kernel_rfl)
        have hf9 := AnyO.fls (hC.out 9) hf8 (by kernel_rfl)
        have hf10 := AnyO.fls (hC.out 10) hf9 (by kernel_rfl)
        have hst := Q.out.2
        rw [hf10] at hst
        have hbq := CW.below hst
        have rq := row_itId (HRow.out.keep hbq)
        have rr1 := rq.1
        have rr2 := rq.2
        clear rq
        clear hst hbq hf8 hf9 hf10
        go_simp; exact hK _ _ (AnyO.InvG.step (g := σ) Q.out.1 rfl Q.out.2)
       ·refine AnyO.I rfl [7] ?_; rintro D vs u σ Q h0 hC hp ac hb K hK
        have s60 : _ = _ := AnyO.sv 60 7 hb hp Q
        have hf9 := AnyO.fls (hC.out 9) h0 (by kernel_rfl)
        have hf10 := AnyO.fls (hC.out 10) hf9 (by kernel_rfl)
        have hst := Q.out.2
        rw [hf9] at hst
        have HST := Lib.hid hst
        clear hst hf10
        go_simp
        go_at_call 88
        refine (print_mt x.id u).mono ?_
        rintro e w9 ⟨rfl, hb9⟩
        exact hK _ _ (AnyO.InvG.step (g := σ) Q.out.1 rfl (by rw [show AnyO.addD D 8 9 = D 9 from rfl, hf9]; exact Below.step HST.out hb9))
       ·refine AnyO.I rfl [2, 3, 5, 8] ?_; rintro D vs u σ Q h0 hC hp ac hb K hK
        have s55 : _ = _ := AnyO.sv 55 2 hb hp Q
        have s56 : _ = _ := AnyO.sv 56 3 hb hp Q
        have s58 : _ = _ := AnyO.sv 58 5 hb hp Q
        have s61 : _ = _ := AnyO.sv 61 8 hb hp Q
        have hf10 := AnyO.fls (hC.out 10) h0 (by kernel_rfl)
        have hst := Q.out.2
        rw [h0] at hst
        have HST := Lib.hid hst
        clear hst
        go_simp
        refine hK _ _ (AnyO.InvG.ghost (g := σ) u.heap.size Q.out.1 ?_ rfl ?_)
        ·intro j hj hq
         rcases j with _ | _ | _ | _ | _ | _ | _ | _ | _ | _ | _ | j
         all_goals first | exact hq | exact absurd (show D 9 = true from hj) (by rw [h0]; decide) | exact absurd (show D 10 = true from hj) (by rw [hf10]; decide)
        rw [show AnyO.addD D 9 9 = true from rfl, show AnyO.addD D 9 10 = D 10 from rfl, hf10]
        exact ⟨Below.step HST.out (below_alloc _ _), HST.out.size, by rw [World.size_alloc]; omega, sl_newL u ([[70, 114, 111, 109, 58, 32], x.frm, [10, 68, 97, 116, 101, 58, 32], dayT x.date, [10, 83, 117, 98, 106, 101, 99, 116, 58, 32], x.subj, [10, 77, 101, 115, 115, 97, 103, 101, 45, 73, 68, 58, 32], textL x.id, [10, 10]].map tx)⟩
       ·refine AnyO.StepI.mk rfl [0, 9, 8] (by kernel_rfl) ?_; rintro D vs u ⟨σ, hP, hW⟩ h0 hC hp ac hb K hK
        have s53 := AnyO.slot 53 hb (by kernel_rfl) (hP 0 (hp 0 (by decide)))
        have s62 := AnyO.slot 62 hb (by kernel_rfl) (hP 9 (hp 9 (by decide)))
        rw [if_pos (AnyO.wanted_none rfl)]
        have hp9 : D 9 = true := hp 9 (by decide)
        clear hb hp
        have hst := hW
        rw [hp9, h0] at hst
        have HST := Lib.hid hst
        clear hst h0 hC
        have HPW := Lib.hid (And.intro hP hW); clear hP hW; go_simp; obtain ⟨hP, hW⟩ := HPW.out
        refine (CW.call HA.out S5.out HST.out 9 rfl (by decide) HP.out.2.2).mono ?_
        rintro e w9 ⟨rfl, h9⟩
        exact hK _ _ (AnyO.InvG.step (g := σ) hP rfl (by rw [show AnyO.addD D 10 9 = D 9 from rfl, hp9, show AnyO.addD D 10 10 = true from rfl]; exact h9))
       all_goals
        refine AnyO.J rfl ?_; rintro D vs u σ Q h0 hC hp ac hb K hK
        try have s9 : ac.tmps[9]?.getD undef = .pointer (some ⟨wl.heap.size, 0, none⟩) := by rw [hb.out]; kernel_rfl
        try have s10 : ac.tmps[10]?.getD undef = .string (tx (dayT x.date)) := by rw [hb.out]; kernel_rfl
        go_simp
        exact hK _ _ (AnyO.InvG.step (g := σ) Q.out.1 rfl Q.out.2)
      ·intro D vs u hI hD
       obtain ⟨σ, hP, hW⟩ := hI
       have e0 : _ = _ := hP 0 (hD 0 (by decide))
       have e1 : _ = _ := hP 1 (hD 1 (by decide))
       have e2 : _ = _ := hP 2 (hD 2 (by decide))
       have e3 : _ = _ := hP 3 (hD 3 (by decide))
       have e4 : _ = _ := hP 4 (hD 4 (by decide))
       have e5 : _ = _ := hP 5 (hD 5 (by decide))
       have e6 : _ = _ := hP 6 (hD 6 (by decide))
       have e7 : _ = _ := hP 7 (hD 7 (by decide))
       have e8 : _ = _ := hP 8 (hD 8 (by decide))
       have e9 : _ = _ := hP 9 (hD 9 (by decide))
       have e10 : _ = _ := hP 10 (hD 10 (by decide))
       rw [show D 9 = true from hD 9 (by decide), show D 10 = true from hD 10 (by decide)] at hW
       have HW := Lib.hid hW
       clear hW hP hD
       rw [puts_range [some 53, some 54, some 55, some 56, some 57, some 58, some 59, some 60, some 61, some 62, some 63] (by kernel_rfl)]
       simp only [putL, Nat.reduceAdd, e0, e1, e2, e3, e4, e5, e6, e7, e8, e9, e10]
       clear e0 e1 e2 e3 e4 e5 e6 e7 e8 e9 e10
       go_simp
       have hw6 := HW.out.1
       rw [flat9, ← lnT_append] at hw6
       have hr6 := HRow.out.same (HW.out.2.keep wl.heap.size List.mem_cons_self)
       have hb6 : u.cell? ⟨wl.heap.size, 35, none⟩ = some (.string (tx x.body)) := row_itBody hr6
       have hD6 : ∀ D ∈ Ds, u.heap[D]? = some (.deferred (some [])) := fun D hD => by
        have h1 := (H1.out.2.2.2.2.2.2 D hD)
        exact HW.out.2.oth.same D _ (((H3.out.2.2.block D (by rw [World.size_alloc]; omega)).trans ((below_alloc wl _).block D h1.2.2)).trans h1.1) rfl
       have S6 := Lib.hid (And.intro hw6 (And.intro hD6 (show wl.heap.size < u.heap.size from hr6.lt)))
       clear hw6 hr6 hD6 HW S5
       go_wp2_with (go_at_call 83; (refine (usee S6 (splitSeq83 x.body _)).mono ?_; rintro e w7 ⟨rfl, hsp, hb7, hz7⟩; have S7 := Lib.hid (And.intro (S6.out.1.moreL HA.out hb7 [u.heap.size, u.heap.size + 1, u.heap.size + 2] (fun j hj => by simp only [List.mem_cons, List.not_mem_nil, or_false] at hj; omega)) (And.intro hsp (And.intro hz7 hb7))); clear hsp hb7 hz7))
       obtain ⟨N, hN⟩ : ∃ N, u.heap.size = N := ⟨_, rfl⟩
       rw [hN] at S7 ⊢
       have hS1N : w.heap.size + 1 < N := by rw [← hN]; exact S6.out.1.fn.lt
       have hDN : ∀ D ∈ Ds, D < N := fun D hD => by have := (H1.out.2.2.2.2.2.2 D hD).2.2; have := S6.out.2.2; omega
       have hbl := H1.out.2.2.2.1.2.2
       have HPT := Lib.hid HP.out.1
       refine wpIn_wide.1 (range_split (m := 3) 12 (N + 1) N (N + 2) (by omega) (by omega) x.body (by omega) rfl S7.out.2.1
        (fun pre W => ∃ F' : List Nat, WrS f b B A w w.heap.size [.string (tx t), .int .i64 1, .int .i64 (n : Int), .int .i64 (dt : Int), .slice (some A4) xs.length c4] (lnT (PL ++ five x ++ pre.map protL)) F' W ∧ (N ∈ F' ∧ N + 1 ∈ F' ∧ N + 2 ∈ F') ∧ ∀ D ∈ Ds, W.heap[D]? = some (.deferred (some []))) ?is ?io ?ia ?h0 ?asg ?body ?done)
       case is =>
        rintro pre W v ⟨F', h, hm, hd⟩
        exact ⟨F', h.set HA.out N v hm.1 hS1N, hm, fun D hD => (heap_set_other W N 0 v D (by have := hDN D hD; omega)).trans (hd D hD)⟩
       case io =>
        rintro pre W k2 o o' hk2 ho hc ⟨F', h, hm, hd⟩
        rw [S7.out.2.2.1] at hk2
        exact ⟨F', h.put HA.out k2 o o' ho hc (by omega), hm, fun D hD => (World.putObj_heap_other (by have := hDN D hD; omega)).trans (hd D hD)⟩
       case ia =>
        rintro pre W o ⟨F', h, hm, hd⟩ -
        exact ⟨F', h.below HA.out (below_alloc _ _), hm, fun D hD => ((below_alloc W o).block D (Array.getElem?_eq_some_iff.1 (hd D hD)).1).trans (hd D hD)⟩
       case h0 =>
        refine ⟨_, by rw [List.map_nil, List.append_nil]; exact S7.out.1, by simp, fun D hD => ?_⟩
        exact (S7.out.2.2.2.block D (hDN D hD)).trans (S6.out.2.1 D hD)
       case asg =>
        intro l p W K hK
        simp only [List.zip_toArray, List.zip_cons_cons, List.zip_nil_right, List.foldl_toArray', List.foldl_cons, List.foldl_nil]
        gi_wp2
        exact hK
       case body =>
        rintro l pre p W tm htm hp hWz ⟨F', h, hm, hd⟩
        have hz86 : tm.size = 86 := by rw [htm]; rfl
        have h3 : tm[3]?.getD undef = .pointer (some ⟨w.heap.size + 1, 0, none⟩) := by rw [htm]; rfl
        have h12 : tm[12]?.getD undef = .string (tx p) := by rw [htm]; rfl
        clear htm
        have hl := arr_of tm 86 hz86
        obtain ⟨z, hz⟩ : ∃ z : Nat → Value, (fun i => tm[i]?.getD undef) = z := ⟨_, rfl⟩
        rw [hz] at hl
        have hl2 : tm = #[z 0, z 1, z 2, z 3, z 4, z 5, z 6, z 7, z 8, z 9, z 10, z 11, z 12, z 13, z 14, z 15, z 16, z 17, z 18, z 19, z 20, z 21, z 22, z 23, z 24, z 25, z 26, z 27, z 28, z 29, z 30, z 31, z 32, z 33, z 34, z 35, z 36, z 37, z 38, z 39, z 40, z 41, z 42, z 43, z 44, z 45, z 46, z 47, z 48, z 49, z 50, z 51, z 52, z 53, z 54, z 55, z 56, z 57, z 58, z 59, z 60, z 61, z 62, z 63, z 64, z 65, z 66, z 67, z 68, z 69, z 70, z 71, z 72, z 73, z 74, z 75, z 76, z 77, z 78, z 79, z 80, z 81, z 82, z 83, z 84, z 85] := hl
        rw [show z 3 = _ from (congrFun hz 3).symm.trans h3, show z 12 = _ from (congrFun hz 12).symm.trans h12] at hl2
        clear hl hz hz86 h3 h12
        subst hl2
        have hfn := ld_fn h.fn
        obtain ⟨rr, hrr⟩ := hp
        have hle : (lnT (PL ++ five x ++ (pre ++ [p]).map protL)).length ≤ 1000000 := by
         have h1 := HPT.out
         rw [hrr, show pre ++ p :: rr = (pre ++ [p]) ++ rr by simp, List.map_append, List.append_assoc, ← List.append_assoc (five x), ← List.append_assoc PL, ← List.append_assoc PL] at h1
         exact pre_len h1
        have hsn : lnT (PL ++ five x ++ (pre ++ [p]).map protL) = lnT (PL ++ five x ++ pre.map protL) ++ (protL p ++ [10]) := by rw [List.map_append, ← List.append_assoc, lnT_append _ (List.map protL [p])]; simp [lnT]
        have hH := hasPre p [45] W
        rw [hasPre1] at hH
        have hlt3 : N < W.heap.size ∧ N + 1 < W.heap.size ∧ N + 2 < W.heap.size := ⟨h.flt _ hm.1, h.flt _ hm.2.1, h.flt _ hm.2.2⟩
        have H8 := Lib.hid (And.intro h (And.intro hm hd))
        clear h hm hd hrr HPT
        obtain ⟨PQ, hPQ⟩ : ∃ PQ, PL ++ five x ++ pre.map protL = PQ := ⟨_, rfl⟩
        rw [hPQ] at H8 hsn
        obtain ⟨PR, hPR⟩ : ∃ PR, PL ++ five x ++ (pre ++ [p]).map protL = PR := ⟨_, rfl⟩
        rw [hPR] at hsn hle ⊢
        have hfin : ∀ (W' : World) (F'' : List Nat), WrS f b B A w w.heap.size [.string (tx t), .int .i64 1, .int .i64 (n : Int), .int .i64 (dt : Int), .slice (some A4) xs.length c4] (lnT PR) F'' W' → (∀ k2 ∈ F', k2 ∈ F'') → Frm B F' W W' → KeepsFrom w7.heap.size W W' ∧ K3 (N + 1) N (N + 2) W W' ∧ ∃ F', WrS f b B A w w.heap.size [.string (tx t), .int .i64 1, .int .i64 (n : Int), .int .i64 (dt : Int), .slice (some A4) xs.length c4] (lnT PR) F' W' ∧ (N ∈ F' ∧ N + 1 ∈ F' ∧ N + 2 ∈ F') ∧ ∀ D ∈ Ds, W'.heap[D]? = some (.deferred (some [])) := by
         intro W' F'' hw' hsub hfr
         exact ⟨hfr.oth.from _, ⟨hfr.keep _ H8.out.2.1.2.1, hfr.keep _ H8.out.2.1.1, hfr.keep _ H8.out.2.1.2.2⟩, F'', hw', ⟨hsub _ H8.out.2.1.1, hsub _ H8.out.2.1.2.1, hsub _ H8.out.2.1.2.2⟩, fun D hD => hfr.oth.same D _ (H8.out.2.2 D hD) rfl⟩
        have HFIN := Lib.hid hfin
        clear hfin
        by_cases hp45 : p.head? = some 45
        ·rw [decide_eq_true hp45] at hH
         have hpr : protL p = [45, 32] ++ p := by unfold protL; rw [if_pos hp45]; rfl
         rw [hpr] at hsn
         have hsn1 : (lnT PQ ++ List.flatten [[45, 32]]) ++ List.flatten [p, [10]] = lnT PR := by rw [hsn]; simp
         have hlen := congrArg List.length hsn1
         rw [List.length_append, List.length_append] at hlen
         have HB := Lib.hid (And.intro hsn1 (And.intro (show (lnT PQ).length + (List.flatten [[45, 32]] : List UInt8).length ≤ 2000000 by omega) (show (lnT PQ ++ List.flatten [[45, 32]]).length + (List.flatten [p, [10]]).length ≤ 2000000 by rw [List.length_append]; omega)))
         have HH := Lib.hid hH
         clear hH hsn hsn1 hlen hle hpr hp45
         gi_wp2_with (first
          | (refine ⟨trivial, ?_⟩; gi_at_call 39; refine (CallsIn.inRound l (callsIn_wide.2 HH.out)).mono ?_; rintro e w2 ⟨rfl, rfl⟩)
          | (refine ⟨trivial, ?_⟩; (refine (CallsIn.inRound l (callsIn_wide.2 (usee HH (H8.out.1.outF HA.out (below_alloc _ (.cells #[.string ⟨#[45, 32]⟩] 9)) _ (Nat.le_refl _) (by rw [World.size_alloc]; omega) [[45, 32]] 1 rfl (sl_newL _ [tx [45, 32]]) (by decide) HB.out.2.1)))).mono ?_; rintro e w8 ⟨rfl, hw8, hf8⟩; have H9 := Lib.hid (And.intro hw8 hf8); have hfn8 := ld_fn hw8.fn; clear hw8 hf8 HH))
          | (refine ⟨trivial, ?_⟩; (refine (CallsIn.inRound l (callsIn_wide.2 (usee H9 (H9.out.1.outF HA.out (below_alloc _ (.cells #[.string (tx p), .string ⟨#[10]⟩] 9)) _ (Nat.le_refl _) (by rw [World.size_alloc]; omega) [p, [10]] 2 rfl (sl_newL _ [tx p, tx [10]]) (by decide) HB.out.2.2)))).mono ?_; rintro e w9 ⟨rfl, hw9, hf9⟩; rw [HB.out.1] at hw9; have H10 := Lib.hid (And.intro hw9 (H9.out.2.trans ⟨hf9.bel, fun k3 hk3 => hf9.keep k3 (List.mem_cons_of_mem _ hk3), hf9.oth⟩)); clear hw9 hf9)))
         exact HFIN.out _ _ H10.out.1 (fun k2 hk2 => List.mem_cons_of_mem _ (List.mem_cons_of_mem _ hk2)) H10.out.2
        ·rw [decide_eq_false hp45] at hH
         have hpr : protL p = p := by unfold protL; rw [if_neg hp45]
         rw [hpr] at hsn
         have hsn1 : lnT PQ ++ List.flatten [p, [10]] = lnT PR := by rw [hsn]; simp
         have hlen := congrArg List.length hsn1
         rw [List.length_append] at hlen
         have HB := Lib.hid (And.intro hsn1 (show (lnT PQ).length + (List.flatten [p, [10]]).length ≤ 2000000 by omega))
         have HH := Lib.hid hH
         clear hH hsn hsn1 hlen hle hpr hp45
         gi_wp2_with (first
          | (refine ⟨trivial, ?_⟩; gi_at_call 39; refine (CallsIn.inRound l (callsIn_wide.2 HH.out)).mono ?_; rintro e w2 ⟨rfl, rfl⟩)
          | (refine ⟨trivial, ?_⟩; (refine (CallsIn.inRound l (callsIn_wide.2 (usee HH (H8.out.1.outF HA.out (below_alloc _ (.cells #[.string (tx p), .string ⟨#[10]⟩] 9)) _ (Nat.le_refl _) (by rw [World.size_alloc]; omega) [p, [10]] 2 rfl (sl_newL _ [tx p, tx [10]]) (by decide) HB.out.2)))).mono ?_; rintro e w9 ⟨rfl, hw9, hf9⟩; rw [HB.out.1] at hw9; have H10 := Lib.hid (And.intro hw9 hf9); clear hw9 hf9 HH)))
         exact HFIN.out _ _ H10.out.1 (fun k2 hk2 => List.mem_cons_of_mem _ hk2) H10.out.2
       case done =>
        rintro D W hDz ⟨F', h, hm, hd⟩ hDd
        rw [S7.out.2.2.1] at hDz
        have hDs : w.heap.size + 1 < D := by omega
        have hnD : (D :: Ds).Nodup := List.nodup_cons.2 ⟨fun hm => by have := hDN D hm; omega, H1.out.2.2.2.2.2.1⟩
        have hfn := ld_fn h.fn
        have hsn : lnT (PL ++ five x ++ (piecesL x.body).map protL) ++ List.flatten [sepL, [10]] = lnT (hd3 t n dt ++ CT.map ctL ++ [sepL] ++ itsL (xs.take (k + 1)) []) := by
         rw [H1.out.2.2.2.2.1, itsL_snoc, itF_five, ← List.append_assoc _ (itsL _ []), HP.out.2.1, ← List.append_assoc (five x), ← List.append_assoc PL, ← List.append_assoc PL, lnT_append _ [sepL]]
         simp [lnT]
        have hle : (lnT (PL ++ five x ++ (piecesL x.body).map protL)).length + (List.flatten [sepL, [10]]).length ≤ 2000000 := by
         have h1 := HP.out.1
         rw [← List.append_assoc (five x), ← List.append_assoc PL, ← List.append_assoc PL] at h1
         rw [lnT_append _ [sepL], List.length_append] at h1
         have e1 : (lnT [sepL]).length = 31 := rfl
         have e2 : (List.flatten [sepL, [10]]).length = 31 := rfl
         omega
        have H11 := Lib.hid (And.intro h (And.intro hd (And.intro hDd (And.intro hsn (And.intro hle (And.intro hnD hDs))))))
        clear h hd hDd hsn hle hm hnD
        have hki : (k : Int) < 8 := by have := HX.out.2.2.2.2.2.1; omega
        go_wp2_with ((refine (usee H11 (H11.out.1.outF HA.out (below_alloc W (.cells #[.string (tx sepL), .string ⟨#[10]⟩] 9)) W.heap.size (Nat.le_refl _) (by rw [World.size_alloc]; omega) [sepL, [10]] 2 rfl (sl_newL W [tx sepL, tx [10]]) (by decide) H11.out.2.2.2.2.1)).mono ?_; rintro e w12 ⟨rfl, hw12, hf12⟩; have H12 := Lib.hid (And.intro (H11.out.2.2.2.1 ▸ hw12) hf12); have hfn12 := ld_fn hw12.fn; clear hw12 hf12))
        refine ⟨⟨D :: Ds, k + 1, _, rfl, rfl, rfl, rfl, rfl, rfl, by rw [Int.natCast_add]; rfl, hlt, H12.out.1, H11.out.2.2.2.2.2.1, fun E hE => ?_⟩, ?_⟩
        ·rcases List.mem_cons.1 hE with rfl | hE
         ·have h1 := H12.out.2.oth.same E _ H11.out.2.2.1 rfl
          exact ⟨h1, H11.out.2.2.2.2.2.2, (Array.getElem?_eq_some_iff.1 h1).1⟩
         ·have h1 := H12.out.2.oth.same E _ (H11.out.2.1 E hE) rfl
          exact ⟨h1, (H1.out.2.2.2.2.2.2 E hE).2.1, (Array.getElem?_eq_some_iff.1 h1).1⟩
        ·show xs.length - (intOf (.int .i64 ((k : Int) + 1))).toNat < xs.length - (intOf (.int .i64 (k : Int))).toNat
         simp [intOf]
         omega
     ·obtain rfl : k = xs.length := by omega
      rw [List.take_length] at hw
      obtain ⟨PL, hPL⟩ : ∃ PL, hd3 t n dt ++ CT.map ctL ++ [sepL] ++ itsL xs [] = PL := ⟨_, rfl⟩
      rw [hPL] at hw
      have hend : lnT PL ++ List.flatten [[69, 110, 100, 32, 111, 102, 32], hdL t n, [10]] = lnT (dgL t n dt xs) := by
       rw [dgL_eq, HT.out.2.1, ← List.append_assoc, ← List.append_assoc, ← List.append_assoc, hPL, lnT_append PL]
       simp [lnT, endL]
      have hlen := congrArg List.length hend
      rw [List.length_append] at hlen
      have htt := HX.out.2.2.2.2.2.2.1
      have S9 := Lib.hid hw
      have HE := Lib.hid (And.intro hend (And.intro (show (lnT PL).length + (List.flatten [[69, 110, 100, 32, 111, 102, 32], hdL t n, [10]]).length ≤ 2000000 by omega) (And.intro hnd hD)))
      clear hw hend hlen htt hnd hD hPL
      go_wp2
      refine AnyO.wp_anyI (by kernel_rfl) (by kernel_rfl) (AnyO.InvG (σ := Nat) (fun σ => AnyO.pvL [some (.func (.func f) #[] #[.pointer (some ⟨b, 0, none⟩)]), some (vDg t n dt (.slice (some A4) xs.length c4)), some (.string (tx (hdL t n))), some (.slice (some ⟨σ, 0, none⟩) 3 3), some (.tuple #[])]) (fun σ D u => CW f b B A w w.heap.size [.string (tx t), .int .i64 1, .int .i64 (n : Int), .int .i64 (dt : Int), .slice (some A4) xs.length c4] (lnT PL) (F) [[69, 110, 100, 32, 111, 102, 32], hdL t n, [10]] wl σ u (D 3) (D 4))) (AnyO.InvG.start (g := 0) (below_drew _)) ?_ ?_
      ·intro i hi
       have hi2 : i = 0 ∨ i = 1 ∨ i = 2 ∨ i = 3 ∨ i = 4 := by simp only [List.size_toArray, List.length_cons, List.length_nil] at hi; omega
       clear hi
       rcases hi2 with rfl | rfl | rfl | rfl | rfl
       ·refine AnyO.I rfl [] ?_; rintro D vs u σ Q h0 hC hp ac hb K hK
        have s3 := AnyO.sz (v := .pointer (some ⟨w.heap.size + 1, 0, none⟩)) 3 hb
        have hf4 := AnyO.fls (hC.out 4) h0 (by kernel_rfl)
        have hst := Q.out.2
        rw [hf4] at hst
        have hbq := CW.below hst
        have rr := (S9.out.fn.keep hbq).cell 0
        dsimp only [List.getElem?_cons_zero] at rr
        clear hst hbq hf4
        go_simp; exact hK _ _ (AnyO.InvG.step (g := σ) Q.out.1 rfl Q.out.2)
       ·refine AnyO.I rfl [] ?_; rintro D vs u σ Q h0 hC hp ac hb K hK
        have s2 := AnyO.sz (v := .pointer (some ⟨w.heap.size, 0, none⟩)) 2 hb
        have hf2 := AnyO.fls (hC.out 2) h0 (by kernel_rfl)
        have hf3 := AnyO.fls (hC.out 3) hf2 (by kernel_rfl)
        have hf4 := AnyO.fls (hC.out 4) hf3 (by kernel_rfl)
        have hst := Q.out.2
        rw [hf4] at hst
        have hbq := CW.below hst
        have rr0 := (S9.out.dg.keep hbq).cell 0
        have rr1 := (S9.out.dg.keep hbq).cell 1
        have rr2 := (S9.out.dg.keep hbq).cell 2
        have rr3 := (S9.out.dg.keep hbq).cell 3
        have rr4 := (S9.out.dg.keep hbq).cell 4
        dsimp only [List.getElem?_cons_zero, List.getElem?_cons_succ] at rr0 rr1 rr2 rr3 rr4
        clear hst hbq hf2 hf3 hf4
        go_simp; exact hK _ _ (AnyO.InvG.step (g := σ) Q.out.1 rfl Q.out.2)
       ·refine AnyO.I rfl [1] ?_; rintro D vs u σ Q h0 hC hp ac hb K hK
        have s82 : _ = _ := AnyO.sv 82 1 hb hp Q
        have hf3 := AnyO.fls (hC.out 3) h0 (by kernel_rfl)
        have hf4 := AnyO.fls (hC.out 4) hf3 (by kernel_rfl)
        have hst := Q.out.2
        rw [hf3] at hst
        have HST := Lib.hid hst
        clear hst hf4
        go_simp
        go_at_call 41
        refine (head41 t n dt _ u HX.out.2.1 HX.out.1).mono ?_
        rintro e w9 ⟨rfl, hb9⟩
        exact hK _ _ (AnyO.InvG.step (g := σ) Q.out.1 rfl (by rw [show AnyO.addD D 2 3 = D 3 from rfl, hf3]; exact Below.step HST.out hb9))
       ·refine AnyO.I rfl [2] ?_; rintro D vs u σ Q h0 hC hp ac hb K hK
        have s83 : _ = _ := AnyO.sv 83 2 hb hp Q
        have hf4 := AnyO.fls (hC.out 4) h0 (by kernel_rfl)
        have hst := Q.out.2
        rw [h0] at hst
        have HST := Lib.hid hst
        clear hst
        go_simp
        refine hK _ _ (AnyO.InvG.ghost (g := σ) u.heap.size Q.out.1 ?_ rfl ?_)
        ·intro j hj hq
         rcases j with _ | _ | _ | _ | _ | j
         all_goals first | exact hq | exact absurd (show D 3 = true from hj) (by rw [h0]; decide) | exact absurd (show D 4 = true from hj) (by rw [hf4]; decide)
        rw [show AnyO.addD D 3 3 = true from rfl, show AnyO.addD D 3 4 = D 4 from rfl, hf4]
        exact ⟨Below.step HST.out (below_alloc _ _), HST.out.size, by rw [World.size_alloc]; omega, sl_newL u ([[69, 110, 100, 32, 111, 102, 32], hdL t n, [10]].map tx)⟩
       ·refine AnyO.I rfl [0, 3, 2] ?_; rintro D vs u σ Q h0 hC hp ac hb K hK
        have s81 : _ = _ := AnyO.sv 81 0 hb hp Q
        have s84 : _ = _ := AnyO.sv 84 3 hb hp Q
        have hp3 : D 3 = true := hp.out 3 (by decide)
        have hst := Q.out.2
        rw [hp3, h0] at hst
        have HST := Lib.hid hst
        clear hst
        go_simp
        refine (CW.call HA.out S9.out HST.out 3 rfl (by decide) HE.out.2.1).mono ?_
        rintro e w9 ⟨rfl, h9⟩
        exact hK _ _ (AnyO.InvG.step (g := σ) Q.out.1 rfl (by rw [show AnyO.addD D 4 3 = D 3 from rfl, hp3, show AnyO.addD D 4 4 = true from rfl]; exact h9))
      ·intro D vs u hI hD
       obtain ⟨σ, hP, hW⟩ := hI
       have e0 : _ = _ := hP 0 (hD 0 (by decide))
       have e1 : _ = _ := hP 1 (hD 1 (by decide))
       have e2 : _ = _ := hP 2 (hD 2 (by decide))
       have e3 : _ = _ := hP 3 (hD 3 (by decide))
       have e4 : _ = _ := hP 4 (hD 4 (by decide))
       rw [show D 3 = true from hD 3 (by decide), show D 4 = true from hD 4 (by decide)] at hW
       have HW := Lib.hid hW
       clear hW hP hD
       rw [puts_range [some 81, some 82, some 83, some 84, some 85] (by kernel_rfl)]
       simp only [putL, Nat.reduceAdd, e0, e1, e2, e3, e4]
       clear e0 e1 e2 e3 e4
       go_simp
       have hwe := HW.out.1
       rw [HE.out.1] at hwe
       have hDe : ∀ D ∈ Ds, u.heap[D]? = some (.deferred (some [])) := fun D hD => HW.out.2.oth.same D _ (HE.out.2.2.2 D hD).1 rfl
       have HEE := Lib.hid (And.intro hwe hDe)
       clear HW hwe hDe
       go_wp2
       show LeavesInM Fence.wide 5 Tryz.prog Tryz.f49 _ _ (Ds.map mkD) .returning u
       refine leaves_marks rfl Ds u HE.out.2.2.1 HEE.out.2 fun W' g1 g2 g3 g4 g5 => ?_
       refine ⟨rfl, ⟨_, HA.out.turn HEE.out.1.acc ⟨g1, g2, g3, Nat.le_of_eq g4.symm, fun j o hj ho hn => ?_⟩⟩, HEE.out.1.bel.trans ⟨g1, g2, g3, Nat.le_of_eq g4.symm, fun j hj => ?_⟩⟩
       ·refine (g5 j fun hm => ?_).trans hj
        rw [HEE.out.2 j hm] at hj
        injection hj with hj
        rw [← hj] at ho
        cases ho
       ·refine g5 j fun hm => ?_
        have h1 := (HE.out.2.2.2 j hm).2.1
        have h2 := HEE.out.1.sB
        omega
end Go.Proofs.YtibelollgdnidaaGreatDoor
