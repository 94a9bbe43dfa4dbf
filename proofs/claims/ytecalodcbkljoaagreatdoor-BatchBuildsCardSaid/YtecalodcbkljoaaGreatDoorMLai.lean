/- ascii.Digits. The first half of a digest; the digest, the line and the size of an item; sizes of batches. What the package-level variables hold; a text as bytes. -/
import Derived.Test.YtecalodcbkljoaaGreatDoorMSkip
import Derived.Lib.AppendIntMem
import Derived.Test.YtecalodcbkljoaaGreatDoorMSmh
import Derived.Test.YtecalodcbkljoaaGreatDoorMBat
import Derived.Lib.ItoaLen
namespace Go.Proofs.YtecalodcbkljoaaGreatDoor
open Go.RowKit
set_option maxRecDepth 100000 in
set_option maxHeartbeats 400000 in
theorem digits28 (n : Int) (h0 : -9223372036854775808 ≤ n) (h1 : n ≤ 9223372036854775807) (w : World) (htab : Lib.TabIs Tryz.prog w "internal/strconv.uint64pow10" .u64 Lib.pow10Tab) :
    Calls Tryz.prog 61 #[.int .i64 n] w fun e w' => e = .returned (.string ⟨(Lib.itoa n).toArray⟩) ∧ Below w.heap.size w w' := by
  have H := Lib.hid (Tryz.strconv_Itoa n h0 h1 w htab)
  clear htab
  go_enter Tryz.func61, Tryz.ntmps61
  go_wp2_with (go_at_call 81; refine H.out.mono ?_; rintro e w1 ⟨rfl, k, os, rfl⟩; have HB := Lib.hid (Lib.below_grow w.heap.size w (Nat.le_refl _) k os))
  go_ret
  exact ⟨rfl, HB.out⟩
end Go.Proofs.YtecalodcbkljoaaGreatDoor
namespace Go.Proofs.YtecalodcbkljoaaGreatDoor
open Go.RowKit
def halfI (l : List UInt8) : B16 := ⟨(sha l).take 16, by rw [List.length_take, sha_length]; rfl⟩
theorem slice_dg (g : Nat) (w : World) : (Instr.sliceAt 143 (.pointer (some ⟨g, 0, none⟩)) none (some (.int .i64 16)) none).run Tryz.prog w = .ok (.slice (some ⟨g, 0, none⟩) 16 32) w := by kernel_rfl
theorem array_hf (a : Option Addr) (c : Nat) (w : World) : (Instr.arrayAt 131 (.slice a 16 c)).run Tryz.prog w = .ok (.pointer a) w := by
  simp [Instr.arrayAt, run_underlying Tryz.underlying131]
theorem load_hf {w : World} {ad : Addr} {x : B16} (h : At w ad (cH x)) : (loadVar 131 ad).run Tryz.prog w = .ok (vH x) w :=
  run_loadVar_at w ad 131 (cH x) _ h Tryz.underlying131 rfl (by rw [cH_length]; exact size131)
theorem rowH {w : World} {b : Nat} {v : B16} {t : TypeId} (h : Row w b (cH v) t) : okA w ⟨b, 0, none⟩ 16 = true ∧ rdA w ⟨b, 0, none⟩ 16 = vH v ∧ rowOk w b 16 = true := by
  have hat := h.at_ (k := 0) (n := 16) (ds := cH v) (by rw [List.drop_zero, List.take_of_length_le (by rw [cH_length]; omega)])
  have h1 := hat.ok
  have h2 := hat.rd
  rw [cH_length] at h1 h2
  refine ⟨h1, h2, ?_⟩
  have hc := cH_length v
  unfold Row at h
  unfold rowOk
  rw [h]
  simpa using hc
theorem half_of {w : World} {g : Nat} {l : List UInt8} {t : TypeId} (h : Row w g (cI ⟨sha l, sha_length l⟩) t) : okA w ⟨g, 0, none⟩ 16 = true ∧ rdA w ⟨g, 0, none⟩ 16 = vH (halfI l) := by
  have hat := h.at_ (k := 0) (n := 16) (ds := cH (halfI l)) (by
    rw [List.drop_zero]
    unfold cI cH halfI
    rw [List.map_take])
  have h1 := hat.ok
  have h2 := hat.rd
  rw [cH_length] at h1 h2
  exact ⟨h1, h2⟩
set_option maxRecDepth 100000 in
set_option maxHeartbeats 1600000 in
theorem half_b (A : Option Addr) (c : Nat) (l : List UInt8) (w : World) (hK : KAt w) (hs : Sl w c1 A l) (hc : l.length ≤ c) (hlen : l.length ≤ 1152921504606846976) :
    Calls Tryz.prog 76 #[.slice A l.length c] w fun e w' => e = .returned (vH (halfI l)) ∧ Below w.heap.size w w' := by
  obtain ⟨b, hb⟩ : ∃ b, w.heap.size = b := ⟨_, rfl⟩
  obtain ⟨W0, hW0⟩ : ∃ W0, w.alloc (.cells (aH zH) 131) = W0 := ⟨_, rfl⟩
  have H0 := Lib.hid (show Below w.heap.size w W0 ∧ Row W0 b (cH zH) 131 from by
    subst hW0 hb
    exact ⟨below_alloc _ _, Row.new w (cH zH) _⟩)
  have HX := Lib.hid (And.intro hK (And.intro hs (And.intro hc hlen)))
  have HB := Lib.hid hb
  clear hK hs hc hlen
  go_enter Tryz.func76, Tryz.ntmps76
  go_wp2_with (go_at_call 89; refine (sum_b A c l _ (HX.out.1.keep H0.out.1) (HX.out.2.1.keep H0.out.1) HX.out.2.2.1 HX.out.2.2.2).mono ?_; rintro e w1 ⟨rfl, hb1⟩; have hsl := slice_dg w1.heap.size; have har := array_hf (some ⟨w1.heap.size, 0, none⟩) 32; obtain ⟨z1, z2⟩ := half_of (w := w1.alloc (.cells (aI ⟨sha l, sha_length l⟩) 143)) (g := w1.heap.size) (t := 143) (Row.new w1 (cI ⟨sha l, sha_length l⟩) 143); obtain ⟨-, -, ro⟩ := rowH ((H0.out.2.keep hb1).keep (below_alloc _ (.cells (aI ⟨sha l, sha_length l⟩) 143))); have H1 := Lib.hid (Below.step (Below.step H0.out.1 hb1) (below_alloc w1 (.cells (aI ⟨sha l, sha_length l⟩) 143))); clear hb1)
  have hld := load_hf (at_setRow (cH (halfI l)) ro)
  have hle : w.heap.size ≤ b := by have := HB.out; omega
  exact bodyPost_ret (results_c1 (ad := ⟨b, 0, none⟩) rfl rfl hld) rfl ⟨rfl, Below.setRow H1.out hle _⟩
end Go.Proofs.YtecalodcbkljoaaGreatDoor
namespace Go.Proofs.YtecalodcbkljoaaGreatDoor
open Go.RowKit
theorem tab_below {w w' : World} {name : String} {k : IntKind} {zs : List Int} (h : Lib.TabIs Tryz.prog w name k zs) (hb : Below w.heap.size w w') : Lib.TabIs Tryz.prog w' name k zs := by
  unfold Lib.TabIs World.var? at *
  cases hg : Tryz.prog.globalNamed name with
  | none => rw [hg] at h; cases h
  | some g =>
    rw [hg] at h
    simp only [Option.bind_some] at h ⊢
    cases hq : w.heap[g]? with
    | none => rw [hq] at h; cases h
    | some o => rw [hb.block g (Array.getElem?_eq_some_iff.1 hq).1]; exact h
def MaxAt (w : World) : Prop := 0 < w.heap.size ∧ ∃ m, w.cell? ⟨0, 0, none⟩ = some (.int .i64 m)
theorem MaxAt.keep {w w' : World} (h : MaxAt w) (hb : Below w.heap.size w w') : MaxAt w' := ⟨Nat.lt_of_lt_of_le h.1 hb.size, by obtain ⟨m, hm⟩ := h.2; exact ⟨m, (hb.cell h.1).trans hm⟩⟩
/-- What the package-level variables hold. -/
structure Laid (w : World) : Prop where
  k : KAt w
  max : MaxAt w
  tab : Lib.TabIs Tryz.prog w "internal/strconv.uint64pow10" .u64 Lib.pow10Tab
theorem Laid.keep {w w' : World} (h : Laid w) (hb : Below w.heap.size w w') : Laid w' := ⟨h.k.keep hb, h.max.keep hb, tab_below h.tab hb⟩
/-- A text as a slice of bytes in new memory. -/
def isNewB (xs : List UInt8) : Value → World → Prop := fun v w => ∃ A n c, v = .slice A n c ∧ xs.length = n ∧ n ≤ c ∧ Sl w c1 A xs
theorem conv_sl (w : World) (s : ByteArray) : ∃ A c w', (convert 9 47 (.string s)).run Tryz.prog w = .ok (.slice A s.size c) w' ∧ Below w.heap.size w w' ∧ Sl w' c1 A (bl s) ∧ s.size ≤ c := by
  refine ⟨_, _, _, Lib.run_convert_string_bytes w 9 47 5 s Tryz.underlying9 underBs Tryz.underlying5, ⟨rfl, rfl, rfl, by rw [Lib.bytesWorld_size]; omega, fun k hk => Lib.bytesWorld_at_old w _ s k hk⟩, Sl.ofAt ⟨by rw [Lib.bytesWorld_size]; exact Nat.lt_succ_self _, fun j u hu => ?_⟩, grownCap_ge _ _ _ _⟩
  have hadd : (⟨w.heap.size, 0, none⟩ : Addr).add j = ⟨w.heap.size, j, none⟩ := by unfold Addr.add; split <;> simp_all
  have hj : j < s.size := by have := (List.getElem?_eq_some_iff.1 hu).1; rwa [List.length_map, bl_length] at this
  rw [hadd, Lib.bytesWorld_cell w _ s j hj, ← hu, List.getElem?_map, List.getElem?_eq_getElem (by rw [bl_length]; exact hj)]
  simp only [Option.map_some, cB, List.getD_eq_getElem?_getD]
  rw [List.getElem?_eq_getElem (by rw [bl_length]; exact hj)]
  rfl
theorem bl_app (a b : ByteArray) : bl (a ++ b) = bl a ++ bl b := by
  show (a ++ b).data.toList = _
  simp
theorem bl_inj {a b : ByteArray} (h : bl a = bl b) : a = b := by
  apply ByteArray.ext
  exact Array.toList_inj.1 h
theorem bl_mk (l : List UInt8) : bl ⟨l.toArray⟩ = l := rfl
theorem mk_bl (s : ByteArray) : (⟨(bl s).toArray⟩ : ByteArray) = s := rfl
/-- The identity's text as a string; what an item's digest is taken of. -/
def idS (x : Id) : ByteArray := ⟨(textL x).toArray⟩
theorem idS_size (x : Id) : (idS x).size = 71 := by rw [← bl_length, show bl (idS x) = textL x from rfl, textL_len]
def msgL (x : It) : List UInt8 := textL x.id ++ 10 :: bl x.text
def digS (x : It) : ByteArray := ⟨(digT x).toArray⟩
theorem digS_size (x : It) : (digS x).size = 32 := by rw [← bl_length, show bl (digS x) = digT x from rfl, digT_len]
theorem digT_half (x : It) : hexL (halfI (msgL x)).1 = digT x := rfl
theorem half_ne (l : List UInt8) : (halfI l).1 ≠ [] := by
  intro h
  have := (halfI l).2
  rw [h] at this
  cases this
/-- A new variable for the half of a digest. -/
def isPH (B : Nat) : Value → World → Prop := fun v w => ∃ g, v = .pointer (some ⟨g, 0, none⟩) ∧ B ≤ g ∧ Row w g (cH zH) 131
theorem Mono.pH (B : Nat) : Mono (isPH B) := fun _ _ _ hb ⟨g, h1, h2, h3⟩ => ⟨g, h1, h2, h3.keep hb⟩
theorem slice_hf (g : Nat) (w : World) : (Instr.sliceAt 131 (.pointer (some ⟨g, 0, none⟩)) none none none).run Tryz.prog w = .ok (.slice (some ⟨g, 0, none⟩) 16 16) w := by kernel_rfl
theorem rowX {w : World} {b : Nat} {v : It} {t : TypeId} (h : Row w b (cX v) t) : (okA w ⟨b, 0, none⟩ 33 = true ∧ rdA w ⟨b, 0, none⟩ 33 = vX v ∧ rowOk w b 33 = true) ∧ (okA w ⟨b, 0, none⟩ 32 = true ∧ rdA w ⟨b, 0, none⟩ 32 = vI v.id) ∧ w.cell? ⟨b, 32, none⟩ = some (.string v.text) := by
  have hat := h.at_ (k := 0) (n := 33) (ds := cX v) (by rw [List.drop_zero, List.take_of_length_le (by rw [cX_length]; omega)])
  have h1 := hat.ok
  have h2 := hat.rd
  have hai := h.at_ (cX_id v)
  have h3 := hai.ok
  have h4 := hai.rd
  rw [cX_length] at h1 h2
  rw [cI_length] at h3 h4
  refine ⟨⟨h1, h2, ?_⟩, ⟨h3, h4⟩, by rw [h.cell, aX_32']⟩
  have hc := cX_length v
  unfold Row at h
  unfold rowOk
  rw [h]
  simpa using hc
end Go.Proofs.YtecalodcbkljoaaGreatDoor
