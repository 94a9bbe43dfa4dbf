/- msgid.Print: the text of an identity. -/
import Derived.Test.YtfbpipknhghneaaDoorHex
import Derived.Test.YtfbpipknhghneaaDoorMid30
import Derived.Lib.ConvBytes
namespace Go.Proofs.YtfbpipknhghneaaDoor
open Go.RowKit
/-- 64 bytes, as an array's value. -/
abbrev B64 := { l : List UInt8 // l.length = 64 }
def aB64 (l : B64) : Array Value := (l.1.map cB).toArray
def vB64 (l : B64) : Value := .agg (aB64 l)
def zB64 : B64 := ⟨List.replicate 64 0, by simp⟩
theorem aB64_size (l : B64) : (aB64 l).size = 64 := by simp [aB64, l.2]
theorem aB64_one (l : B64) : (aB64 l).all (·.oneCell') = true := by
  rw [Array.all_eq_true_iff_forall_mem]
  intro u hu
  simp only [aB64, List.mem_toArray, List.mem_map] at hu
  obtain ⟨b, _, rfl⟩ := hu
  rfl
theorem under64 : Tryd.prog.underlying 111 = some (.array 64 5) := Tryd.underlying111
theorem size64 : (Tryd.prog.info? 111).map (·.size) = some 64 := by kernel_rfl
section
variable (w : World)
@[go_sem ↓] theorem load64 (v : Value) : Instr.loadAt 111 v = ldA 111 v := rfl
@[go_sem ↓] theorem store64 (v u : Value) : Instr.storeAt 111 v u = stA 111 v u := rfl
@[go_sem ↓] theorem alloc64 (h : Bool) (v : Value) : Instr.alloc 111 h v = alA 111 h v := rfl
@[go_sem] theorem run_ld64 (ad : Addr) : (ldA 111 (.pointer (some ad))).run Tryd.prog w = if okA w ad 64 = true then .ok (rdA w ad 64) w else (ldB 111 (.pointer (some ad))).run Tryd.prog w := run_ldA_if w 111 ad 64 _ under64 rfl size64
@[go_sem] theorem run_st64 (g : Nat) (x : B64) : (stA 111 (.pointer (some ⟨g, 0, none⟩)) (vB64 x)).run Tryd.prog w = if rowOk w g 64 = true then .ok () (w.setRow g (aB64 x)) else (stB 111 (.pointer (some ⟨g, 0, none⟩)) (vB64 x)).run Tryd.prog w := run_stA_if w 111 g (aB64 x) 64 size64 (aB64_size x) (aB64_one x)
@[go_sem] theorem run_al64 : (alA 111 true (.tuple #[])).run Tryd.prog w = .ok (.pointer (some ⟨w.heap.size, 0, none⟩)) (w.alloc (.cells (aB64 zB64) 111)) := by kernel_rfl
@[go_sem] theorem rowOk_new64 (x : B64) (t : TypeId) (g : Nat) (hg : g = w.heap.size) : rowOk (w.alloc (.cells (aB64 x) t)) g 64 = true := rowOk_new w (aB64 x) t g 64 hg (aB64_size x)
end
theorem flat_c1 (l : List UInt8) : l.flatMap c1 = l.map cB := by
  induction l with
  | nil => rfl
  | cons b r ih => rw [List.flatMap_cons, ih]; rfl
/-- Bytes as cells are where a slice of bytes lies. -/
theorem Sl.ofAt {w : World} {ad : Addr} {l : List UInt8} (h : At w ad (l.map cB)) : Sl w c1 (some ad) l :=
  fun _ => ⟨ad, rfl, by rw [flat_c1]; exact h⟩
theorem slice33 (g : Nat) (w : World) : (Instr.sliceAt 24 (.pointer (some ⟨g, 0, none⟩)) none none none).run Tryd.prog w = .ok (.slice (some ⟨g, 0, none⟩) 32 32) w := by kernel_rfl
theorem slice64 (g : Nat) (w : World) : (Instr.sliceAt 111 (.pointer (some ⟨g, 0, none⟩)) none none none).run Tryd.prog w = .ok (.slice (some ⟨g, 0, none⟩) 64 64) w := by kernel_rfl
theorem array64 (a : Option Addr) (c : Nat) (w : World) : (Instr.arrayAt 111 (.slice a 64 c)).run Tryd.prog w = .ok (.pointer a) w := by
  simp [Instr.arrayAt, run_underlying under64]
theorem load_64 {w : World} {ad : Addr} {x : B64} (h : At w ad (x.1.map cB)) : (loadVar 111 ad).run Tryd.prog w = .ok (vB64 x) w :=
  run_loadVar_at w ad 111 (x.1.map cB) _ h under64 rfl (by rw [List.length_map, x.2]; exact size64)
/-- A string as a slice of bytes. -/
theorem conv_sb (w : World) (s : ByteArray) : ∃ c w', (convert 9 54 (.string s)).run Tryd.prog w = .ok (.slice (some ⟨w.heap.size, 0, none⟩) s.size c) w' ∧ Below w.heap.size w w' ∧ At w' ⟨w.heap.size, 0, none⟩ ((bl s).map cB) := by
  refine ⟨_, _, Lib.run_convert_string_bytes w 9 54 5 s Tryd.underlying9 underBs Tryd.underlying5, ⟨rfl, rfl, rfl, by rw [Lib.bytesWorld_size]; omega, fun k hk => Lib.bytesWorld_at_old w _ s k hk⟩, ⟨by rw [Lib.bytesWorld_size]; exact Nat.lt_succ_self _, fun j u hu => ?_⟩⟩
  have hadd : (⟨w.heap.size, 0, none⟩ : Addr).add j = ⟨w.heap.size, j, none⟩ := by unfold Addr.add; split <;> simp_all
  have hj : j < s.size := by have := (List.getElem?_eq_some_iff.1 hu).1; rwa [List.length_map, bl_length] at this
  rw [hadd, Lib.bytesWorld_cell w _ s j hj, ← hu, List.getElem?_map, List.getElem?_eq_getElem (by rw [bl_length]; exact hj)]
  simp only [Option.map_some, cB, List.getD_eq_getElem?_getD]
  rw [List.getElem?_eq_getElem (by rw [bl_length]; exact hj)]
  rfl
def digs (x : Id) : B64 := ⟨hexL x.1, by rw [hexL_length, x.2]⟩
set_option maxRecDepth 100000 in
set_option maxHeartbeats 1600000 in
theorem digits_b (x : Id) (w : World) : Calls Tryd.prog 66 #[vI x] w fun e w' => e = .returned (vB64 (digs x)) ∧ Below w.heap.size w w' := by
  have hb1 := Below.step (below_alloc w (.cells (aI x) 24)) (below_alloc (w.alloc (.cells (aI x) 24)) (.cells (aB64 zB64) 111))
  have hat := (at_new w (cI x) 24 w.heap.size rfl).keep (below_alloc _ (.cells (aB64 zB64) 111))
  have hro : rowOk ((w.alloc (.cells (aI x) 24)).alloc (.cells (aB64 zB64) 111)) (w.heap.size + 1) 64 = true := rowOk_new64 _ zB64 _ _ (by simp)
  have HB := Lib.hid (And.intro hb1 (And.intro (Sl.ofAt hat) hro))
  clear hb1 hat hro
  have hs1 := slice33 w.heap.size
  go_enter Tryd.func66, Tryd.ntmps66
  go_wp2_with (go_at_call 81; refine (hex_b _ 32 32 x.1 _ x.2 HB.out.2.1 (by intro e; have := x.2; rw [e] at this; cases this) (by omega)).mono ?_; rintro e w1 ⟨rfl, hb1⟩; obtain ⟨c, w2, hcv, hb2, hat2⟩ := conv_sb w1 ⟨(hexL x.1).toArray⟩; rw [show (⟨(hexL x.1).toArray⟩ : ByteArray).size = 64 from (Lib.size_eq _).trans (digs x).2] at hcv; have har := array64 (some ⟨w1.heap.size, 0, none⟩) c w2; have hok2 := hat2.ok; have hrd2 := hat2.rd; rw [show ((bl ⟨(hexL x.1).toArray⟩).map cB).length = 64 from by rw [List.length_map]; exact (digs x).2] at hok2 hrd2; replace hrd2 : rdA w2 ⟨w1.heap.size, 0, none⟩ 64 = vB64 (digs x) := hrd2; have hr2 := rowOk_kept (rowOk_kept HB.out.2.2 hb1) hb2; have H1 := Lib.hid (And.intro (Below.step (Below.step HB.out.1 hb1) hb2) hr2); clear hb1 hb2 hat2)
  have hld := load_64 (x := digs x) (at_setRow ((digs x).1.map cB) H1.out.2)
  exact bodyPost_ret (results_c1 (ad := ⟨w.heap.size + 1, 0, none⟩) rfl rfl hld) rfl ⟨rfl, Below.setRow H1.out.1 (by omega) _⟩
/-- The text of an identity. -/
def textL (x : Id) : List UInt8 := [60] ++ hexL x.1 ++ [64, 104, 97, 115, 104, 62]
theorem mk_append (a b : List UInt8) : (⟨a.toArray⟩ : ByteArray) ++ (⟨b.toArray⟩ : ByteArray) = ⟨(a ++ b).toArray⟩ := by
  apply ByteArray.ext
  simp
def sB64 (x : Id) : ByteArray := ⟨(digs x).1.toArray⟩
theorem sB64_text (x : Id) : ((⟨#[60]⟩ : ByteArray) ++ sB64 x) ++ (⟨#[64, 104, 97, 115, 104, 62]⟩ : ByteArray) = ⟨(textL x).toArray⟩ := by
  have h1 := mk_append [60] (digs x).1
  have h2 := mk_append ([60] ++ (digs x).1) [64, 104, 97, 115, 104, 62]
  exact (congrArg (· ++ (⟨#[64, 104, 97, 115, 104, 62]⟩ : ByteArray)) h1).trans h2
set_option maxRecDepth 100000 in
set_option maxHeartbeats 1600000 in
theorem print_m (x : Id) (w : World) : Calls Tryd.prog 32 #[vI x] w fun e w' => e = .returned (.string ⟨(textL x).toArray⟩) ∧ Below w.heap.size w w' := by
  have HB := Lib.hid (below_alloc w (.cells (aI x) 24))
  have hz : (sB64 x).size = 64 := (Lib.size_eq _).trans (digs x).2
  have HF := Lib.hid (sB64_text x)
  go_enter Tryd.func32, Tryd.ntmps32
  go_wp2_with (go_at_call 66; refine (digits_b x _).mono ?_; rintro e w1 ⟨rfl, hb1⟩; have hs1 := slice64 w1.heap.size; have hcv : (convert 54 9 (.slice (some ⟨w1.heap.size, 0, none⟩) 64 64)).run Tryd.prog (w1.alloc (.cells (aB64 (digs x)) 111)) = .ok (.string (sB64 x)) (w1.alloc (.cells (aB64 (digs x)) 111)) := conv_bs (c := 64) (Sl.ofAt (at_new w1 ((digs x).1.map cB) 111 w1.heap.size rfl)) (digs x).2 (by simp); have H1 := Lib.hid (Below.step (Below.step HB.out hb1) (below_alloc w1 (.cells (aB64 (digs x)) 111))); clear hb1)
  go_ret
  exact ⟨congrArg (fun s => Ending.returned (.string s)) HF.out, H1.out⟩
end Go.Proofs.YtfbpipknhghneaaDoor
