/- parse's readers: the words of a command's fields. -/
import Derived.Test.YtfbpipknhghneaaDoorEncP
import Derived.Test.YtfbpipknhghneaaDoorNum30
import Derived.Test.YtfbpipknhghneaaDoorMidNo30
namespace Go.Proofs.YtfbpipknhghneaaDoor
open Go.RowKit
/-- What a call turns that stores into block g. -/
structure One (g : Nat) (w w' : World) : Prop where
  os : w'.os = w.os
  tape : w'.tape = w.tape
  output : w'.output = w.output
  size : w.heap.size ≤ w'.heap.size
  out : ∀ k, k < w.heap.size → k ≠ g → w'.heap[k]? = w.heap[k]?
section
variable {g : Nat} {w w' w'' : World}
theorem One.refl : One g w w := ⟨rfl, rfl, rfl, Nat.le_refl _, fun _ _ _ => rfl⟩
theorem One.trans (h : One g w w') (k : One g w' w'') : One g w w'' := ⟨k.os.trans h.os, k.tape.trans h.tape, k.output.trans h.output, Nat.le_trans h.size k.size, fun j hj hg => (k.out j (Nat.lt_of_lt_of_le hj h.size) hg).trans (h.out j hj hg)⟩
theorem One.of_below (h : Below w.heap.size w w') : One g w w' := ⟨h.os, h.tape, h.output, h.size, fun k hk _ => h.block k hk⟩
theorem One.set (k : Nat) (v : Value) : One g w (w.setCell ⟨g, k, none⟩ v) := ⟨rfl, rfl, rfl, by simp [World.setCell], fun j _ hj => heap_set_other w g k v j hj⟩
theorem One.stD (k : Nat) (ds : List Value) : One g w (stD w g k ds) := by
  obtain ⟨h1, h2, h3⟩ := setCells_os g ds k w
  exact ⟨h1, h2, h3, Nat.le_of_eq (setCells_size g ds k w).symm, fun j _ hj => heap_stD_other w g k ds j hj⟩
theorem One.row {b : Nat} {cs : List Value} {t : TypeId} (h : One g w w') (hr : Row w b cs t) (hb : b ≠ g) : Row w' b cs t := hr.same (h.out b hr.lt hb)
theorem One.below {B : Nat} (h : One g w w') (hB : B ≤ g) (hw : B ≤ w.heap.size) : Below B w w' := ⟨h.os, h.tape, h.output, h.size, fun k hk => h.out k (Nat.lt_of_lt_of_le hk hw) (by omega)⟩
end
theorem cC_set1 (c : Cm) (s : ByteArray) : (cC c).set 1 (.string s) = cC { c with name := s } := rfl
theorem cC_hiset (c : Cm) (k : Nat) (v : Value) : (cC c).set (34 + k) v = .int .i64 c.verb :: .string c.name :: (cI c.id ++ [Value.int .i64 c.size, .int .i64 c.from_, .int .i64 c.count, .int .i64 c.code, .string c.text].set k v) := by
  unfold cC
  rw [show 34 + k = (32 + k) + 1 + 1 by omega, List.set_cons_succ, List.set_cons_succ, List.set_append_right _ _ (by rw [cI_length]; omega), cI_length, show 32 + k - 32 = k by omega]
theorem cC_set34 (c : Cm) (n : Int) : (cC c).set 34 (.int .i64 n) = cC { c with size := n } := cC_hiset c 0 _
theorem cC_set35 (c : Cm) (n : Int) : (cC c).set 35 (.int .i64 n) = cC { c with from_ := n } := cC_hiset c 1 _
theorem cC_set36 (c : Cm) (n : Int) : (cC c).set 36 (.int .i64 n) = cC { c with count := n } := cC_hiset c 2 _
theorem cC_set37 (c : Cm) (n : Int) : (cC c).set 37 (.int .i64 n) = cC { c with code := n } := cC_hiset c 3 _
theorem cC_set38 (c : Cm) (s : ByteArray) : (cC c).set 38 (.string s) = cC { c with text := s } := cC_hiset c 4 _
theorem cC_setid (c : Cm) (x : Id) : (cC c).take 2 ++ cI x ++ (cC c).drop (2 + (cI x).length) = cC { c with id := x } := by
  unfold cC
  rw [cI_length, show 2 + 32 = 32 + 1 + 1 by omega, List.drop_succ_cons, List.drop_succ_cons, List.drop_left' (cI_length _)]
  rfl
/-- What a word says of a number. -/
def numR (s : ByteArray) (least most : Int) : Int × Bool := ((numE (bl s) most).1, (numE (bl s) most).2 == 0 && decide (least ≤ (numE (bl s) most).1))
def idR (s : ByteArray) : Id × Bool := if identB (bl s) = true then (midL (bl s), !decide (midL (bl s) = zI)) else (zI, false)
/-- A field's reader. -/
def readF (a : Int) (s : ByteArray) (c : Cm) : Cm × Bool :=
  if a = 1 then ({ c with name := s }, siteB (bl s))
  else if a = 2 then ({ c with id := (idR s).1 }, (idR s).2)
  else if a = 4 then ({ c with size := (numR s 1 65536).1 }, (numR s 1 65536).2)
  else if a = 8 then ({ c with from_ := (numR s 0 65536).1 }, (numR s 0 65536).2)
  else if a = 16 then ({ c with count := (numR s 1 1000).1 }, (numR s 1 1000).2)
  else ({ c with code := (numR s 1 99).1 }, (numR s 1 99).2)
set_option maxRecDepth 100000 in
set_option maxHeartbeats 1600000 in
theorem siteName55 (s : ByteArray) (w : World) (hs : s.size ≤ 1000000) : Calls Tryd.prog 55 #[.string s] w fun e w' => e = .returned (.bool (siteB (bl s))) ∧ w' = w := by
  have H := Lib.hid (show ∀ w1, Calls Tryd.prog 37 #[.string s] w1 fun e w' => ∃ a n : Int, e = .returned (.tuple #[.int .i64 a, .int .i64 n]) ∧ decide (n = 0) = siteB (bl s) ∧ w' = w1 from fun w1 => site37 s w1 hs)
  obtain ⟨b, hb⟩ : ∃ b, siteB (bl s) = b := ⟨_, rfl⟩
  rw [hb] at H ⊢
  clear hb
  go_enter Tryd.func55, Tryd.ntmps55
  go_wp2_with (go_at_call 37; refine (H.out _).mono ?_; rintro e w1 ⟨a, n, rfl, hn, rfl⟩; have hnb : (n == 0) = b := (by rw [← hn]; rfl))
  go_ret
  exact ⟨rfl, rfl⟩
set_option maxRecDepth 100000 in
set_option maxHeartbeats 1600000 in
theorem number59 (s : ByteArray) (least most : Int) (hm0 : 0 ≤ most) (hm1 : most ≤ 100000) (w : World) (hs : s.size ≤ 1000000) (g k : Nat) (cs : List Value) (t : TypeId) (hr : Row w g cs t) (hk : ∃ n, cs[k]? = some (.int .i64 n)) :
    Calls Tryd.prog 59 #[.string s, .int .i64 least, .int .i64 most, .pointer (some ⟨g, k, none⟩)] w fun e w' => e = .returned (.bool (numR s least most).2) ∧ w' = w.setCell ⟨g, k, none⟩ (.int .i64 (numR s least most).1) := by
  obtain ⟨⟨n, e⟩, hne⟩ : ∃ r, numE (bl s) most = r := ⟨_, rfl⟩
  obtain ⟨n0, hk⟩ := hk
  have c0 := (hr.cell k).trans hk
  have f0 := hr.fz k
  have H := Lib.hid (fun w1 => number29 s most (by omega) (by omega) _ hne w1 (by omega))
  have hR : numR s least most = (n, e == 0 && decide (least ≤ n)) := by unfold numR; rw [hne]
  rw [hR]
  clear hR hne hr hk
  cases he : (e == 0) with
  | true =>
    go_enter Tryd.func59, Tryd.ntmps59
    go_wp2_with (go_at_call 79; refine (H.out _).mono ?_; rintro e w1 ⟨rfl, rfl⟩)
    go_ret
    exact ⟨rfl, rfl⟩
  | false =>
    go_enter Tryd.func59, Tryd.ntmps59
    go_wp2_with (go_at_call 79; refine (H.out _).mono ?_; rintro e w1 ⟨rfl, rfl⟩)
    go_ret
    exact ⟨rfl, rfl⟩
@[go_sem] theorem run_stI_2 (w : World) (g : Nat) (x : Id) : (stA 24 (.pointer (some ⟨g, 2, none⟩)) (vI x)).run Tryd.prog w = if stOk w g 2 32 = true then .ok () (stD w g 2 (cI x)) else (stB 24 (.pointer (some ⟨g, 2, none⟩)) (vI x)).run Tryd.prog w := by
  split
  · rename_i h
    exact run_stA_off w 24 g 2 (cI x) 32 h size24 (cI_length x) (cI_one x)
  · rfl
theorem mparse_ok (s : ByteArray) (w : World) (x : Id) (hx : midL (bl s) = x) (h : identB (bl s) = true) : Calls Tryd.prog 78 #[.string s] w fun e w' => e = .returned (.tuple #[vI x, .int .i64 0, .int .i64 0]) ∧ Below w.heap.size w w' := by
  subst hx
  exact mparse_yes s w h
theorem mparse_bad (s : ByteArray) (w : World) (h : identB (bl s) = false) : Calls Tryd.prog 78 #[.string s] w fun e w' => ∃ a n : Int, e = .returned (.tuple #[vI zI, .int .i64 a, .int .i64 n]) ∧ n ≠ 0 ∧ Below w.heap.size w w' := mparse_no s w h
set_option maxRecDepth 100000 in
set_option maxHeartbeats 1600000 in
theorem identity57 (s : ByteArray) (w : World) (g : Nat) (cs : List Value) (t : TypeId) (hr : Row w g cs t) (hk : 2 + 32 ≤ cs.length) :
    Calls Tryd.prog 57 #[.string s, .pointer (some ⟨g, 2, none⟩)] w fun e w' => e = .returned (.bool (idR s).2) ∧ Row w' g (cs.take 2 ++ cI (idR s).1 ++ cs.drop (2 + 32)) t ∧ One g w w' := by
  have HR := Lib.hid hr
  have hgl := hr.lt
  cases hi : identB (bl s) with
  | true =>
    obtain ⟨x, hx⟩ : ∃ x, midL (bl s) = x := ⟨_, rfl⟩
    have H := Lib.hid (fun w1 => mparse_ok s w1 x hx hi)
    have hR : idR s = (x, !decide (x = zI)) := by unfold idR; rw [if_pos hi, hx]
    rw [hR]
    clear hR hx hi hr
    go_enter Tryd.func57, Tryd.ntmps57
    have hsz : g < w.heap.size := hgl
    go_wp2_with (first
      | (go_at_call 78; refine (H.out _).mono ?_; rintro e w1 ⟨rfl, hb1⟩; have hrow := (HR.out.keep hb1).keep (below_alloc w1 (.cells (aI x) 24)); have st := hrow.ok _ 2 32 hk; have hr5 := (Row.new w1 (cI x) 24).same (heap_stD_other (w1.alloc (.cells (aI x) 24)) g 2 (cI x) w1.heap.size (by have := hb1.size; omega)); obtain ⟨ok5, rd5⟩ := hr5.okw (cI_length x); change rdA _ _ _ = vI x at rd5; have hrow6 := hrow.stD 2 (cI x) (by rw [cI_length]; exact hk); rw [cI_length] at hrow6; have H1 := Lib.hid (And.intro hb1 hrow6); clear hb1 hrow hr5 hrow6)
      | (go_at_call 38; refine (isZero38 x _).mono ?_; rintro e w2 ⟨rfl, hb2⟩; have H2 := Lib.hid hb2; clear hb2))
    go_ret
    exact ⟨rfl, H1.out.2.keep H2.out, ((One.of_below H1.out.1).trans (One.of_below (below_alloc _ _))).trans ((One.stD _ _).trans (One.of_below H2.out))⟩
  | false =>
    have H := Lib.hid (fun w1 => mparse_bad s w1 hi)
    have hR : idR s = (zI, false) := by unfold idR; rw [if_neg (by rw [hi]; decide)]
    rw [hR]
    clear hR hi hr
    go_enter Tryd.func57, Tryd.ntmps57
    have hsz : g < w.heap.size := hgl
    go_wp2_with (go_at_call 78; refine (H.out _).mono ?_; rintro e w1 ⟨a, n, rfl, hn, hb1⟩; have hnb : (n == 0) = false := (by simpa using hn); have hrow := (HR.out.keep hb1).keep (below_alloc w1 (.cells (aI zI) 24)); have st := hrow.ok _ 2 32 hk; have hr5 := (Row.new w1 (cI zI) 24).same (heap_stD_other (w1.alloc (.cells (aI zI) 24)) g 2 (cI zI) w1.heap.size (by have := hb1.size; omega)); obtain ⟨ok5, rd5⟩ := hr5.okw (cI_length zI); change rdA _ _ _ = vI zI at rd5; have hrow6 := hrow.stD 2 (cI zI) (by rw [cI_length]; exact hk); rw [cI_length] at hrow6; have H1 := Lib.hid (And.intro hb1 hrow6); clear hb1 hrow hr5 hrow6)
    go_ret
    exact ⟨rfl, H1.out.2, ((One.of_below H1.out.1).trans (One.of_below (below_alloc _ _))).trans (One.stD _ _)⟩
def rdL : List (Int × Nat) := [(1, 54), (2, 56), (4, 58), (8, 60), (16, 61), (32, 62)]
/-- A reader of field a: what it answers, what it stores. -/
def Reads (F : Nat) (a : Int) : Prop := ∀ (s : ByteArray) (c : Cm) (g : Nat) (w : World), s.size ≤ 1000000 → Row w g (cC c) 27 →
  Calls Tryd.prog F #[.string s, .pointer (some ⟨g, 0, none⟩)] w fun e w' => e = .returned (.bool (readF a s c).2) ∧ Row w' g (cC (readF a s c).1) 27 ∧ One g w w'
set_option maxRecDepth 100000 in
set_option maxHeartbeats 1600000 in
theorem read54 : Reads 54 1 := by
  intro s c g w hs hr
  have HR := Lib.hid hr
  have c0 : w.cell? ⟨g, 1, none⟩ = some (.string c.name) := hr.cell 1
  have f0 := hr.fz 1
  have hgl := hr.lt
  rw [show readF 1 s c = ({ c with name := s }, siteB (bl s)) from rfl]
  clear hr
  go_enter Tryd.func54, Tryd.ntmps54
  go_wp2_with (go_at_call 55; refine (siteName55 s _ hs).mono ?_; rintro e w1 ⟨rfl, rfl⟩)
  go_ret
  exact ⟨rfl, HR.out.set 1 _, One.set _ _⟩
set_option maxRecDepth 100000 in
set_option maxHeartbeats 1600000 in
theorem read56 : Reads 56 2 := by
  intro s c g w hs hr
  have H := Lib.hid (identity57 s w g (cC c) 27 hr (by rw [cC_length]; omega))
  have hgl := hr.lt
  rw [show readF 2 s c = ({ c with id := (idR s).1 }, (idR s).2) from rfl]
  clear hr
  go_enter Tryd.func56, Tryd.ntmps56
  go_wp2_with (go_at_call 57; refine H.out.mono ?_; rintro e w1 ⟨rfl, hr1, ho⟩; have H1 := Lib.hid (And.intro hr1 ho); clear hr1 ho)
  go_ret
  refine ⟨rfl, ?_, H1.out.2⟩
  have h := H1.out.1
  have e := cC_setid c (idR s).1
  rw [cI_length] at e
  rwa [e] at h
set_option maxRecDepth 100000 in
set_option maxHeartbeats 1600000 in
theorem read58 : Reads 58 4 := by
  intro s c g w hs hr
  have HR := Lib.hid hr
  have H := Lib.hid (number59 s 1 65536 (by decide) (by decide) w hs g 34 (cC c) 27 hr ⟨_, cC_at (aC_34 c)⟩)
  have hgl := hr.lt
  rw [show readF 4 s c = ({ c with size := (numR s 1 65536).1 }, (numR s 1 65536).2) from rfl]
  clear hr
  go_enter Tryd.func58, Tryd.ntmps58
  go_wp2_with (go_at_call 59; refine H.out.mono ?_; rintro e w1 ⟨rfl, rfl⟩)
  go_ret
  refine ⟨rfl, ?_, One.set _ _⟩
  have h := HR.out.set 34 (.int .i64 (numR s 1 65536).1)
  rwa [cC_set34] at h
set_option maxRecDepth 100000 in
set_option maxHeartbeats 1600000 in
theorem read60 : Reads 60 8 := by
  intro s c g w hs hr
  have HR := Lib.hid hr
  have H := Lib.hid (number59 s 0 65536 (by decide) (by decide) w hs g 35 (cC c) 27 hr ⟨_, cC_at (aC_35 c)⟩)
  have hgl := hr.lt
  rw [show readF 8 s c = ({ c with from_ := (numR s 0 65536).1 }, (numR s 0 65536).2) from rfl]
  clear hr
  go_enter Tryd.func60, Tryd.ntmps60
  go_wp2_with (go_at_call 59; refine H.out.mono ?_; rintro e w1 ⟨rfl, rfl⟩)
  go_ret
  refine ⟨rfl, ?_, One.set _ _⟩
  have h := HR.out.set 35 (.int .i64 (numR s 0 65536).1)
  rwa [cC_set35] at h
set_option maxRecDepth 100000 in
set_option maxHeartbeats 1600000 in
theorem read61 : Reads 61 16 := by
  intro s c g w hs hr
  have HR := Lib.hid hr
  have H := Lib.hid (number59 s 1 1000 (by decide) (by decide) w hs g 36 (cC c) 27 hr ⟨_, cC_at (aC_36 c)⟩)
  have hgl := hr.lt
  rw [show readF 16 s c = ({ c with count := (numR s 1 1000).1 }, (numR s 1 1000).2) from rfl]
  clear hr
  go_enter Tryd.func61, Tryd.ntmps61
  go_wp2_with (go_at_call 59; refine H.out.mono ?_; rintro e w1 ⟨rfl, rfl⟩)
  go_ret
  refine ⟨rfl, ?_, One.set _ _⟩
  have h := HR.out.set 36 (.int .i64 (numR s 1 1000).1)
  rwa [cC_set36] at h
set_option maxRecDepth 100000 in
set_option maxHeartbeats 1600000 in
theorem read62 : Reads 62 32 := by
  intro s c g w hs hr
  have HR := Lib.hid hr
  have hgl := hr.lt
  obtain ⟨⟨n, bb⟩, hn⟩ : ∃ r, numR s 1 99 = r := ⟨_, rfl⟩
  obtain ⟨b4, hb4⟩ : ∃ b4, w.heap.size = b4 := ⟨_, rfl⟩
  have hr4 : Row (w.alloc (.cells #[.int .i64 0] 3)) b4 [.int .i64 0] 3 := by rw [← hb4]; exact Row.new w [.int .i64 0] 3
  have H := Lib.hid (number59 s 1 99 (by decide) (by decide) (w.alloc (.cells #[.int .i64 0] 3)) hs b4 0 [.int .i64 0] 3 hr4 ⟨_, rfl⟩)
  rw [hn] at H
  have hgb : g ≠ b4 := by omega
  have hr5 : Row ((w.alloc (.cells #[.int .i64 0] 3)).setCell ⟨b4, 0, none⟩ (.int .i64 n)) g (cC c) 27 := (HR.out.keep (below_alloc w (.cells #[.int .i64 0] 3))).same (heap_set_other _ b4 0 _ g hgb)
  have hr6 := hr4.set 0 (.int .i64 n)
  have c0 : ((w.alloc (.cells #[.int .i64 0] 3)).setCell ⟨b4, 0, none⟩ (.int .i64 n)).cell? ⟨b4, 0, none⟩ = some (.int .i64 n) := hr6.cell 0
  have c37 : ((w.alloc (.cells #[.int .i64 0] 3)).setCell ⟨b4, 0, none⟩ (.int .i64 n)).cell? ⟨g, 37, none⟩ = some (.int .i64 c.code) := (hr5.cell 37).trans (cC_at (aC_37 c))
  have f37 := hr5.fz 37
  have HR5 := Lib.hid hr5
  rw [show readF 32 s c = ({ c with code := n }, bb) by show ({ c with code := (numR s 1 99).1 }, (numR s 1 99).2) = _; rw [hn]]
  have HO := Lib.hid (show One g w ((w.alloc (.cells #[.int .i64 0] 3)).setCell ⟨b4, 0, none⟩ (.int .i64 n)) from ⟨rfl, rfl, rfl, by simp [World.setCell], fun k hk _ => (heap_set_other _ b4 0 _ k (by omega)).trans ((below_alloc w (.cells #[.int .i64 0] 3)).block k hk)⟩)
  clear hr hr4 hr5 hr6 hn
  generalize hW : ((w.alloc (.cells #[.int .i64 0] 3)).setCell ⟨b4, 0, none⟩ (.int .i64 n)) = W5 at H c0 c37 f37 HR5 HO
  have HWW := Lib.hid hW
  clear hW
  go_enter Tryd.func62, Tryd.ntmps62
  go_wp2_with (go_at_call 59; refine H.out.mono ?_; rintro e w1 ⟨rfl, rfl⟩)
  go_ret
  refine ⟨rfl, ?_, HO.out.trans (One.set _ _)⟩
  have h := HR5.out.set 37 (.int .i64 n)
  rwa [cC_set37] at h
theorem reads_all (p : Int × Nat) (h : p ∈ rdL) : Reads p.2 p.1 := by
  simp only [rdL, List.mem_cons, List.not_mem_nil, or_false] at h
  rcases h with rfl | rfl | rfl | rfl | rfl | rfl
  · exact read54
  · exact read56
  · exact read58
  · exact read60
  · exact read61
  · exact read62
theorem enter_all (p : Int × Nat) (h : p ∈ rdL) : ∀ (args : Array Value) (W : World), Sem.run Tryd.prog (callFunc p.2 args) W = .ok (.enter p.2 args) W := by
  simp only [rdL, List.mem_cons, List.not_mem_nil, or_false] at h
  rcases h with rfl | rfl | rfl | rfl | rfl | rfl
  · exact enters_of Tryd.func54 (by kernel_rfl) rfl
  · exact enters_of Tryd.func56 (by kernel_rfl) rfl
  · exact enters_of Tryd.func58 (by kernel_rfl) rfl
  · exact enters_of Tryd.func60 (by kernel_rfl) rfl
  · exact enters_of Tryd.func61 (by kernel_rfl) rfl
  · exact enters_of Tryd.func62 (by kernel_rfl) rfl
end Go.Proofs.YtfbpipknhghneaaDoor
