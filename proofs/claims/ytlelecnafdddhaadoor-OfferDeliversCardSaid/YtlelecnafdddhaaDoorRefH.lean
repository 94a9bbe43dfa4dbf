/- The reference's Hear: what changes nothing. -/
import Derived.Test.YtlelecnafdddhaaDoorRefO
namespace Go.Proofs.YtlelecnafdddhaaDoor
open Go.RowKit
section
variable (w : World)
@[go_sem] theorem neq22 (a b : Id) : (binOp .neq 22 (vI a) (vI b)).run Tryd.prog w = .ok (.bool (!decide (a = b))) w := by
  obtain ⟨i, h1, h2⟩ := info5
  unfold vI cI
  rw [run_neq_bytes w 32 22 5 i a.1 b.1 Tryd.underlying22 Tryd.underlying5 h1 h2 a.2 b.2]
  simp [Subtype.ext_iff]
end
set_option maxRecDepth 100000 in
set_option maxHeartbeats 3200000 in
theorem rhear_kind (F : List Nat) (ch : Int) (s : St) (r : Rs) (c : Rc) (w : World) (v st : Int) (x : Id) (t : ByteArray) (y : Id) (h : RefAt F ch s r w) (_hrst : r.st = st) (_hcur : r.cur = (x, t)) (_hv : c.verb = v) (_hid : c.id = y) (_n3 : (v != 3) = true) (_n4 : (v != 4) = true) (_n5 : (v != 5) = true) (_n6 : (v != 6) = true) (_n9 : (v != 9) = true) : Calls Tryd.prog 45 #[vR r, vK c] w (RefP F ch s 11 w) := by
  have HX := Lib.hid h
  have HW3 : Below w.heap.size w (((w.alloc (.cells (aR r) 32)).alloc (.cells (aK c) 55)).alloc (.cells (aR zR) 32)) := Below.step (Below.step (below_alloc w _) (below_alloc _ _)) (below_alloc _ _)
  have R1 : Row (((w.alloc (.cells (aR r) 32)).alloc (.cells (aK c) 55)).alloc (.cells (aR zR) 32)) w.heap.size (cR r) 32 := ((Row.new w (cR r) 32).keep (below_alloc _ _)).keep (below_alloc _ _)
  have R2 : Row (((w.alloc (.cells (aR r) 32)).alloc (.cells (aK c) 55)).alloc (.cells (aR zR) 32)) (w.heap.size + 1) (cK c) 55 := by
    have h := (Row.new (w.alloc (.cells (aR r) 32)) (cK c) 55).keep (below_alloc _ (.cells (aR zR) 32))
    rwa [show (w.alloc (.cells (aR r) 32)).heap.size = w.heap.size + 1 by simp] at h
  have R3 : Row (((w.alloc (.cells (aR r) 32)).alloc (.cells (aK c) 55)).alloc (.cells (aR zR) 32)) (w.heap.size + 1 + 1) (cR zR) 32 := by
    have h := Row.new ((w.alloc (.cells (aR r) 32)).alloc (.cells (aK c) 55)) (cR zR) 32
    rwa [show ((w.alloc (.cells (aR r) 32)).alloc (.cells (aK c) 55)).heap.size = w.heap.size + 1 + 1 by simp] at h
  obtain ⟨W3, hW⟩ : ∃ W3, ((w.alloc (.cells (aR r) 32)).alloc (.cells (aK c) 55)).alloc (.cells (aR zR) 32) = W3 := ⟨_, rfl⟩
  rw [hW] at HW3 R1 R2 R3
  obtain ⟨_, c1, _, ⟨c3, c3'⟩, _, c35, _, _, ⟨c38, c38'⟩, hlt⟩ := row_R R1
  obtain ⟨k0, _, k2, _, ⟨k4, k4'⟩, _, _, hlt2⟩ := row_K R2
  rw [_hrst] at c1
  rw [_hcur] at c3' c35
  rw [_hv] at k0
  rw [_hid] at k4'
  have j3 := R3.rok (cR_length zR)
  have R3' := R3.setRow (ds := cR r)
  have HR := Lib.hid (And.intro (Below.setRow' HW3 (show w.heap.size ≤ w.heap.size + 1 + 1 by omega) (aR r)) R3')
  clear R1 R2 R3 R3' HW3
  dsimp only at c3' c35
  clear h _hrst _hcur _hv _hid
  · go_enter Tryd.func45, Tryd.ntmps45
    go_wp2
    have hb := HR.out.1
    exact bodyPost_ret (v := .tuple #[vR r, .int .i64 11]) (results_c2 (ad := ⟨w.heap.size + 1 + 1, 0, none⟩) rfl rfl (load_R HR.out.2) rfl) rfl ⟨r, rfl, HX.out.keep hb, hb⟩
set_option maxRecDepth 100000 in
set_option maxHeartbeats 3200000 in
theorem rhear_idle3 (F : List Nat) (ch : Int) (s : St) (r : Rs) (c : Rc) (w : World) (v st : Int) (x : Id) (t : ByteArray) (y : Id) (h : RefAt F ch s r w) (_hrst : r.st = st) (_hcur : r.cur = (x, t)) (_hv : c.verb = v) (_hid : c.id = y) (_hk : v = 3) (_h0 : st = 0) : Calls Tryd.prog 45 #[vR r, vK c] w (RefP F ch s 8 w) := by
  have HX := Lib.hid h
  subst _hk _h0
  have HW3 : Below w.heap.size w (((w.alloc (.cells (aR r) 32)).alloc (.cells (aK c) 55)).alloc (.cells (aR zR) 32)) := Below.step (Below.step (below_alloc w _) (below_alloc _ _)) (below_alloc _ _)
  have R1 : Row (((w.alloc (.cells (aR r) 32)).alloc (.cells (aK c) 55)).alloc (.cells (aR zR) 32)) w.heap.size (cR r) 32 := ((Row.new w (cR r) 32).keep (below_alloc _ _)).keep (below_alloc _ _)
  have R2 : Row (((w.alloc (.cells (aR r) 32)).alloc (.cells (aK c) 55)).alloc (.cells (aR zR) 32)) (w.heap.size + 1) (cK c) 55 := by
    have h := (Row.new (w.alloc (.cells (aR r) 32)) (cK c) 55).keep (below_alloc _ (.cells (aR zR) 32))
    rwa [show (w.alloc (.cells (aR r) 32)).heap.size = w.heap.size + 1 by simp] at h
  have R3 : Row (((w.alloc (.cells (aR r) 32)).alloc (.cells (aK c) 55)).alloc (.cells (aR zR) 32)) (w.heap.size + 1 + 1) (cR zR) 32 := by
    have h := Row.new ((w.alloc (.cells (aR r) 32)).alloc (.cells (aK c) 55)) (cR zR) 32
    rwa [show ((w.alloc (.cells (aR r) 32)).alloc (.cells (aK c) 55)).heap.size = w.heap.size + 1 + 1 by simp] at h
  obtain ⟨W3, hW⟩ : ∃ W3, ((w.alloc (.cells (aR r) 32)).alloc (.cells (aK c) 55)).alloc (.cells (aR zR) 32) = W3 := ⟨_, rfl⟩
  rw [hW] at HW3 R1 R2 R3
  obtain ⟨_, c1, _, ⟨c3, c3'⟩, _, c35, _, _, ⟨c38, c38'⟩, hlt⟩ := row_R R1
  obtain ⟨k0, _, k2, _, ⟨k4, k4'⟩, _, _, hlt2⟩ := row_K R2
  rw [_hrst] at c1
  rw [_hcur] at c3' c35
  rw [_hv] at k0
  rw [_hid] at k4'
  have j3 := R3.rok (cR_length zR)
  have R3' := R3.setRow (ds := cR r)
  have HR := Lib.hid (And.intro (Below.setRow' HW3 (show w.heap.size ≤ w.heap.size + 1 + 1 by omega) (aR r)) R3')
  clear R1 R2 R3 R3' HW3
  dsimp only at c3' c35
  clear h _hrst _hcur _hv _hid
  · go_enter Tryd.func45, Tryd.ntmps45
    go_wp2
    have hb := HR.out.1
    exact bodyPost_ret (v := .tuple #[vR r, .int .i64 8]) (results_c2 (ad := ⟨w.heap.size + 1 + 1, 0, none⟩) rfl rfl (load_R HR.out.2) rfl) rfl ⟨r, rfl, HX.out.keep hb, hb⟩
set_option maxRecDepth 100000 in
set_option maxHeartbeats 3200000 in
theorem rhear_other3 (F : List Nat) (ch : Int) (s : St) (r : Rs) (c : Rc) (w : World) (v st : Int) (x : Id) (t : ByteArray) (y : Id) (h : RefAt F ch s r w) (_hrst : r.st = st) (_hcur : r.cur = (x, t)) (_hv : c.verb = v) (_hid : c.id = y) (_hk : v = 3) (_h0 : (st == 0) = false) (_hne : decide (y = x) = false) : Calls Tryd.prog 45 #[vR r, vK c] w (RefP F ch s 8 w) := by
  have HX := Lib.hid h
  subst _hk
  have HW3 : Below w.heap.size w (((w.alloc (.cells (aR r) 32)).alloc (.cells (aK c) 55)).alloc (.cells (aR zR) 32)) := Below.step (Below.step (below_alloc w _) (below_alloc _ _)) (below_alloc _ _)
  have R1 : Row (((w.alloc (.cells (aR r) 32)).alloc (.cells (aK c) 55)).alloc (.cells (aR zR) 32)) w.heap.size (cR r) 32 := ((Row.new w (cR r) 32).keep (below_alloc _ _)).keep (below_alloc _ _)
  have R2 : Row (((w.alloc (.cells (aR r) 32)).alloc (.cells (aK c) 55)).alloc (.cells (aR zR) 32)) (w.heap.size + 1) (cK c) 55 := by
    have h := (Row.new (w.alloc (.cells (aR r) 32)) (cK c) 55).keep (below_alloc _ (.cells (aR zR) 32))
    rwa [show (w.alloc (.cells (aR r) 32)).heap.size = w.heap.size + 1 by simp] at h
  have R3 : Row (((w.alloc (.cells (aR r) 32)).alloc (.cells (aK c) 55)).alloc (.cells (aR zR) 32)) (w.heap.size + 1 + 1) (cR zR) 32 := by
    have h := Row.new ((w.alloc (.cells (aR r) 32)).alloc (.cells (aK c) 55)) (cR zR) 32
    rwa [show ((w.alloc (.cells (aR r) 32)).alloc (.cells (aK c) 55)).heap.size = w.heap.size + 1 + 1 by simp] at h
  obtain ⟨W3, hW⟩ : ∃ W3, ((w.alloc (.cells (aR r) 32)).alloc (.cells (aK c) 55)).alloc (.cells (aR zR) 32) = W3 := ⟨_, rfl⟩
  rw [hW] at HW3 R1 R2 R3
  obtain ⟨_, c1, _, ⟨c3, c3'⟩, _, c35, _, _, ⟨c38, c38'⟩, hlt⟩ := row_R R1
  obtain ⟨k0, _, k2, _, ⟨k4, k4'⟩, _, _, hlt2⟩ := row_K R2
  rw [_hrst] at c1
  rw [_hcur] at c3' c35
  rw [_hv] at k0
  rw [_hid] at k4'
  have j3 := R3.rok (cR_length zR)
  have R3' := R3.setRow (ds := cR r)
  have HR := Lib.hid (And.intro (Below.setRow' HW3 (show w.heap.size ≤ w.heap.size + 1 + 1 by omega) (aR r)) R3')
  clear R1 R2 R3 R3' HW3
  dsimp only at c3' c35
  clear h _hrst _hcur _hv _hid
  · go_enter Tryd.func45, Tryd.ntmps45
    go_wp2
    have hb := HR.out.1
    exact bodyPost_ret (v := .tuple #[vR r, .int .i64 8]) (results_c2 (ad := ⟨w.heap.size + 1 + 1, 0, none⟩) rfl rfl (load_R HR.out.2) rfl) rfl ⟨r, rfl, HX.out.keep hb, hb⟩
set_option maxRecDepth 100000 in
set_option maxHeartbeats 3200000 in
theorem rhear_idle4 (F : List Nat) (ch : Int) (s : St) (r : Rs) (c : Rc) (w : World) (v st : Int) (x : Id) (t : ByteArray) (y : Id) (h : RefAt F ch s r w) (_hrst : r.st = st) (_hcur : r.cur = (x, t)) (_hv : c.verb = v) (_hid : c.id = y) (_hk : v = 4) (_h0 : st = 0) : Calls Tryd.prog 45 #[vR r, vK c] w (RefP F ch s 8 w) := by
  have HX := Lib.hid h
  subst _hk _h0
  have HW3 : Below w.heap.size w (((w.alloc (.cells (aR r) 32)).alloc (.cells (aK c) 55)).alloc (.cells (aR zR) 32)) := Below.step (Below.step (below_alloc w _) (below_alloc _ _)) (below_alloc _ _)
  have R1 : Row (((w.alloc (.cells (aR r) 32)).alloc (.cells (aK c) 55)).alloc (.cells (aR zR) 32)) w.heap.size (cR r) 32 := ((Row.new w (cR r) 32).keep (below_alloc _ _)).keep (below_alloc _ _)
  have R2 : Row (((w.alloc (.cells (aR r) 32)).alloc (.cells (aK c) 55)).alloc (.cells (aR zR) 32)) (w.heap.size + 1) (cK c) 55 := by
    have h := (Row.new (w.alloc (.cells (aR r) 32)) (cK c) 55).keep (below_alloc _ (.cells (aR zR) 32))
    rwa [show (w.alloc (.cells (aR r) 32)).heap.size = w.heap.size + 1 by simp] at h
  have R3 : Row (((w.alloc (.cells (aR r) 32)).alloc (.cells (aK c) 55)).alloc (.cells (aR zR) 32)) (w.heap.size + 1 + 1) (cR zR) 32 := by
    have h := Row.new ((w.alloc (.cells (aR r) 32)).alloc (.cells (aK c) 55)) (cR zR) 32
    rwa [show ((w.alloc (.cells (aR r) 32)).alloc (.cells (aK c) 55)).heap.size = w.heap.size + 1 + 1 by simp] at h
  obtain ⟨W3, hW⟩ : ∃ W3, ((w.alloc (.cells (aR r) 32)).alloc (.cells (aK c) 55)).alloc (.cells (aR zR) 32) = W3 := ⟨_, rfl⟩
  rw [hW] at HW3 R1 R2 R3
  obtain ⟨_, c1, _, ⟨c3, c3'⟩, _, c35, _, _, ⟨c38, c38'⟩, hlt⟩ := row_R R1
  obtain ⟨k0, _, k2, _, ⟨k4, k4'⟩, _, _, hlt2⟩ := row_K R2
  rw [_hrst] at c1
  rw [_hcur] at c3' c35
  rw [_hv] at k0
  rw [_hid] at k4'
  have j3 := R3.rok (cR_length zR)
  have R3' := R3.setRow (ds := cR r)
  have HR := Lib.hid (And.intro (Below.setRow' HW3 (show w.heap.size ≤ w.heap.size + 1 + 1 by omega) (aR r)) R3')
  clear R1 R2 R3 R3' HW3
  dsimp only at c3' c35
  clear h _hrst _hcur _hv _hid
  · go_enter Tryd.func45, Tryd.ntmps45
    go_wp2
    have hb := HR.out.1
    exact bodyPost_ret (v := .tuple #[vR r, .int .i64 8]) (results_c2 (ad := ⟨w.heap.size + 1 + 1, 0, none⟩) rfl rfl (load_R HR.out.2) rfl) rfl ⟨r, rfl, HX.out.keep hb, hb⟩
set_option maxRecDepth 100000 in
set_option maxHeartbeats 3200000 in
theorem rhear_other4 (F : List Nat) (ch : Int) (s : St) (r : Rs) (c : Rc) (w : World) (v st : Int) (x : Id) (t : ByteArray) (y : Id) (h : RefAt F ch s r w) (_hrst : r.st = st) (_hcur : r.cur = (x, t)) (_hv : c.verb = v) (_hid : c.id = y) (_hk : v = 4) (_h0 : (st == 0) = false) (_hne : decide (y = x) = false) : Calls Tryd.prog 45 #[vR r, vK c] w (RefP F ch s 8 w) := by
  have HX := Lib.hid h
  subst _hk
  have HW3 : Below w.heap.size w (((w.alloc (.cells (aR r) 32)).alloc (.cells (aK c) 55)).alloc (.cells (aR zR) 32)) := Below.step (Below.step (below_alloc w _) (below_alloc _ _)) (below_alloc _ _)
  have R1 : Row (((w.alloc (.cells (aR r) 32)).alloc (.cells (aK c) 55)).alloc (.cells (aR zR) 32)) w.heap.size (cR r) 32 := ((Row.new w (cR r) 32).keep (below_alloc _ _)).keep (below_alloc _ _)
  have R2 : Row (((w.alloc (.cells (aR r) 32)).alloc (.cells (aK c) 55)).alloc (.cells (aR zR) 32)) (w.heap.size + 1) (cK c) 55 := by
    have h := (Row.new (w.alloc (.cells (aR r) 32)) (cK c) 55).keep (below_alloc _ (.cells (aR zR) 32))
    rwa [show (w.alloc (.cells (aR r) 32)).heap.size = w.heap.size + 1 by simp] at h
  have R3 : Row (((w.alloc (.cells (aR r) 32)).alloc (.cells (aK c) 55)).alloc (.cells (aR zR) 32)) (w.heap.size + 1 + 1) (cR zR) 32 := by
    have h := Row.new ((w.alloc (.cells (aR r) 32)).alloc (.cells (aK c) 55)) (cR zR) 32
    rwa [show ((w.alloc (.cells (aR r) 32)).alloc (.cells (aK c) 55)).heap.size = w.heap.size + 1 + 1 by simp] at h
  obtain ⟨W3, hW⟩ : ∃ W3, ((w.alloc (.cells (aR r) 32)).alloc (.cells (aK c) 55)).alloc (.cells (aR zR) 32) = W3 := ⟨_, rfl⟩
  rw [hW] at HW3 R1 R2 R3
  obtain ⟨_, c1, _, ⟨c3, c3'⟩, _, c35, _, _, ⟨c38, c38'⟩, hlt⟩ := row_R R1
  obtain ⟨k0, _, k2, _, ⟨k4, k4'⟩, _, _, hlt2⟩ := row_K R2
  rw [_hrst] at c1
  rw [_hcur] at c3' c35
  rw [_hv] at k0
  rw [_hid] at k4'
  have j3 := R3.rok (cR_length zR)
  have R3' := R3.setRow (ds := cR r)
  have HR := Lib.hid (And.intro (Below.setRow' HW3 (show w.heap.size ≤ w.heap.size + 1 + 1 by omega) (aR r)) R3')
  clear R1 R2 R3 R3' HW3
  dsimp only at c3' c35
  clear h _hrst _hcur _hv _hid
  · go_enter Tryd.func45, Tryd.ntmps45
    go_wp2
    have hb := HR.out.1
    exact bodyPost_ret (v := .tuple #[vR r, .int .i64 8]) (results_c2 (ad := ⟨w.heap.size + 1 + 1, 0, none⟩) rfl rfl (load_R HR.out.2) rfl) rfl ⟨r, rfl, HX.out.keep hb, hb⟩
set_option maxRecDepth 100000 in
set_option maxHeartbeats 3200000 in
theorem rhear_idle5 (F : List Nat) (ch : Int) (s : St) (r : Rs) (c : Rc) (w : World) (v st : Int) (x : Id) (t : ByteArray) (y : Id) (h : RefAt F ch s r w) (_hrst : r.st = st) (_hcur : r.cur = (x, t)) (_hv : c.verb = v) (_hid : c.id = y) (_hk : v = 5) (_h0 : st = 0) : Calls Tryd.prog 45 #[vR r, vK c] w (RefP F ch s 8 w) := by
  have HX := Lib.hid h
  subst _hk _h0
  have HW3 : Below w.heap.size w (((w.alloc (.cells (aR r) 32)).alloc (.cells (aK c) 55)).alloc (.cells (aR zR) 32)) := Below.step (Below.step (below_alloc w _) (below_alloc _ _)) (below_alloc _ _)
  have R1 : Row (((w.alloc (.cells (aR r) 32)).alloc (.cells (aK c) 55)).alloc (.cells (aR zR) 32)) w.heap.size (cR r) 32 := ((Row.new w (cR r) 32).keep (below_alloc _ _)).keep (below_alloc _ _)
  have R2 : Row (((w.alloc (.cells (aR r) 32)).alloc (.cells (aK c) 55)).alloc (.cells (aR zR) 32)) (w.heap.size + 1) (cK c) 55 := by
    have h := (Row.new (w.alloc (.cells (aR r) 32)) (cK c) 55).keep (below_alloc _ (.cells (aR zR) 32))
    rwa [show (w.alloc (.cells (aR r) 32)).heap.size = w.heap.size + 1 by simp] at h
  have R3 : Row (((w.alloc (.cells (aR r) 32)).alloc (.cells (aK c) 55)).alloc (.cells (aR zR) 32)) (w.heap.size + 1 + 1) (cR zR) 32 := by
    have h := Row.new ((w.alloc (.cells (aR r) 32)).alloc (.cells (aK c) 55)) (cR zR) 32
    rwa [show ((w.alloc (.cells (aR r) 32)).alloc (.cells (aK c) 55)).heap.size = w.heap.size + 1 + 1 by simp] at h
  obtain ⟨W3, hW⟩ : ∃ W3, ((w.alloc (.cells (aR r) 32)).alloc (.cells (aK c) 55)).alloc (.cells (aR zR) 32) = W3 := ⟨_, rfl⟩
  rw [hW] at HW3 R1 R2 R3
  obtain ⟨_, c1, _, ⟨c3, c3'⟩, _, c35, _, _, ⟨c38, c38'⟩, hlt⟩ := row_R R1
  obtain ⟨k0, _, k2, _, ⟨k4, k4'⟩, _, _, hlt2⟩ := row_K R2
  rw [_hrst] at c1
  rw [_hcur] at c3' c35
  rw [_hv] at k0
  rw [_hid] at k4'
  have j3 := R3.rok (cR_length zR)
  have R3' := R3.setRow (ds := cR r)
  have HR := Lib.hid (And.intro (Below.setRow' HW3 (show w.heap.size ≤ w.heap.size + 1 + 1 by omega) (aR r)) R3')
  clear R1 R2 R3 R3' HW3
  dsimp only at c3' c35
  clear h _hrst _hcur _hv _hid
  · go_enter Tryd.func45, Tryd.ntmps45
    go_wp2
    have hb := HR.out.1
    exact bodyPost_ret (v := .tuple #[vR r, .int .i64 8]) (results_c2 (ad := ⟨w.heap.size + 1 + 1, 0, none⟩) rfl rfl (load_R HR.out.2) rfl) rfl ⟨r, rfl, HX.out.keep hb, hb⟩
set_option maxRecDepth 100000 in
set_option maxHeartbeats 3200000 in
theorem rhear_other5 (F : List Nat) (ch : Int) (s : St) (r : Rs) (c : Rc) (w : World) (v st : Int) (x : Id) (t : ByteArray) (y : Id) (h : RefAt F ch s r w) (_hrst : r.st = st) (_hcur : r.cur = (x, t)) (_hv : c.verb = v) (_hid : c.id = y) (_hk : v = 5) (_h0 : (st == 0) = false) (_hne : decide (y = x) = false) : Calls Tryd.prog 45 #[vR r, vK c] w (RefP F ch s 8 w) := by
  have HX := Lib.hid h
  subst _hk
  have HW3 : Below w.heap.size w (((w.alloc (.cells (aR r) 32)).alloc (.cells (aK c) 55)).alloc (.cells (aR zR) 32)) := Below.step (Below.step (below_alloc w _) (below_alloc _ _)) (below_alloc _ _)
  have R1 : Row (((w.alloc (.cells (aR r) 32)).alloc (.cells (aK c) 55)).alloc (.cells (aR zR) 32)) w.heap.size (cR r) 32 := ((Row.new w (cR r) 32).keep (below_alloc _ _)).keep (below_alloc _ _)
  have R2 : Row (((w.alloc (.cells (aR r) 32)).alloc (.cells (aK c) 55)).alloc (.cells (aR zR) 32)) (w.heap.size + 1) (cK c) 55 := by
    have h := (Row.new (w.alloc (.cells (aR r) 32)) (cK c) 55).keep (below_alloc _ (.cells (aR zR) 32))
    rwa [show (w.alloc (.cells (aR r) 32)).heap.size = w.heap.size + 1 by simp] at h
  have R3 : Row (((w.alloc (.cells (aR r) 32)).alloc (.cells (aK c) 55)).alloc (.cells (aR zR) 32)) (w.heap.size + 1 + 1) (cR zR) 32 := by
    have h := Row.new ((w.alloc (.cells (aR r) 32)).alloc (.cells (aK c) 55)) (cR zR) 32
    rwa [show ((w.alloc (.cells (aR r) 32)).alloc (.cells (aK c) 55)).heap.size = w.heap.size + 1 + 1 by simp] at h
  obtain ⟨W3, hW⟩ : ∃ W3, ((w.alloc (.cells (aR r) 32)).alloc (.cells (aK c) 55)).alloc (.cells (aR zR) 32) = W3 := ⟨_, rfl⟩
  rw [hW] at HW3 R1 R2 R3
  obtain ⟨_, c1, _, ⟨c3, c3'⟩, _, c35, _, _, ⟨c38, c38'⟩, hlt⟩ := row_R R1
  obtain ⟨k0, _, k2, _, ⟨k4, k4'⟩, _, _, hlt2⟩ := row_K R2
  rw [_hrst] at c1
  rw [_hcur] at c3' c35
  rw [_hv] at k0
  rw [_hid] at k4'
  have j3 := R3.rok (cR_length zR)
  have R3' := R3.setRow (ds := cR r)
  have HR := Lib.hid (And.intro (Below.setRow' HW3 (show w.heap.size ≤ w.heap.size + 1 + 1 by omega) (aR r)) R3')
  clear R1 R2 R3 R3' HW3
  dsimp only at c3' c35
  clear h _hrst _hcur _hv _hid
  · go_enter Tryd.func45, Tryd.ntmps45
    go_wp2
    have hb := HR.out.1
    exact bodyPost_ret (v := .tuple #[vR r, .int .i64 8]) (results_c2 (ad := ⟨w.heap.size + 1 + 1, 0, none⟩) rfl rfl (load_R HR.out.2) rfl) rfl ⟨r, rfl, HX.out.keep hb, hb⟩
set_option maxRecDepth 100000 in
set_option maxHeartbeats 3200000 in
theorem rhear_idle6 (F : List Nat) (ch : Int) (s : St) (r : Rs) (c : Rc) (w : World) (v st : Int) (x : Id) (t : ByteArray) (y : Id) (h : RefAt F ch s r w) (_hrst : r.st = st) (_hcur : r.cur = (x, t)) (_hv : c.verb = v) (_hid : c.id = y) (_hk : v = 6) (_h0 : st = 0) : Calls Tryd.prog 45 #[vR r, vK c] w (RefP F ch s 8 w) := by
  have HX := Lib.hid h
  subst _hk _h0
  have HW3 : Below w.heap.size w (((w.alloc (.cells (aR r) 32)).alloc (.cells (aK c) 55)).alloc (.cells (aR zR) 32)) := Below.step (Below.step (below_alloc w _) (below_alloc _ _)) (below_alloc _ _)
  have R1 : Row (((w.alloc (.cells (aR r) 32)).alloc (.cells (aK c) 55)).alloc (.cells (aR zR) 32)) w.heap.size (cR r) 32 := ((Row.new w (cR r) 32).keep (below_alloc _ _)).keep (below_alloc _ _)
  have R2 : Row (((w.alloc (.cells (aR r) 32)).alloc (.cells (aK c) 55)).alloc (.cells (aR zR) 32)) (w.heap.size + 1) (cK c) 55 := by
    have h := (Row.new (w.alloc (.cells (aR r) 32)) (cK c) 55).keep (below_alloc _ (.cells (aR zR) 32))
    rwa [show (w.alloc (.cells (aR r) 32)).heap.size = w.heap.size + 1 by simp] at h
  have R3 : Row (((w.alloc (.cells (aR r) 32)).alloc (.cells (aK c) 55)).alloc (.cells (aR zR) 32)) (w.heap.size + 1 + 1) (cR zR) 32 := by
    have h := Row.new ((w.alloc (.cells (aR r) 32)).alloc (.cells (aK c) 55)) (cR zR) 32
    rwa [show ((w.alloc (.cells (aR r) 32)).alloc (.cells (aK c) 55)).heap.size = w.heap.size + 1 + 1 by simp] at h
  obtain ⟨W3, hW⟩ : ∃ W3, ((w.alloc (.cells (aR r) 32)).alloc (.cells (aK c) 55)).alloc (.cells (aR zR) 32) = W3 := ⟨_, rfl⟩
  rw [hW] at HW3 R1 R2 R3
  obtain ⟨_, c1, _, ⟨c3, c3'⟩, _, c35, _, _, ⟨c38, c38'⟩, hlt⟩ := row_R R1
  obtain ⟨k0, _, k2, _, ⟨k4, k4'⟩, _, _, hlt2⟩ := row_K R2
  rw [_hrst] at c1
  rw [_hcur] at c3' c35
  rw [_hv] at k0
  rw [_hid] at k4'
  have j3 := R3.rok (cR_length zR)
  have R3' := R3.setRow (ds := cR r)
  have HR := Lib.hid (And.intro (Below.setRow' HW3 (show w.heap.size ≤ w.heap.size + 1 + 1 by omega) (aR r)) R3')
  clear R1 R2 R3 R3' HW3
  dsimp only at c3' c35
  clear h _hrst _hcur _hv _hid
  · go_enter Tryd.func45, Tryd.ntmps45
    go_wp2
    have hb := HR.out.1
    exact bodyPost_ret (v := .tuple #[vR r, .int .i64 8]) (results_c2 (ad := ⟨w.heap.size + 1 + 1, 0, none⟩) rfl rfl (load_R HR.out.2) rfl) rfl ⟨r, rfl, HX.out.keep hb, hb⟩
set_option maxRecDepth 100000 in
set_option maxHeartbeats 3200000 in
theorem rhear_other6 (F : List Nat) (ch : Int) (s : St) (r : Rs) (c : Rc) (w : World) (v st : Int) (x : Id) (t : ByteArray) (y : Id) (h : RefAt F ch s r w) (_hrst : r.st = st) (_hcur : r.cur = (x, t)) (_hv : c.verb = v) (_hid : c.id = y) (_hk : v = 6) (_h0 : (st == 0) = false) (_hne : decide (y = x) = false) : Calls Tryd.prog 45 #[vR r, vK c] w (RefP F ch s 8 w) := by
  have HX := Lib.hid h
  subst _hk
  have HW3 : Below w.heap.size w (((w.alloc (.cells (aR r) 32)).alloc (.cells (aK c) 55)).alloc (.cells (aR zR) 32)) := Below.step (Below.step (below_alloc w _) (below_alloc _ _)) (below_alloc _ _)
  have R1 : Row (((w.alloc (.cells (aR r) 32)).alloc (.cells (aK c) 55)).alloc (.cells (aR zR) 32)) w.heap.size (cR r) 32 := ((Row.new w (cR r) 32).keep (below_alloc _ _)).keep (below_alloc _ _)
  have R2 : Row (((w.alloc (.cells (aR r) 32)).alloc (.cells (aK c) 55)).alloc (.cells (aR zR) 32)) (w.heap.size + 1) (cK c) 55 := by
    have h := (Row.new (w.alloc (.cells (aR r) 32)) (cK c) 55).keep (below_alloc _ (.cells (aR zR) 32))
    rwa [show (w.alloc (.cells (aR r) 32)).heap.size = w.heap.size + 1 by simp] at h
  have R3 : Row (((w.alloc (.cells (aR r) 32)).alloc (.cells (aK c) 55)).alloc (.cells (aR zR) 32)) (w.heap.size + 1 + 1) (cR zR) 32 := by
    have h := Row.new ((w.alloc (.cells (aR r) 32)).alloc (.cells (aK c) 55)) (cR zR) 32
    rwa [show ((w.alloc (.cells (aR r) 32)).alloc (.cells (aK c) 55)).heap.size = w.heap.size + 1 + 1 by simp] at h
  obtain ⟨W3, hW⟩ : ∃ W3, ((w.alloc (.cells (aR r) 32)).alloc (.cells (aK c) 55)).alloc (.cells (aR zR) 32) = W3 := ⟨_, rfl⟩
  rw [hW] at HW3 R1 R2 R3
  obtain ⟨_, c1, _, ⟨c3, c3'⟩, _, c35, _, _, ⟨c38, c38'⟩, hlt⟩ := row_R R1
  obtain ⟨k0, _, k2, _, ⟨k4, k4'⟩, _, _, hlt2⟩ := row_K R2
  rw [_hrst] at c1
  rw [_hcur] at c3' c35
  rw [_hv] at k0
  rw [_hid] at k4'
  have j3 := R3.rok (cR_length zR)
  have R3' := R3.setRow (ds := cR r)
  have HR := Lib.hid (And.intro (Below.setRow' HW3 (show w.heap.size ≤ w.heap.size + 1 + 1 by omega) (aR r)) R3')
  clear R1 R2 R3 R3' HW3
  dsimp only at c3' c35
  clear h _hrst _hcur _hv _hid
  · go_enter Tryd.func45, Tryd.ntmps45
    go_wp2
    have hb := HR.out.1
    exact bodyPost_ret (v := .tuple #[vR r, .int .i64 8]) (results_c2 (ad := ⟨w.heap.size + 1 + 1, 0, none⟩) rfl rfl (load_R HR.out.2) rfl) rfl ⟨r, rfl, HX.out.keep hb, hb⟩
set_option maxRecDepth 100000 in
set_option maxHeartbeats 3200000 in
theorem rhear_idle9 (F : List Nat) (ch : Int) (s : St) (r : Rs) (c : Rc) (w : World) (v st : Int) (x : Id) (t : ByteArray) (y : Id) (h : RefAt F ch s r w) (_hrst : r.st = st) (_hcur : r.cur = (x, t)) (_hv : c.verb = v) (_hid : c.id = y) (_hk : v = 9) (_h0 : st = 0) : Calls Tryd.prog 45 #[vR r, vK c] w (RefP F ch s 8 w) := by
  have HX := Lib.hid h
  subst _hk _h0
  have HW3 : Below w.heap.size w (((w.alloc (.cells (aR r) 32)).alloc (.cells (aK c) 55)).alloc (.cells (aR zR) 32)) := Below.step (Below.step (below_alloc w _) (below_alloc _ _)) (below_alloc _ _)
  have R1 : Row (((w.alloc (.cells (aR r) 32)).alloc (.cells (aK c) 55)).alloc (.cells (aR zR) 32)) w.heap.size (cR r) 32 := ((Row.new w (cR r) 32).keep (below_alloc _ _)).keep (below_alloc _ _)
  have R2 : Row (((w.alloc (.cells (aR r) 32)).alloc (.cells (aK c) 55)).alloc (.cells (aR zR) 32)) (w.heap.size + 1) (cK c) 55 := by
    have h := (Row.new (w.alloc (.cells (aR r) 32)) (cK c) 55).keep (below_alloc _ (.cells (aR zR) 32))
    rwa [show (w.alloc (.cells (aR r) 32)).heap.size = w.heap.size + 1 by simp] at h
  have R3 : Row (((w.alloc (.cells (aR r) 32)).alloc (.cells (aK c) 55)).alloc (.cells (aR zR) 32)) (w.heap.size + 1 + 1) (cR zR) 32 := by
    have h := Row.new ((w.alloc (.cells (aR r) 32)).alloc (.cells (aK c) 55)) (cR zR) 32
    rwa [show ((w.alloc (.cells (aR r) 32)).alloc (.cells (aK c) 55)).heap.size = w.heap.size + 1 + 1 by simp] at h
  obtain ⟨W3, hW⟩ : ∃ W3, ((w.alloc (.cells (aR r) 32)).alloc (.cells (aK c) 55)).alloc (.cells (aR zR) 32) = W3 := ⟨_, rfl⟩
  rw [hW] at HW3 R1 R2 R3
  obtain ⟨_, c1, _, ⟨c3, c3'⟩, _, c35, _, _, ⟨c38, c38'⟩, hlt⟩ := row_R R1
  obtain ⟨k0, _, k2, _, ⟨k4, k4'⟩, _, _, hlt2⟩ := row_K R2
  rw [_hrst] at c1
  rw [_hcur] at c3' c35
  rw [_hv] at k0
  rw [_hid] at k4'
  have j3 := R3.rok (cR_length zR)
  have R3' := R3.setRow (ds := cR r)
  have HR := Lib.hid (And.intro (Below.setRow' HW3 (show w.heap.size ≤ w.heap.size + 1 + 1 by omega) (aR r)) R3')
  clear R1 R2 R3 R3' HW3
  dsimp only at c3' c35
  clear h _hrst _hcur _hv _hid
  · go_enter Tryd.func45, Tryd.ntmps45
    go_wp2
    have hb := HR.out.1
    exact bodyPost_ret (v := .tuple #[vR r, .int .i64 8]) (results_c2 (ad := ⟨w.heap.size + 1 + 1, 0, none⟩) rfl rfl (load_R HR.out.2) rfl) rfl ⟨r, rfl, HX.out.keep hb, hb⟩
set_option maxRecDepth 100000 in
set_option maxHeartbeats 3200000 in
theorem rhear_other9 (F : List Nat) (ch : Int) (s : St) (r : Rs) (c : Rc) (w : World) (v st : Int) (x : Id) (t : ByteArray) (y : Id) (h : RefAt F ch s r w) (_hrst : r.st = st) (_hcur : r.cur = (x, t)) (_hv : c.verb = v) (_hid : c.id = y) (_hk : v = 9) (_h0 : (st == 0) = false) (_hne : decide (y = x) = false) : Calls Tryd.prog 45 #[vR r, vK c] w (RefP F ch s 8 w) := by
  have HX := Lib.hid h
  subst _hk
  have HW3 : Below w.heap.size w (((w.alloc (.cells (aR r) 32)).alloc (.cells (aK c) 55)).alloc (.cells (aR zR) 32)) := Below.step (Below.step (below_alloc w _) (below_alloc _ _)) (below_alloc _ _)
  have R1 : Row (((w.alloc (.cells (aR r) 32)).alloc (.cells (aK c) 55)).alloc (.cells (aR zR) 32)) w.heap.size (cR r) 32 := ((Row.new w (cR r) 32).keep (below_alloc _ _)).keep (below_alloc _ _)
  have R2 : Row (((w.alloc (.cells (aR r) 32)).alloc (.cells (aK c) 55)).alloc (.cells (aR zR) 32)) (w.heap.size + 1) (cK c) 55 := by
    have h := (Row.new (w.alloc (.cells (aR r) 32)) (cK c) 55).keep (below_alloc _ (.cells (aR zR) 32))
    rwa [show (w.alloc (.cells (aR r) 32)).heap.size = w.heap.size + 1 by simp] at h
  have R3 : Row (((w.alloc (.cells (aR r) 32)).alloc (.cells (aK c) 55)).alloc (.cells (aR zR) 32)) (w.heap.size + 1 + 1) (cR zR) 32 := by
    have h := Row.new ((w.alloc (.cells (aR r) 32)).alloc (.cells (aK c) 55)) (cR zR) 32
    rwa [show ((w.alloc (.cells (aR r) 32)).alloc (.cells (aK c) 55)).heap.size = w.heap.size + 1 + 1 by simp] at h
  obtain ⟨W3, hW⟩ : ∃ W3, ((w.alloc (.cells (aR r) 32)).alloc (.cells (aK c) 55)).alloc (.cells (aR zR) 32) = W3 := ⟨_, rfl⟩
  rw [hW] at HW3 R1 R2 R3
  obtain ⟨_, c1, _, ⟨c3, c3'⟩, _, c35, _, _, ⟨c38, c38'⟩, hlt⟩ := row_R R1
  obtain ⟨k0, _, k2, _, ⟨k4, k4'⟩, _, _, hlt2⟩ := row_K R2
  rw [_hrst] at c1
  rw [_hcur] at c3' c35
  rw [_hv] at k0
  rw [_hid] at k4'
  have j3 := R3.rok (cR_length zR)
  have R3' := R3.setRow (ds := cR r)
  have HR := Lib.hid (And.intro (Below.setRow' HW3 (show w.heap.size ≤ w.heap.size + 1 + 1 by omega) (aR r)) R3')
  clear R1 R2 R3 R3' HW3
  dsimp only at c3' c35
  clear h _hrst _hcur _hv _hid
  · go_enter Tryd.func45, Tryd.ntmps45
    go_wp2
    have hb := HR.out.1
    exact bodyPost_ret (v := .tuple #[vR r, .int .i64 8]) (results_c2 (ad := ⟨w.heap.size + 1 + 1, 0, none⟩) rfl rfl (load_R HR.out.2) rfl) rfl ⟨r, rfl, HX.out.keep hb, hb⟩
set_option maxRecDepth 100000 in
set_option maxHeartbeats 3200000 in
theorem rhear_2_3 (F : List Nat) (ch : Int) (s : St) (r : Rs) (c : Rc) (w : World) (v st : Int) (x : Id) (t : ByteArray) (y : Id) (h : RefAt F ch s r w) (_hrst : r.st = st) (_hcur : r.cur = (x, t)) (_hv : c.verb = v) (_hid : c.id = y) (_hk : v = 3) (_h0 : st = 2) (_hne : decide (y = x) = true) : Calls Tryd.prog 45 #[vR r, vK c] w (RefP F ch s 10 w) := by
  have HX := Lib.hid h
  subst _hk _h0
  have HW3 : Below w.heap.size w (((w.alloc (.cells (aR r) 32)).alloc (.cells (aK c) 55)).alloc (.cells (aR zR) 32)) := Below.step (Below.step (below_alloc w _) (below_alloc _ _)) (below_alloc _ _)
  have R1 : Row (((w.alloc (.cells (aR r) 32)).alloc (.cells (aK c) 55)).alloc (.cells (aR zR) 32)) w.heap.size (cR r) 32 := ((Row.new w (cR r) 32).keep (below_alloc _ _)).keep (below_alloc _ _)
  have R2 : Row (((w.alloc (.cells (aR r) 32)).alloc (.cells (aK c) 55)).alloc (.cells (aR zR) 32)) (w.heap.size + 1) (cK c) 55 := by
    have h := (Row.new (w.alloc (.cells (aR r) 32)) (cK c) 55).keep (below_alloc _ (.cells (aR zR) 32))
    rwa [show (w.alloc (.cells (aR r) 32)).heap.size = w.heap.size + 1 by simp] at h
  have R3 : Row (((w.alloc (.cells (aR r) 32)).alloc (.cells (aK c) 55)).alloc (.cells (aR zR) 32)) (w.heap.size + 1 + 1) (cR zR) 32 := by
    have h := Row.new ((w.alloc (.cells (aR r) 32)).alloc (.cells (aK c) 55)) (cR zR) 32
    rwa [show ((w.alloc (.cells (aR r) 32)).alloc (.cells (aK c) 55)).heap.size = w.heap.size + 1 + 1 by simp] at h
  obtain ⟨W3, hW⟩ : ∃ W3, ((w.alloc (.cells (aR r) 32)).alloc (.cells (aK c) 55)).alloc (.cells (aR zR) 32) = W3 := ⟨_, rfl⟩
  rw [hW] at HW3 R1 R2 R3
  obtain ⟨_, c1, _, ⟨c3, c3'⟩, _, c35, _, _, ⟨c38, c38'⟩, hlt⟩ := row_R R1
  obtain ⟨k0, _, k2, _, ⟨k4, k4'⟩, _, _, hlt2⟩ := row_K R2
  rw [_hrst] at c1
  rw [_hcur] at c3' c35
  rw [_hv] at k0
  rw [_hid] at k4'
  have j3 := R3.rok (cR_length zR)
  have R3' := R3.setRow (ds := cR r)
  have HR := Lib.hid (And.intro (Below.setRow' HW3 (show w.heap.size ≤ w.heap.size + 1 + 1 by omega) (aR r)) R3')
  clear R1 R2 R3 R3' HW3
  dsimp only at c3' c35
  clear h _hrst _hcur _hv _hid
  · go_enter Tryd.func45, Tryd.ntmps45
    go_wp2
    have hb := HR.out.1
    exact bodyPost_ret (v := .tuple #[vR r, .int .i64 10]) (results_c2 (ad := ⟨w.heap.size + 1 + 1, 0, none⟩) rfl rfl (load_R HR.out.2) rfl) rfl ⟨r, rfl, HX.out.keep hb, hb⟩
set_option maxRecDepth 100000 in
set_option maxHeartbeats 3200000 in
theorem rhear_3_3 (F : List Nat) (ch : Int) (s : St) (r : Rs) (c : Rc) (w : World) (v st : Int) (x : Id) (t : ByteArray) (y : Id) (h : RefAt F ch s r w) (_hrst : r.st = st) (_hcur : r.cur = (x, t)) (_hv : c.verb = v) (_hid : c.id = y) (_hk : v = 3) (_h0 : st = 3) (_hne : decide (y = x) = true) : Calls Tryd.prog 45 #[vR r, vK c] w (RefP F ch s 10 w) := by
  have HX := Lib.hid h
  subst _hk _h0
  have HW3 : Below w.heap.size w (((w.alloc (.cells (aR r) 32)).alloc (.cells (aK c) 55)).alloc (.cells (aR zR) 32)) := Below.step (Below.step (below_alloc w _) (below_alloc _ _)) (below_alloc _ _)
  have R1 : Row (((w.alloc (.cells (aR r) 32)).alloc (.cells (aK c) 55)).alloc (.cells (aR zR) 32)) w.heap.size (cR r) 32 := ((Row.new w (cR r) 32).keep (below_alloc _ _)).keep (below_alloc _ _)
  have R2 : Row (((w.alloc (.cells (aR r) 32)).alloc (.cells (aK c) 55)).alloc (.cells (aR zR) 32)) (w.heap.size + 1) (cK c) 55 := by
    have h := (Row.new (w.alloc (.cells (aR r) 32)) (cK c) 55).keep (below_alloc _ (.cells (aR zR) 32))
    rwa [show (w.alloc (.cells (aR r) 32)).heap.size = w.heap.size + 1 by simp] at h
  have R3 : Row (((w.alloc (.cells (aR r) 32)).alloc (.cells (aK c) 55)).alloc (.cells (aR zR) 32)) (w.heap.size + 1 + 1) (cR zR) 32 := by
    have h := Row.new ((w.alloc (.cells (aR r) 32)).alloc (.cells (aK c) 55)) (cR zR) 32
    rwa [show ((w.alloc (.cells (aR r) 32)).alloc (.cells (aK c) 55)).heap.size = w.heap.size + 1 + 1 by simp] at h
  obtain ⟨W3, hW⟩ : ∃ W3, ((w.alloc (.cells (aR r) 32)).alloc (.cells (aK c) 55)).alloc (.cells (aR zR) 32) = W3 := ⟨_, rfl⟩
  rw [hW] at HW3 R1 R2 R3
  obtain ⟨_, c1, _, ⟨c3, c3'⟩, _, c35, _, _, ⟨c38, c38'⟩, hlt⟩ := row_R R1
  obtain ⟨k0, _, k2, _, ⟨k4, k4'⟩, _, _, hlt2⟩ := row_K R2
  rw [_hrst] at c1
  rw [_hcur] at c3' c35
  rw [_hv] at k0
  rw [_hid] at k4'
  have j3 := R3.rok (cR_length zR)
  have R3' := R3.setRow (ds := cR r)
  have HR := Lib.hid (And.intro (Below.setRow' HW3 (show w.heap.size ≤ w.heap.size + 1 + 1 by omega) (aR r)) R3')
  clear R1 R2 R3 R3' HW3
  dsimp only at c3' c35
  clear h _hrst _hcur _hv _hid
  · go_enter Tryd.func45, Tryd.ntmps45
    go_wp2
    have hb := HR.out.1
    exact bodyPost_ret (v := .tuple #[vR r, .int .i64 10]) (results_c2 (ad := ⟨w.heap.size + 1 + 1, 0, none⟩) rfl rfl (load_R HR.out.2) rfl) rfl ⟨r, rfl, HX.out.keep hb, hb⟩
set_option maxRecDepth 100000 in
set_option maxHeartbeats 3200000 in
theorem rhear_2_4 (F : List Nat) (ch : Int) (s : St) (r : Rs) (c : Rc) (w : World) (v st : Int) (x : Id) (t : ByteArray) (y : Id) (h : RefAt F ch s r w) (_hrst : r.st = st) (_hcur : r.cur = (x, t)) (_hv : c.verb = v) (_hid : c.id = y) (_hk : v = 4) (_h0 : st = 2) (_hne : decide (y = x) = true) : Calls Tryd.prog 45 #[vR r, vK c] w (RefP F ch s 10 w) := by
  have HX := Lib.hid h
  subst _hk _h0
  have HW3 : Below w.heap.size w (((w.alloc (.cells (aR r) 32)).alloc (.cells (aK c) 55)).alloc (.cells (aR zR) 32)) := Below.step (Below.step (below_alloc w _) (below_alloc _ _)) (below_alloc _ _)
  have R1 : Row (((w.alloc (.cells (aR r) 32)).alloc (.cells (aK c) 55)).alloc (.cells (aR zR) 32)) w.heap.size (cR r) 32 := ((Row.new w (cR r) 32).keep (below_alloc _ _)).keep (below_alloc _ _)
  have R2 : Row (((w.alloc (.cells (aR r) 32)).alloc (.cells (aK c) 55)).alloc (.cells (aR zR) 32)) (w.heap.size + 1) (cK c) 55 := by
    have h := (Row.new (w.alloc (.cells (aR r) 32)) (cK c) 55).keep (below_alloc _ (.cells (aR zR) 32))
    rwa [show (w.alloc (.cells (aR r) 32)).heap.size = w.heap.size + 1 by simp] at h
  have R3 : Row (((w.alloc (.cells (aR r) 32)).alloc (.cells (aK c) 55)).alloc (.cells (aR zR) 32)) (w.heap.size + 1 + 1) (cR zR) 32 := by
    have h := Row.new ((w.alloc (.cells (aR r) 32)).alloc (.cells (aK c) 55)) (cR zR) 32
    rwa [show ((w.alloc (.cells (aR r) 32)).alloc (.cells (aK c) 55)).heap.size = w.heap.size + 1 + 1 by simp] at h
  obtain ⟨W3, hW⟩ : ∃ W3, ((w.alloc (.cells (aR r) 32)).alloc (.cells (aK c) 55)).alloc (.cells (aR zR) 32) = W3 := ⟨_, rfl⟩
  rw [hW] at HW3 R1 R2 R3
  obtain ⟨_, c1, _, ⟨c3, c3'⟩, _, c35, _, _, ⟨c38, c38'⟩, hlt⟩ := row_R R1
  obtain ⟨k0, _, k2, _, ⟨k4, k4'⟩, _, _, hlt2⟩ := row_K R2
  rw [_hrst] at c1
  rw [_hcur] at c3' c35
  rw [_hv] at k0
  rw [_hid] at k4'
  have j3 := R3.rok (cR_length zR)
  have R3' := R3.setRow (ds := cR r)
  have HR := Lib.hid (And.intro (Below.setRow' HW3 (show w.heap.size ≤ w.heap.size + 1 + 1 by omega) (aR r)) R3')
  clear R1 R2 R3 R3' HW3
  dsimp only at c3' c35
  clear h _hrst _hcur _hv _hid
  · go_enter Tryd.func45, Tryd.ntmps45
    go_wp2
    have hb := HR.out.1
    exact bodyPost_ret (v := .tuple #[vR r, .int .i64 10]) (results_c2 (ad := ⟨w.heap.size + 1 + 1, 0, none⟩) rfl rfl (load_R HR.out.2) rfl) rfl ⟨r, rfl, HX.out.keep hb, hb⟩
set_option maxRecDepth 100000 in
set_option maxHeartbeats 3200000 in
theorem rhear_3_4 (F : List Nat) (ch : Int) (s : St) (r : Rs) (c : Rc) (w : World) (v st : Int) (x : Id) (t : ByteArray) (y : Id) (h : RefAt F ch s r w) (_hrst : r.st = st) (_hcur : r.cur = (x, t)) (_hv : c.verb = v) (_hid : c.id = y) (_hk : v = 4) (_h0 : st = 3) (_hne : decide (y = x) = true) : Calls Tryd.prog 45 #[vR r, vK c] w (RefP F ch s 10 w) := by
  have HX := Lib.hid h
  subst _hk _h0
  have HW3 : Below w.heap.size w (((w.alloc (.cells (aR r) 32)).alloc (.cells (aK c) 55)).alloc (.cells (aR zR) 32)) := Below.step (Below.step (below_alloc w _) (below_alloc _ _)) (below_alloc _ _)
  have R1 : Row (((w.alloc (.cells (aR r) 32)).alloc (.cells (aK c) 55)).alloc (.cells (aR zR) 32)) w.heap.size (cR r) 32 := ((Row.new w (cR r) 32).keep (below_alloc _ _)).keep (below_alloc _ _)
  have R2 : Row (((w.alloc (.cells (aR r) 32)).alloc (.cells (aK c) 55)).alloc (.cells (aR zR) 32)) (w.heap.size + 1) (cK c) 55 := by
    have h := (Row.new (w.alloc (.cells (aR r) 32)) (cK c) 55).keep (below_alloc _ (.cells (aR zR) 32))
    rwa [show (w.alloc (.cells (aR r) 32)).heap.size = w.heap.size + 1 by simp] at h
  have R3 : Row (((w.alloc (.cells (aR r) 32)).alloc (.cells (aK c) 55)).alloc (.cells (aR zR) 32)) (w.heap.size + 1 + 1) (cR zR) 32 := by
    have h := Row.new ((w.alloc (.cells (aR r) 32)).alloc (.cells (aK c) 55)) (cR zR) 32
    rwa [show ((w.alloc (.cells (aR r) 32)).alloc (.cells (aK c) 55)).heap.size = w.heap.size + 1 + 1 by simp] at h
  obtain ⟨W3, hW⟩ : ∃ W3, ((w.alloc (.cells (aR r) 32)).alloc (.cells (aK c) 55)).alloc (.cells (aR zR) 32) = W3 := ⟨_, rfl⟩
  rw [hW] at HW3 R1 R2 R3
  obtain ⟨_, c1, _, ⟨c3, c3'⟩, _, c35, _, _, ⟨c38, c38'⟩, hlt⟩ := row_R R1
  obtain ⟨k0, _, k2, _, ⟨k4, k4'⟩, _, _, hlt2⟩ := row_K R2
  rw [_hrst] at c1
  rw [_hcur] at c3' c35
  rw [_hv] at k0
  rw [_hid] at k4'
  have j3 := R3.rok (cR_length zR)
  have R3' := R3.setRow (ds := cR r)
  have HR := Lib.hid (And.intro (Below.setRow' HW3 (show w.heap.size ≤ w.heap.size + 1 + 1 by omega) (aR r)) R3')
  clear R1 R2 R3 R3' HW3
  dsimp only at c3' c35
  clear h _hrst _hcur _hv _hid
  · go_enter Tryd.func45, Tryd.ntmps45
    go_wp2
    have hb := HR.out.1
    exact bodyPost_ret (v := .tuple #[vR r, .int .i64 10]) (results_c2 (ad := ⟨w.heap.size + 1 + 1, 0, none⟩) rfl rfl (load_R HR.out.2) rfl) rfl ⟨r, rfl, HX.out.keep hb, hb⟩
set_option maxRecDepth 100000 in
set_option maxHeartbeats 3200000 in
theorem rhear_1_9 (F : List Nat) (ch : Int) (s : St) (r : Rs) (c : Rc) (w : World) (v st : Int) (x : Id) (t : ByteArray) (y : Id) (h : RefAt F ch s r w) (_hrst : r.st = st) (_hcur : r.cur = (x, t)) (_hv : c.verb = v) (_hid : c.id = y) (_hk : v = 9) (_h0 : st = 1) (_hne : decide (y = x) = true) : Calls Tryd.prog 45 #[vR r, vK c] w (RefP F ch s 10 w) := by
  have HX := Lib.hid h
  subst _hk _h0
  have HW3 : Below w.heap.size w (((w.alloc (.cells (aR r) 32)).alloc (.cells (aK c) 55)).alloc (.cells (aR zR) 32)) := Below.step (Below.step (below_alloc w _) (below_alloc _ _)) (below_alloc _ _)
  have R1 : Row (((w.alloc (.cells (aR r) 32)).alloc (.cells (aK c) 55)).alloc (.cells (aR zR) 32)) w.heap.size (cR r) 32 := ((Row.new w (cR r) 32).keep (below_alloc _ _)).keep (below_alloc _ _)
  have R2 : Row (((w.alloc (.cells (aR r) 32)).alloc (.cells (aK c) 55)).alloc (.cells (aR zR) 32)) (w.heap.size + 1) (cK c) 55 := by
    have h := (Row.new (w.alloc (.cells (aR r) 32)) (cK c) 55).keep (below_alloc _ (.cells (aR zR) 32))
    rwa [show (w.alloc (.cells (aR r) 32)).heap.size = w.heap.size + 1 by simp] at h
  have R3 : Row (((w.alloc (.cells (aR r) 32)).alloc (.cells (aK c) 55)).alloc (.cells (aR zR) 32)) (w.heap.size + 1 + 1) (cR zR) 32 := by
    have h := Row.new ((w.alloc (.cells (aR r) 32)).alloc (.cells (aK c) 55)) (cR zR) 32
    rwa [show ((w.alloc (.cells (aR r) 32)).alloc (.cells (aK c) 55)).heap.size = w.heap.size + 1 + 1 by simp] at h
  obtain ⟨W3, hW⟩ : ∃ W3, ((w.alloc (.cells (aR r) 32)).alloc (.cells (aK c) 55)).alloc (.cells (aR zR) 32) = W3 := ⟨_, rfl⟩
  rw [hW] at HW3 R1 R2 R3
  obtain ⟨_, c1, _, ⟨c3, c3'⟩, _, c35, _, _, ⟨c38, c38'⟩, hlt⟩ := row_R R1
  obtain ⟨k0, _, k2, _, ⟨k4, k4'⟩, _, _, hlt2⟩ := row_K R2
  rw [_hrst] at c1
  rw [_hcur] at c3' c35
  rw [_hv] at k0
  rw [_hid] at k4'
  have j3 := R3.rok (cR_length zR)
  have R3' := R3.setRow (ds := cR r)
  have HR := Lib.hid (And.intro (Below.setRow' HW3 (show w.heap.size ≤ w.heap.size + 1 + 1 by omega) (aR r)) R3')
  clear R1 R2 R3 R3' HW3
  dsimp only at c3' c35
  clear h _hrst _hcur _hv _hid
  · go_enter Tryd.func45, Tryd.ntmps45
    go_wp2
    have hb := HR.out.1
    exact bodyPost_ret (v := .tuple #[vR r, .int .i64 10]) (results_c2 (ad := ⟨w.heap.size + 1 + 1, 0, none⟩) rfl rfl (load_R HR.out.2) rfl) rfl ⟨r, rfl, HX.out.keep hb, hb⟩
set_option maxRecDepth 100000 in
set_option maxHeartbeats 3200000 in
theorem rhear_2_9 (F : List Nat) (ch : Int) (s : St) (r : Rs) (c : Rc) (w : World) (v st : Int) (x : Id) (t : ByteArray) (y : Id) (h : RefAt F ch s r w) (_hrst : r.st = st) (_hcur : r.cur = (x, t)) (_hv : c.verb = v) (_hid : c.id = y) (_hk : v = 9) (_h0 : st = 2) (_hne : decide (y = x) = true) : Calls Tryd.prog 45 #[vR r, vK c] w (RefP F ch s 10 w) := by
  have HX := Lib.hid h
  subst _hk _h0
  have HW3 : Below w.heap.size w (((w.alloc (.cells (aR r) 32)).alloc (.cells (aK c) 55)).alloc (.cells (aR zR) 32)) := Below.step (Below.step (below_alloc w _) (below_alloc _ _)) (below_alloc _ _)
  have R1 : Row (((w.alloc (.cells (aR r) 32)).alloc (.cells (aK c) 55)).alloc (.cells (aR zR) 32)) w.heap.size (cR r) 32 := ((Row.new w (cR r) 32).keep (below_alloc _ _)).keep (below_alloc _ _)
  have R2 : Row (((w.alloc (.cells (aR r) 32)).alloc (.cells (aK c) 55)).alloc (.cells (aR zR) 32)) (w.heap.size + 1) (cK c) 55 := by
    have h := (Row.new (w.alloc (.cells (aR r) 32)) (cK c) 55).keep (below_alloc _ (.cells (aR zR) 32))
    rwa [show (w.alloc (.cells (aR r) 32)).heap.size = w.heap.size + 1 by simp] at h
  have R3 : Row (((w.alloc (.cells (aR r) 32)).alloc (.cells (aK c) 55)).alloc (.cells (aR zR) 32)) (w.heap.size + 1 + 1) (cR zR) 32 := by
    have h := Row.new ((w.alloc (.cells (aR r) 32)).alloc (.cells (aK c) 55)) (cR zR) 32
    rwa [show ((w.alloc (.cells (aR r) 32)).alloc (.cells (aK c) 55)).heap.size = w.heap.size + 1 + 1 by simp] at h
  obtain ⟨W3, hW⟩ : ∃ W3, ((w.alloc (.cells (aR r) 32)).alloc (.cells (aK c) 55)).alloc (.cells (aR zR) 32) = W3 := ⟨_, rfl⟩
  rw [hW] at HW3 R1 R2 R3
  obtain ⟨_, c1, _, ⟨c3, c3'⟩, _, c35, _, _, ⟨c38, c38'⟩, hlt⟩ := row_R R1
  obtain ⟨k0, _, k2, _, ⟨k4, k4'⟩, _, _, hlt2⟩ := row_K R2
  rw [_hrst] at c1
  rw [_hcur] at c3' c35
  rw [_hv] at k0
  rw [_hid] at k4'
  have j3 := R3.rok (cR_length zR)
  have R3' := R3.setRow (ds := cR r)
  have HR := Lib.hid (And.intro (Below.setRow' HW3 (show w.heap.size ≤ w.heap.size + 1 + 1 by omega) (aR r)) R3')
  clear R1 R2 R3 R3' HW3
  dsimp only at c3' c35
  clear h _hrst _hcur _hv _hid
  · go_enter Tryd.func45, Tryd.ntmps45
    go_wp2
    have hb := HR.out.1
    exact bodyPost_ret (v := .tuple #[vR r, .int .i64 10]) (results_c2 (ad := ⟨w.heap.size + 1 + 1, 0, none⟩) rfl rfl (load_R HR.out.2) rfl) rfl ⟨r, rfl, HX.out.keep hb, hb⟩
set_option maxRecDepth 100000 in
set_option maxHeartbeats 3200000 in
theorem rhear_range (F : List Nat) (ch : Int) (s : St) (r : Rs) (c : Rc) (w : World) (x : Id) (t : ByteArray) (fr : Int) (h : RefAt F ch s r w) (_hrst : r.st = 1) (_hcur : r.cur = (x, t)) (_hv : c.verb = 3) (_hid : c.id = x) (hfr : c.from_ = fr) (hgt : (t.size : Int) < fr) : Calls Tryd.prog 45 #[vR r, vK c] w (RefP F ch s 2 w) := by
  have HX := Lib.hid h
  have _hne : decide (x = x) = true := by simp
  have HW3 : Below w.heap.size w (((w.alloc (.cells (aR r) 32)).alloc (.cells (aK c) 55)).alloc (.cells (aR zR) 32)) := Below.step (Below.step (below_alloc w _) (below_alloc _ _)) (below_alloc _ _)
  have R1 : Row (((w.alloc (.cells (aR r) 32)).alloc (.cells (aK c) 55)).alloc (.cells (aR zR) 32)) w.heap.size (cR r) 32 := ((Row.new w (cR r) 32).keep (below_alloc _ _)).keep (below_alloc _ _)
  have R2 : Row (((w.alloc (.cells (aR r) 32)).alloc (.cells (aK c) 55)).alloc (.cells (aR zR) 32)) (w.heap.size + 1) (cK c) 55 := by
    have h := (Row.new (w.alloc (.cells (aR r) 32)) (cK c) 55).keep (below_alloc _ (.cells (aR zR) 32))
    rwa [show (w.alloc (.cells (aR r) 32)).heap.size = w.heap.size + 1 by simp] at h
  have R3 : Row (((w.alloc (.cells (aR r) 32)).alloc (.cells (aK c) 55)).alloc (.cells (aR zR) 32)) (w.heap.size + 1 + 1) (cR zR) 32 := by
    have h := Row.new ((w.alloc (.cells (aR r) 32)).alloc (.cells (aK c) 55)) (cR zR) 32
    rwa [show ((w.alloc (.cells (aR r) 32)).alloc (.cells (aK c) 55)).heap.size = w.heap.size + 1 + 1 by simp] at h
  obtain ⟨W3, hW⟩ : ∃ W3, ((w.alloc (.cells (aR r) 32)).alloc (.cells (aK c) 55)).alloc (.cells (aR zR) 32) = W3 := ⟨_, rfl⟩
  rw [hW] at HW3 R1 R2 R3
  obtain ⟨_, c1, _, ⟨c3, c3'⟩, _, c35, _, _, ⟨c38, c38'⟩, hlt⟩ := row_R R1
  obtain ⟨k0, _, k2, _, ⟨k4, k4'⟩, _, _, hlt2⟩ := row_K R2
  rw [_hrst] at c1
  rw [_hcur] at c3' c35
  rw [_hv] at k0
  rw [_hid] at k4'
  have j3 := R3.rok (cR_length zR)
  have R3' := R3.setRow (ds := cR r)
  have HR := Lib.hid (And.intro (Below.setRow' HW3 (show w.heap.size ≤ w.heap.size + 1 + 1 by omega) (aR r)) R3')
  clear R1 R2 R3 R3' HW3
  rw [hfr] at k2
  dsimp only at c3' c35
  clear h _hrst _hcur _hv _hid hfr
  · go_enter Tryd.func45, Tryd.ntmps45
    go_wp2
    have hb := HR.out.1
    exact bodyPost_ret (v := .tuple #[vR r, .int .i64 2]) (results_c2 (ad := ⟨w.heap.size + 1 + 1, 0, none⟩) rfl rfl (load_R HR.out.2) rfl) rfl ⟨r, rfl, HX.out.keep hb, hb⟩
end Go.Proofs.YtlelecnafdddhaaDoor
