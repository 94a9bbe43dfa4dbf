/- The words of a block out of its bytes: sha256.load. The bytes of a state: (sha256.words).digest. -/
import Derived.Test.YtecalodcbkljoaaGreatDoorMPro
import Derived.Test.YtecalodcbkljoaaGreatDoorMDigits
namespace Go.Proofs.YtecalodcbkljoaaGreatDoor
open Go.RowKit
/-- A word out of its first n bytes. -/
def pw (l : List UInt8) (j : Nat) : Nat → Wd
  | 0 => 0
  | n + 1 => (pw l j n <<< 8) ||| bw (l[4 * j + n]?.getD 0)
theorem pw_be (l : List UInt8) (j : Nat) : pw l j 4 = be l j := by
  simp [pw, be]
/-- The words behind i bytes. -/
def ldW (l : List UInt8) : Nat → List Wd
  | 0 => List.replicate 16 0
  | i + 1 => (ldW l i).set (i / 4) (((ldW l i)[i / 4]?.getD 0 <<< 8) ||| bw (l[i]?.getD 0))
theorem ldW_length (l : List UInt8) : ∀ i, (ldW l i).length = 16
  | 0 => by simp [ldW]
  | i + 1 => by rw [ldW, List.length_set, ldW_length l i]
theorem ldW_at (l : List UInt8) (j : Nat) (hj : j < 16) : ∀ i, (ldW l i)[j]? = some (pw l j (min 4 (i - 4 * j)))
  | 0 => by
    rw [ldW, List.getElem?_replicate, if_pos hj, show min 4 (0 - 4 * j) = 0 by omega]
    rfl
  | i + 1 => by
    rw [ldW]
    by_cases e : j = i / 4
    · rw [← e, List.getElem?_set_self (by rw [ldW_length]; exact hj), ldW_at l j hj i]
      rw [show min 4 (i + 1 - 4 * j) = min 4 (i - 4 * j) + 1 by omega, pw, show 4 * j + min 4 (i - 4 * j) = i by omega]
      rfl
    · rw [List.getElem?_set_ne (by omega), ldW_at l j hj i, show min 4 (i + 1 - 4 * j) = min 4 (i - 4 * j) by omega]
/-- The words of a block, and those behind t of its bytes. -/
def ldM (x : B64) (t : Nat) : W16 := ⟨ldW x.1 t, ldW_length _ _⟩
def blkW (x : B64) : W16 := ldM x 64
theorem blkW_be (x : B64) (t : Nat) (ht : t < 16) : mW (blkW x) t = be x.1 t := by
  unfold mW blkW ldM
  rw [ldW_at x.1 t ht 64, show min 4 (64 - 4 * t) = 4 by omega, pw_be]
  rfl
section
variable (w : World) (v : Value)
@[go_sem ↓] theorem box64b : Instr.box 136 v = bxA 136 v := rfl
@[go_sem] theorem run_bx64b (x : B64) : (bxA 136 (vB64 x)).run Tryz.prog w = .ok (.pointer (some ⟨w.heap.size, 0, none⟩)) (w.alloc (.cells (aB64 x) 136)) := run_bxA w 136 _
@[go_sem] theorem okA_nB (x : B64) (ty : TypeId) (g : Nat) (hg : g = w.heap.size) : okA (w.alloc (.cells (aB64 x) ty)) ⟨g, 0, none⟩ 64 = true := okA_new w _ ty g 64 hg (by rw [List.length_map, x.2])
@[go_sem] theorem rdA_nB (x : B64) (ty : TypeId) (g : Nat) (hg : g = w.heap.size) : rdA (w.alloc (.cells (aB64 x) ty)) ⟨g, 0, none⟩ 64 = vB64 x := rdA_new w _ ty g 64 hg (by rw [List.length_map, x.2])
end
/-- An element of an array's value. -/
theorem run_index_one {P : Program} (w : World) (t e : TypeId) (n : Nat) (ek : IntKind) (cs : Array Value) (j : Nat) (v : Value) (ht : P.underlying t = some (.array n e)) (he : P.underlying e = some (.int ek)) (hi : (P.info? e).map (·.size) = some 1) (hj : j < n) (hv : cs[j]? = some v) :
    (Instr.index t (.agg cs) (.int .i64 (j : Int))).run P w = .ok v w := by
  cases hq : P.info? e with
  | none => simp [hq] at hi
  | some i =>
    have hs : i.size = 1 := by simpa [hq] using hi
    have hp : (part e cs j).run P w = .ok v w := by simp [part, isAgg, run_underlying he, hv]
    simp [Instr.index, run_underlying ht, asIntOf, sizeOf, typeInfo, hq, hs, hj, hp]
theorem sizeU8 : (Tryz.prog.info? 5).map (·.size) = some 1 := by kernel_rfl
theorem sizeU32 : (Tryz.prog.info? 114).map (·.size) = some 1 := by kernel_rfl
theorem m_or_byte (a : Wd) (c : UInt8) : bits BinOp.or IntKind.u32 (iW a * (256 : Int) % (4294967296 : Int)) ((c.toNat : Int) % (4294967296 : Int)) = iW ((a <<< 8) ||| bw c) := by
  have h1 : iW a * (256 : Int) % (4294967296 : Int) = iW (a <<< 8) := m_shl a 8
  have h2 : (c.toNat : Int) % (4294967296 : Int) = iW (bw c) := by
    have := c.toNat_lt
    unfold iW bw
    rw [BitVec.toNat_ofNat, Nat.mod_eq_of_lt (by omega)]
    omega
  rw [h1, h2, w_or]
/-- The variables of load. -/
structure LdI (w : World) (b : Nat) (x : B64) (t : Nat) (wr : World) : Prop where
  size : w.heap.size = b
  below : Below w.heap.size w wr
  ro : Row wr (b + 1) (cM zM) 161
  rw_ : Row wr (b + 1 + 1) (cM (ldM x t)) 161
theorem LdI.set {w : World} {b : Nat} {x : B64} {t : Nat} {wr : World} (p : LdI w b x t wr) {k : Nat} (hk : t / 4 = k) {c : UInt8} (hc : x.1[t]? = some c) {a : Wd} (ha : (ldW x.1 t)[k]? = some a) : LdI w b x (t + 1) (wr.setCell ⟨b + 1 + 1, k, none⟩ (.int .u32 (iW ((a <<< 8) ||| bw c)))) := by
  have hs := p.size
  refine ⟨p.size, p.below.setCell (show w.heap.size ≤ b + 1 + 1 by omega) _, p.ro.same (heap_set_other _ _ _ _ _ (by omega)), ?_⟩
  have h := p.rw_.set k (.int .u32 (iW ((a <<< 8) ||| bw c)))
  have e : cM (ldM x (t + 1)) = (cM (ldM x t)).set k (.int .u32 (iW ((a <<< 8) ||| bw c))) := by
    unfold cM ldM
    simp only []
    rw [ldW, List.map_set, hk, ha, hc]
    rfl
  rw [e]
  exact h
theorem load_m {w : World} {ad : Addr} {v : W16} (h : At w ad (cM v)) : (loadVar 161 ad).run Tryz.prog w = .ok (vM v) w :=
  run_loadVar_at w ad 161 (cM v) _ h Tryz.underlying161 rfl (by rw [cM_length]; exact size161)
theorem rowM {w : World} {b : Nat} {v : W16} {t : TypeId} (h : Row w b (cM v) t) : okA w ⟨b, 0, none⟩ 16 = true ∧ rdA w ⟨b, 0, none⟩ 16 = vM v ∧ rowOk w b 16 = true := by
  have hat := h.at_ (k := 0) (n := 16) (ds := cM v) (by rw [List.drop_zero, List.take_of_length_le (by rw [cM_length]; omega)])
  have h1 := hat.ok
  have h2 := hat.rd
  rw [cM_length] at h1 h2
  refine ⟨h1, h2, ?_⟩
  have hc := cM_length v
  unfold Row at h
  unfold rowOk
  rw [h]
  simpa using hc
set_option maxRecDepth 100000 in
set_option maxHeartbeats 1600000 in
theorem load_w (x : B64) (w : World) : Calls Tryz.prog 106 #[vB64 x] w fun e w' => e = .returned (vM (blkW x)) ∧ Below w.heap.size w w' := by
  obtain ⟨b, hb⟩ : ∃ b, w.heap.size = b := ⟨_, rfl⟩
  obtain ⟨W0, hW0⟩ : ∃ W0, ((w.alloc (.cells (aB64 x) 136)).alloc (.cells (aM zM) 161)).alloc (.cells (aM zM) 161) = W0 := ⟨_, rfl⟩
  have HP := Lib.hid (show LdI w b x 0 W0 from by
    subst hW0 hb
    have r2 := Row.new (w.alloc (.cells (aB64 x) 136)) (cM zM) 161
    have r3 := Row.new ((w.alloc (.cells (aB64 x) 136)).alloc (.cells (aM zM) 161)) (cM zM) 161
    rw [show (w.alloc (.cells (aB64 x) 136)).heap.size = w.heap.size + 1 by simp] at r2
    rw [show ((w.alloc (.cells (aB64 x) 136)).alloc (.cells (aM zM) 161)).heap.size = w.heap.size + 1 + 1 by simp] at r3
    exact ⟨rfl, Below.step (Below.step (below_alloc _ _) (below_alloc _ _)) (below_alloc _ _), r2.keep (below_alloc _ _), r3⟩)
  have HR0 := Lib.hid (show Row W0 b (x.1.map cB) 136 from by
    subst hW0 hb
    exact ((Row.new w (x.1.map cB) 136).keep (below_alloc _ _)).keep (below_alloc _ _))
  have x1 : okA W0 ⟨b, 0, none⟩ 64 = true ∧ rdA W0 ⟨b, 0, none⟩ 64 = vB64 x := by
    have hat := HR0.out.at_ (k := 0) (n := 64) (ds := x.1.map cB) (by rw [List.drop_zero, List.take_of_length_le (by rw [List.length_map, x.2]; omega)])
    have h1 := hat.ok
    have h2 := hat.rd
    rw [List.length_map, x.2] at h1 h2
    exact ⟨h1, h2⟩
  obtain ⟨x1, x2⟩ := x1
  go_enter Tryz.func106, Tryz.ntmps106
  go_wp2
  clear hb hW0 x1 x2
  go_loopw [7] (fun i wr => ∃ t : Nat, t ≤ 64 ∧ i = .int .i64 t ∧ LdI w b x t wr) (fun i _ => 64 - (intOf i).toNat)
  case atStart => exact ⟨0, Nat.zero_le _, rfl, HP.out⟩
  case round =>
    obtain ⟨t, ht, rfl, hp⟩ := hrel
    have HR := Lib.hid hp
    clear hp
    by_cases hlt : t < 64
    · have hti : (t : Int) < 64 := by omega
      have hl := x.2
      obtain ⟨c, hc⟩ : ∃ c, x.1[t]? = some c := ⟨x.1[t], List.getElem?_eq_getElem (by omega)⟩
      obtain ⟨k, hk⟩ : ∃ k, t / 4 = k := ⟨_, rfl⟩
      obtain ⟨a, ha⟩ : ∃ a, (ldW x.1 t)[k]? = some a := ⟨(ldW x.1 t)[k]'(by rw [ldW_length]; omega), List.getElem?_eq_getElem _⟩
      have hix : ∀ W, (Instr.index 136 (vB64 x) (.int .i64 (t : Int))).run Tryz.prog W = .ok (cB c) W := fun W => run_index_one W 136 5 64 .u8 (aB64 x) t (cB c) Tryz.underlying136 Tryz.underlying5 sizeU8 hlt (by simp [aB64, hc])
      have hdv : (t : Int).tdiv 4 = (k : Int) := by rw [Int.tdiv_eq_ediv_of_nonneg (by omega)]; omega
      have hdv2 : (t : Int) / 4 = (k : Int) := by omega
      have hk16 : (k : Int) < 16 := by omega
      have hcell : wr.cell? ⟨b + 1 + 1, k, none⟩ = some (.int .u32 (iW a)) := by rw [HR.out.rw_.cell]; unfold cM ldM; rw [List.getElem?_map, ha]; rfl
      have hfz : wr.frozen? ⟨b + 1 + 1, k, none⟩ = false := HR.out.rw_.fz _
      have hor := m_or_byte a c
      have HN := Lib.hid (HR.out.set hk hc ha)
      clear hc hk ha hl
      unfold cB at hix
      go_wp2
      go_roundw
      case rel => exact ⟨t + 1, by omega, by go_num, HN.out⟩
      case measure => simp [intOf]; omega
    · obtain rfl : t = 64 := by omega
      obtain ⟨x3, x4, x5⟩ := rowM HR.out.rw_
      obtain ⟨-, -, ro⟩ := rowM HR.out.ro
      go_wp2
      have hld := load_m (at_setRow (cM (ldM x 64)) ro)
      have hle : w.heap.size ≤ b + 1 := by have := HR.out.size; omega
      exact bodyPost_ret (results_c1 (ad := ⟨b + 1, 0, none⟩) rfl rfl hld) rfl ⟨rfl, Below.setRow HR.out.below hle _⟩
end Go.Proofs.YtecalodcbkljoaaGreatDoor
namespace Go.Proofs.YtecalodcbkljoaaGreatDoor
open Go.RowKit
/-- The digest behind n bytes. -/
def dgL (v : Vs) (n : Nat) : List UInt8 := v.bytes.take n ++ List.replicate (32 - n) 0
theorem dgL_length (v : Vs) (n : Nat) (h : n ≤ 32) : (dgL v n).length = 32 := by
  unfold dgL
  rw [List.length_append, List.length_take, bytes_length, List.length_replicate]
  omega
theorem dgL_succ (v : Vs) (n : Nat) (c : UInt8) (hc : v.bytes[n]? = some c) : dgL v (n + 1) = (dgL v n).set n c := by
  have hn : n < v.bytes.length := (List.getElem?_eq_some_iff.1 hc).1
  have hn2 : n < 32 := by rw [bytes_length] at hn; exact hn
  have hcv := (List.getElem?_eq_some_iff.1 hc).2
  unfold dgL
  rw [List.take_succ_eq_append_getElem hn, hcv, List.append_assoc, List.set_append_right _ _ (by rw [List.length_take]; omega), List.length_take, Nat.min_eq_left (by omega), Nat.sub_self]
  obtain ⟨m, hm⟩ : ∃ m, 32 - n = m + 1 := ⟨32 - n - 1, by omega⟩
  rw [hm, List.replicate_succ, show 32 - (n + 1) = m by omega]
  rfl
def digI (v : Vs) : Id := ⟨v.bytes, rfl⟩
def dgI (v : Vs) (n : Nat) (h : n ≤ 32) : Id := ⟨dgL v n, dgL_length v n h⟩
theorem bytes_at (v : Vs) (i k : Nat) (x : Wd) (hi : v.words[i]? = some x) (hk : k < 4) : v.bytes[4 * i + k]? = some (wB x k) := by
  have hlt : i < 8 := (List.getElem?_eq_some_iff.1 hi).1
  have : i = 0 ∨ i = 1 ∨ i = 2 ∨ i = 3 ∨ i = 4 ∨ i = 5 ∨ i = 6 ∨ i = 7 := by omega
  have hk4 : k = 0 ∨ k = 1 ∨ k = 2 ∨ k = 3 := by omega
  rcases this with rfl | rfl | rfl | rfl | rfl | rfl | rfl | rfl <;> (simp only [Vs.words, List.getElem?_cons_zero, List.getElem?_cons_succ, Option.some.injEq] at hi; subst hi; rcases hk4 with rfl | rfl | rfl | rfl <;> rfl)
theorem w_bytes (x : Wd) (k n : Nat) (q : Int) (hn : n = 24 - 8 * k) (hq : ((2 ^ n : Nat) : Int) = q) : iW x / q % (256 : Int) = ((wB x k).toNat : Int) := by
  rw [← hq, w_shr]
  unfold wB iW
  rw [← hn, UInt8.toNat_ofNat']
  omega
/-- The variables of digest. -/
structure DgI (w : World) (b : Nat) (v : Vs) (n : Nat) (wr : World) : Prop where
  size : w.heap.size = b
  below : Below w.heap.size w wr
  ro : Row wr (b + 1) (cI zI) 143
  rd : Row wr (b + 1 + 1) ((dgL v n).map cB) 143
theorem DgI.set {w : World} {b : Nat} {v : Vs} {n : Nat} {wr : World} (p : DgI w b v n wr) {c : UInt8} (hc : v.bytes[n]? = some c) : DgI w b v (n + 1) (wr.setCell ⟨b + 1 + 1, n, none⟩ (cB c)) := by
  have hs := p.size
  refine ⟨p.size, p.below.setCell (show w.heap.size ≤ b + 1 + 1 by omega) _, p.ro.same (heap_set_other _ _ _ _ _ (by omega)), ?_⟩
  rw [dgL_succ v n c hc, List.map_set]
  exact p.rd.set n (cB c)
theorem load_d {w : World} {ad : Addr} {x : Id} (h : At w ad (cI x)) : (loadVar 143 ad).run Tryz.prog w = .ok (vI x) w :=
  run_loadVar_at w ad 143 (cI x) _ h Tryz.underlying143 rfl (by rw [cI_length]; exact size143)
theorem rowI {w : World} {b : Nat} {v : Id} {t : TypeId} (h : Row w b (cI v) t) : okA w ⟨b, 0, none⟩ 32 = true ∧ rdA w ⟨b, 0, none⟩ 32 = vI v ∧ rowOk w b 32 = true := by
  have hat := h.at_ (k := 0) (n := 32) (ds := cI v) (by rw [List.drop_zero, List.take_of_length_le (by rw [cI_length]; omega)])
  have h1 := hat.ok
  have h2 := hat.rd
  rw [cI_length] at h1 h2
  refine ⟨h1, h2, ?_⟩
  have hc := cI_length v
  unfold Row at h
  unfold rowOk
  rw [h]
  simpa using hc
set_option maxRecDepth 100000 in
set_option maxHeartbeats 3200000 in
theorem digest_w (v : Vs) (w : World) : Calls Tryz.prog 107 #[vV v] w fun e w' => e = .returned (vI (digI v)) ∧ Below w.heap.size w w' := by
  obtain ⟨b, hb⟩ : ∃ b, w.heap.size = b := ⟨_, rfl⟩
  obtain ⟨W0, hW0⟩ : ∃ W0, ((w.alloc (.cells (aV v) 156)).alloc (.cells (aI zI) 143)).alloc (.cells (aI zI) 143) = W0 := ⟨_, rfl⟩
  have HP := Lib.hid (show DgI w b v 0 W0 from by
    subst hW0 hb
    have r2 := Row.new (w.alloc (.cells (aV v) 156)) (cI zI) 143
    have r3 := Row.new ((w.alloc (.cells (aV v) 156)).alloc (.cells (aI zI) 143)) (cI zI) 143
    rw [show (w.alloc (.cells (aV v) 156)).heap.size = w.heap.size + 1 by simp] at r2
    rw [show ((w.alloc (.cells (aV v) 156)).alloc (.cells (aI zI) 143)).heap.size = w.heap.size + 1 + 1 by simp] at r3
    exact ⟨rfl, Below.step (Below.step (below_alloc _ _) (below_alloc _ _)) (below_alloc _ _), r2.keep (below_alloc _ _), r3⟩)
  have HR0 := Lib.hid (show Row W0 b (cV v) 156 from by
    subst hW0 hb
    exact ((Row.new w (cV v) 156).keep (below_alloc _ _)).keep (below_alloc _ _))
  have c0 := HR0.out.cell 0
  have c1 := HR0.out.cell 1
  have c2 := HR0.out.cell 2
  have c3 := HR0.out.cell 3
  have c4 := HR0.out.cell 4
  have c5 := HR0.out.cell 5
  have c6 := HR0.out.cell 6
  have c7 := HR0.out.cell 7
  simp only [cV, List.getElem?_cons_zero, List.getElem?_cons_succ] at c0 c1 c2 c3 c4 c5 c6 c7
  go_enter Tryz.func107, Tryz.ntmps107
  go_wp2
  clear hb hW0 c0 c1 c2 c3 c4 c5 c6 c7
  go_loopw [24] (fun i wr => ∃ t : Nat, t ≤ 8 ∧ i = .int .i64 t ∧ DgI w b v (4 * t) wr) (fun i _ => 8 - (intOf i).toNat)
  case atStart => exact ⟨0, Nat.zero_le _, rfl, HP.out⟩
  case round =>
    obtain ⟨t, ht, rfl, hp⟩ := hrel
    have HR := Lib.hid hp
    clear hp
    by_cases hlt : t < 8
    · have hti : (t : Int) < 8 := by omega
      obtain ⟨x, hx⟩ : ∃ x, v.words[t]? = some x := ⟨v.words[t]'hlt, List.getElem?_eq_getElem _⟩
      have hix : ∀ W, (Instr.index 115 (vV v) (.int .i64 (t : Int))).run Tryz.prog W = .ok (.int .u32 (iW x)) W := fun W => run_index_one W 115 114 8 .u32 (cV v).toArray t (vW x) Tryz.underlying115 Tryz.underlying114 sizeU32 hlt (by
        rw [List.getElem?_toArray, show cV v = v.words.map vW from rfl, List.getElem?_map, hx]
        rfl)
      have HXX := Lib.hid hx
      clear hx
      obtain ⟨wo, hwo⟩ : ∃ wo, wr = wo := ⟨_, rfl⟩
      go_wp2
      go_loopw [28] (fun i wq => ∃ k : Nat, k ≤ 4 ∧ i = .int .i64 k ∧ DgI w b v (4 * t + k) wq) (fun i _ => 4 - (intOf i).toNat)
      case atStart => exact ⟨0, Nat.zero_le _, rfl, by rw [← hwo]; exact HR.out⟩
      case round =>
        obtain ⟨k, hk, rfl, hp⟩ := hrel
        have HQ := Lib.hid hp
        clear hp
        by_cases hlk : k < 4
        · obtain ⟨n, hn⟩ : ∃ n, 4 * t + k = n := ⟨_, rfl⟩
          have hni : 4 * (t : Int) + (k : Int) = (n : Int) := by omega
          have hn32 : (n : Int) < 32 := by omega
          have hc := bytes_at v t k x HXX.out hlk
          rw [hn] at hc
          have HN := Lib.hid (show DgI w b v (n + 1) (wr.setCell ⟨b + 1 + 1, n, none⟩ (cB (wB x k))) from (by have h := HQ.out; rw [hn] at h; exact h.set hc))
          obtain ⟨cz, hcell⟩ : ∃ cz, wr.cell? ⟨b + 1 + 1, n, none⟩ = some (cB cz) := ⟨(dgL v (4 * t + k))[n]'(by rw [dgL_length _ _ (by omega)]; omega), by rw [HQ.out.rd.cell, List.getElem?_map, List.getElem?_eq_getElem]; rfl⟩
          have hfz : wr.frozen? ⟨b + 1 + 1, n, none⟩ = false := HQ.out.rd.fz _
          have HNN := Lib.hid hn
          clear hn hc
          have hk4 : k = 0 ∨ k = 1 ∨ k = 2 ∨ k = 3 := by omega
          rcases hk4 with rfl | rfl | rfl | rfl
          · obtain rfl : n = 4 * t := by omega
            have hv := w_bytes x 0 24 16777216 rfl rfl
            go_wp2
            go_roundw
            case rel => exact ⟨1, by omega, by go_num, HN.out⟩
            case measure => simp [intOf]
          · obtain rfl : n = 4 * t + 1 := by omega
            have hv := w_bytes x 1 16 65536 rfl rfl
            go_wp2
            go_roundw
            case rel => exact ⟨2, by omega, by go_num, HN.out⟩
            case measure => simp [intOf]
          · obtain rfl : n = 4 * t + 2 := by omega
            have hv := w_bytes x 2 8 256 rfl rfl
            go_wp2
            go_roundw
            case rel => exact ⟨3, by omega, by go_num, HN.out⟩
            case measure => simp [intOf]
          · obtain rfl : n = 4 * t + 3 := by omega
            have hv := w_bytes x 3 0 1 rfl rfl
            go_wp2
            go_roundw
            case rel => exact ⟨4, by omega, by go_num, HN.out⟩
            case measure => simp [intOf]
        · obtain rfl : k = 4 := by omega
          have HN := Lib.hid (show DgI w b v (4 * (t + 1)) wr from HQ.out)
          go_wp2
          go_roundw
          case rel => exact ⟨t + 1, by omega, by go_num, HN.out⟩
          case measure => simp [intOf]; omega
    · obtain rfl : t = 8 := by omega
      obtain ⟨x3, x4, x5⟩ := rowI (v := digI v) HR.out.rd
      obtain ⟨-, -, ro⟩ := rowI HR.out.ro
      go_wp2
      have hld := load_d (at_setRow (cI (digI v)) ro)
      have hle : w.heap.size ≤ b + 1 := by have := HR.out.size; omega
      exact bodyPost_ret (results_c1 (ad := ⟨b + 1, 0, none⟩) rfl rfl hld) rfl ⟨rfl, Below.setRow HR.out.below hle _⟩
end Go.Proofs.YtecalodcbkljoaaGreatDoor
