/- digest: the reader: ordinal, head. -/
import Derived.Test.YtibelollgdnidaaGreatDoorMRd2
import Derived.Shelf.Strconv.Atoi
import Derived.WideKeyArr
namespace Go.Proofs.YtibelollgdnidaaGreatDoor
open Go.RowKit
theorem below_bytesWorld (w : World) (k : TypeId) (t : ByteArray) : Below w.heap.size w (Lib.bytesWorld w k t) := ⟨rfl, rfl, rfl, by rw [Lib.bytesWorld_size]; omega, fun j hj => Lib.bytesWorld_at_old w _ t j hj⟩
theorem atoi_dg {n : Nat} (h9 : n ≤ 9) : Lib.atoi [dg n] = some (n : Int) := by
 match n, h9 with
 | 0, _ => decide
 | 1, _ => decide
 | 2, _ => decide
 | 3, _ => decide
 | 4, _ => decide
 | 5, _ => decide
 | 6, _ => decide
 | 7, _ => decide
 | 8, _ => decide
 | 9, _ => decide
theorem dec_dg {n : Nat} (h9 : n ≤ 9) : Lib.decDigits n = [dg n] := by
 match n, h9 with
 | 0, _ => decide +kernel
 | 1, _ => decide +kernel
 | 2, _ => decide +kernel
 | 3, _ => decide +kernel
 | 4, _ => decide +kernel
 | 5, _ => decide +kernel
 | 6, _ => decide +kernel
 | 7, _ => decide +kernel
 | 8, _ => decide +kernel
 | 9, _ => decide +kernel
set_option maxRecDepth 100000 in
theorem ordinal74 (n : Nat) (h1 : 1 ≤ n) (h9 : n ≤ 9) (w : World) : Calls Tryz.prog 74 #[.string (tx [dg n])] w fun e w' => e = .returned (.tuple #[.int .i64 (n : Int), .bool true]) ∧ Below w.heap.size w w' := by
 have hA := fun u => Lib.hid (Tryz.strconv_Atoi (tx [dg n]) n (by show 1 ≤ 18; omega) (atoi_dg h9) u)
 have hI := fun u => Lib.hid (Tryz.strconv_Itoa_small n (by omega) u)
 rw [dec_dg h9] at hI
 have hO := fun u => Lib.hid (isOrdinal16 n h1 (by omega) u)
 obtain ⟨y, hy⟩ : ∃ y, tx [dg n] = y := ⟨_, rfl⟩
 rw [show (⟨[dg n].toArray⟩ : ByteArray) = tx [dg n] from rfl] at hI
 rw [hy] at hA hI ⊢
 clear hy
 go_enter Tryz.func74, Tryz.ntmps74
 go_wp2_with (first
  | (go_at_call 114; refine (hA _).out.mono ?_; rintro e w2 ⟨rfl, t, rfl⟩; have B2 := Lib.hid (below_bytesWorld w 5 t); revert B2; generalize Lib.bytesWorld _ _ _ = w2; intro B2)
  | (go_at_call 16; refine (hO _).out.mono ?_; rintro e w3 ⟨rfl, rfl⟩)
  | (go_at_call 58; refine (hI _).out.mono ?_; rintro e w4 ⟨rfl, rfl⟩))
 go_ret2
 exact ⟨rfl, B2.out⟩
def wA : List UInt8 := [32, 68, 105, 103, 101, 115, 116, 44, 32, 86, 111, 108, 117, 109, 101, 32]
def wB : List UInt8 := [44, 32, 73, 115, 115, 117, 101, 32]
def hdL (t : List UInt8) (n : Nat) : List UInt8 := t ++ wA ++ [dg 1] ++ wB ++ [dg n]
structure HdOk (t : List UInt8) (n : Nat) : Prop where
 pl : PlOk (tx t)
 h1 : 1 ≤ t.length
 h2 : t.length ≤ 100
 n1 : 1 ≤ n
 n9 : n ≤ 9
 nl : nlB (hdL t n)
 hli : Lib.lastIndex (hdL t n) wA = (t.length : Int)
 hcu : Lib.cut ([dg 1] ++ wB ++ [dg n]) wB = ([dg 1], [dg n], true)
set_option maxRecDepth 100000 in
theorem head34 (w0 w : World) (b : Nat) (ls : List (List UInt8)) (L : Nat) (t : List UInt8) (n : Nat) (hL : Ldz w0 w) (hR : RdR w b ls L) (ht : HdOk t n) : Calls Tryz.prog 34 #[.pointer (some ⟨b, 0, none⟩), .string (tx (hdL t n))] w fun e w' => e = .returned (.tuple #[.string (tx t), .int .i64 1, .int .i64 (n : Int)]) ∧ Below w.heap.size w w' := by
 have c2 : w.cell? ⟨b, 2, none⟩ = some (.int .i64 0) := hR.cell 2
 have hlen : (hdL t n).length = t.length + 26 := by unfold hdL wA wB; simp
 have hI := fun u => Lib.hid (Tryz.strings_LastIndex (tx (hdL t n)) (tx wA) (by rw [tx_size, hlen]; have := ht.h2; omega) u)
 rw [tx_data, tx_data, ht.hli] at hI
 obtain ⟨m, hm⟩ := hL.len
 have hC := Lib.hid (Tryz.strings_Cut (tx ([dg 1] ++ wB ++ [dg n])) (tx wB) m w (by rw [tx_size]; unfold wB; simp) hm)
 rw [tx_data, tx_data, ht.hcu] at hC
 have hT := fun u => Lib.hid (isTitle15 (tx t) ht.pl ht.h1 ht.h2 u)
 have hO1 := fun u => Lib.hid (ordinal74 1 (by omega) (by omega) u)
 have hOn := fun u => Lib.hid (ordinal74 n ht.n1 ht.n9 u)
 have hs : ((tx (hdL t n)).size : Int) = (t.length : Int) + 26 := by rw [tx_size, hlen]; rfl
 have he1 : (tx (hdL t n)).extract (t.length + 16) (tx (hdL t n)).size = tx ([dg 1] ++ wB ++ [dg n]) := by
  apply bl_inj
  unfold bl
  rw [Lib.extract_data, tx_data, tx_data, tx_size, hlen]
  unfold hdL
  rw [List.append_assoc, List.append_assoc, List.append_assoc, ← List.append_assoc t, show t.length + 16 = (t ++ wA).length by rw [List.length_append]; rfl, List.drop_left, List.take_of_length_le (by simp [wA, wB])]
  rfl
 have he2 : (tx (hdL t n)).extract 0 t.length = tx t := by
  apply bl_inj
  unfold bl
  rw [Lib.extract_data, tx_data, tx_data]
  unfold hdL
  rw [List.append_assoc, List.append_assoc, List.append_assoc, List.drop_zero, Nat.sub_zero, List.take_left]
 have hk : (t.length : Int) ≤ 100 := by have := ht.h2; omega
 obtain ⟨k, hk2⟩ : ∃ k, t.length = k := ⟨_, rfl⟩
 obtain ⟨x, hx⟩ : ∃ x, tx (hdL t n) = x := ⟨_, rfl⟩
 obtain ⟨y, hy⟩ : ∃ y, tx ([dg 1] ++ wB ++ [dg n]) = y := ⟨_, rfl⟩
 obtain ⟨z, hz⟩ : ∃ z, tx t = z := ⟨_, rfl⟩
 obtain ⟨p, hp⟩ : ∃ p, tx [dg n] = p := ⟨_, rfl⟩
 rw [show (⟨[dg 1].toArray⟩ : ByteArray) = tx [dg 1] from rfl, show (⟨[dg n].toArray⟩ : ByteArray) = tx [dg n] from rfl] at hC
 obtain ⟨q, hq⟩ : ∃ q, tx [dg 1] = q := ⟨_, rfl⟩
 rw [hk2, hx] at hI
 rw [hx] at hs he1 he2
 rw [hy] at he1 hC
 rw [hz] at hT he2 ⊢
 rw [hp] at hOn hC
 rw [hq] at hO1 hC
 rw [hx]
 rw [hk2] at hs hk he1 he2
 rw [show tx wA = (⟨#[32, 68, 105, 103, 101, 115, 116, 44, 32, 86, 111, 108, 117, 109, 101, 32]⟩ : ByteArray) from rfl] at hI
 rw [show tx wB = (⟨#[44, 32, 73, 115, 115, 117, 101, 32]⟩ : ByteArray) from rfl] at hC
 clear hk2 hx hy hz hp hq hm hlen ht hL
 have HR := Lib.hid hR
 clear hR
 go_enter Tryz.func34, Tryz.ntmps34
 go_wp2_with (first
  | (go_at_call 71; refine (hI _).out.mono ?_; rintro e w1 ⟨rfl, rfl⟩)
  | (go_at_call 73; refine hC.out.mono ?_; rintro e w2 ⟨rfl, j, rfl⟩; have B2 := Lib.hid (below_drewN w1 j); revert B2; generalize World.drewN _ j = w2; intro B2)
  | (go_at_call 74; refine (usee B2 (hO1 _).out).mono ?_; rintro e w3 ⟨rfl, hb3⟩; have B3 := Lib.hid (Below.step B2.out hb3); clear B2 hb3)
  | (go_at_call 74; refine (usee B3 (hOn _).out).mono ?_; rintro e w4 ⟨rfl, hb4⟩; have B4 := Lib.hid (Below.step B3.out hb4); clear B3 hb4)
  | (go_at_call 15; refine (hT _).out.mono ?_; rintro e w5 ⟨rfl, rfl⟩))
 go_ret3
 exact ⟨rfl, B4.out⟩
open Go.RowKit Go.MapKept
structure It where
 frm : List UInt8
 date : Nat
 subj : List UInt8
 id : Id
 body : List UInt8
def cIt (x : It) : List Value := .string (tx x.frm) :: .int .i64 (x.date : Int) :: .string (tx x.subj) :: (cI x.id ++ [.string (tx x.body)])
def vIt (x : It) : Value := .agg (cIt x).toArray
def aIt (x : It) : Array Value := (cIt x).toArray
def zIt : It := ⟨[], 0, [], zI, []⟩
theorem cIt_length (x : It) : (cIt x).length = 36 := by simp [cIt, cI_length]
theorem cIt_one (x : It) : ∀ u ∈ cIt x, u.oneCell' = true := by
 intro u hu
 simp only [cIt, List.mem_cons, List.mem_append, List.not_mem_nil, or_false] at hu
 rcases hu with rfl | rfl | rfl | h | rfl
 ·rfl
 ·rfl
 ·rfl
 ·exact cI_one _ u h
 ·rfl
theorem aIt_size (x : It) : (aIt x).size = 36 := by simp [aIt, cIt_length]
theorem aIt_one (x : It) : (aIt x).all (·.oneCell') = true := by
 rw [aIt, List.all_toArray]
 exact List.all_eq_true.2 (cIt_one x)
section
variable (w : World) (v : Value)
theorem sizeIt : (Tryz.prog.info? 36).map (·.size) = some 36 := by kernel_rfl
@[go_sem ↓] theorem loadIt : Instr.loadAt 36 v = ldA 36 v := rfl
@[go_sem] theorem run_ldIt (ad : Addr) : (ldA 36 (.pointer (some ad))).run Tryz.prog w = if okA w ad 36 = true then .ok (rdA w ad 36) w else (ldB 36 (.pointer (some ad))).run Tryz.prog w := run_ldA_if w 36 ad 36 _ Tryz.underlying36 rfl sizeIt
@[go_sem ↓] theorem bltIt (parts : Array (Nat × Value)) : Instr.build 36 parts = blA 36 parts := rfl
@[go_sem ↓] theorem boxIt : Instr.box 36 v = bxA 36 v := rfl
@[go_sem] theorem run_bxIt (x : It) : (bxA 36 (vIt x)).run Tryz.prog w = .ok (.pointer (some ⟨w.heap.size, 0, none⟩)) (w.alloc (.cells (aIt x) 36)) := run_bxA w 36 _
@[go_sem ↓] theorem allocIt (h : Bool) : Instr.alloc 36 h v = alA 36 h v := rfl
@[go_sem ↓] theorem storeIt (u : Value) : Instr.storeAt 36 v u = stA 36 v u := rfl
@[go_sem] theorem run_stIt (g : Nat) (x : It) : (stA 36 (.pointer (some ⟨g, 0, none⟩)) (vIt x)).run Tryz.prog w = if rowOk w g 36 = true then .ok () (w.setRow g (aIt x)) else (stB 36 (.pointer (some ⟨g, 0, none⟩)) (vIt x)).run Tryz.prog w := run_stA_if w 36 g (aIt x) 36 sizeIt (aIt_size x) (aIt_one x)
@[go_sem] theorem run_alIt : (alA 36 true (.tuple #[])).run Tryz.prog w = .ok (.pointer (some ⟨w.heap.size, 0, none⟩)) (w.alloc (.cells (aIt zIt) 36)) := by kernel_rfl
@[go_sem] theorem rowOk_nIt (x : It) (ty : TypeId) (g : Nat) (hg : g = w.heap.size) : rowOk (w.alloc (.cells (aIt x) ty)) g 36 = true := rowOk_new w _ ty g 36 hg (aIt_size x)
@[go_sem] theorem okA_nIt (x : It) (ty : TypeId) (g : Nat) (hg : g = w.heap.size) : okA (w.alloc (.cells (aIt x) ty)) ⟨g, 0, none⟩ 36 = true := okA_new w _ ty g 36 hg (cIt_length x)
@[go_sem] theorem rdA_nIt (x : It) (ty : TypeId) (g : Nat) (hg : g = w.heap.size) : rdA (w.alloc (.cells (aIt x) ty)) ⟨g, 0, none⟩ 36 = vIt x := rdA_new w _ ty g 36 hg (cIt_length x)
end
theorem row_it {w : World} {b : Nat} {x : It} {t : TypeId} (h : Row w b (cIt x) t) : okA w ⟨b, 0, none⟩ 36 = true ∧ rdA w ⟨b, 0, none⟩ 36 = vIt x := by
 have := h.at_ (k := 0) (n := 36) (ds := cIt x) (by rw [List.drop_zero, List.take_of_length_le (by rw [cIt_length]; omega)])
 have h1 := this.ok
 have h2 := this.rd
 rw [cIt_length] at h1 h2
 exact ⟨h1, h2⟩
theorem row_itId {w : World} {b : Nat} {x : It} {t : TypeId} (h : Row w b (cIt x) t) : okA w ⟨b, 3, none⟩ 32 = true ∧ rdA w ⟨b, 3, none⟩ 32 = vI x.id := by
 have := h.at_ (k := 3) (n := 32) (ds := cI x.id) (by show (cI x.id ++ _).take 32 = _; rw [← cI_length x.id, List.take_left])
 have h1 := this.ok
 have h2 := this.rd
 rw [cI_length] at h1 h2
 exact ⟨h1, h2⟩
theorem row_itSetId {w : World} {b : Nat} {x : It} {t : TypeId} (h : Row w b (cIt x) t) (y : Id) : (stA 34 (.pointer (some ⟨b, 3, none⟩)) (vI y)).run Tryz.prog w = .ok () (stD w b 3 (cI y)) ∧ Row (stD w b 3 (cI y)) b (cIt { x with id := y }) t := by
 refine ⟨run_stA_off w 34 b 3 (cI y) 32 (Row.ok w h 3 32 (by rw [cIt_length]; omega)) size34 (cI_length y) (cI_one y), ?_⟩
 have := h.stD 3 (cI y) (by rw [cIt_length, cI_length]; omega)
 have e : (cIt x).take 3 ++ cI y ++ (cIt x).drop (3 + (cI y).length) = cIt { x with id := y } := by
  rw [cI_length]
  have e2 : (cIt x).drop (3 + 32) = [Value.string (tx x.body)] := by
   show (cI x.id ++ [Value.string (tx x.body)]).drop 32 = _
   rw [← cI_length x.id, List.drop_left]
  rw [e2]
  show [_, _, _] ++ cI y ++ _ = _
  rw [List.append_assoc]
  rfl
 rw [e] at this
 exact this
theorem row_itBody {w : World} {b : Nat} {x : It} {t : TypeId} (h : Row w b (cIt x) t) : w.cell? ⟨b, 35, none⟩ = some (.string (tx x.body)) := by
 rw [h.cell 35]
 show (cI x.id ++ [Value.string (tx x.body)])[32]? = _
 rw [List.getElem?_append_right (by rw [cI_length]; omega), cI_length]
 rfl
theorem row_itSetBody {w : World} {b : Nat} {x : It} {t : TypeId} (h : Row w b (cIt x) t) (y : List UInt8) : Row (w.setCell ⟨b, 35, none⟩ (.string (tx y))) b (cIt { x with body := y }) t := by
 have := h.set 35 (.string (tx y))
 have e : (cIt x).set 35 (.string (tx y)) = cIt { x with body := y } := by
  show _ :: _ :: _ :: (cI x.id ++ [Value.string (tx x.body)]).set 32 (.string (tx y)) = _
  rw [List.set_append_right _ _ (by rw [cI_length]; omega), cI_length]
  rfl
 rw [e] at this
 exact this
/-! Identities printed and read. -/
theorem textL_len (x : Id) : (textL x).length = 71 := by
 unfold textL
 simp [hexL_length, x.2]
theorem hexB_digC (b : UInt8) : (hexB (digC (b.toNat / 16)) && hexB (digC (b.toNat % 16)) && pairV (digC (b.toNat / 16)) (digC (b.toNat % 16)) == b) = true :=
 byte_all (p := fun b => hexB (digC (b.toNat / 16)) && hexB (digC (b.toNat % 16)) && pairV (digC (b.toNat / 16)) (digC (b.toNat % 16)) == b) (by decide +kernel) b
theorem unhex_hex : ∀ l : List UInt8, unhexL (hexL l) = l
 | [] => rfl
 | b :: r => by
  have h := hexB_digC b
  simp only [Bool.and_eq_true, beq_iff_eq] at h
  have e : hexL (b :: r) = digC (b.toNat / 16) :: digC (b.toNat % 16) :: hexL r := rfl
  rw [e]
  unfold unhexL
  rw [h.2, unhex_hex r]
theorem hexL_hex (l : List UInt8) : (hexL l).all hexB = true := by
 rw [List.all_eq_true]
 intro c hc
 unfold hexL at hc
 obtain ⟨b, _, hb⟩ := List.mem_flatMap.1 hc
 have h := hexB_digC b
 simp only [Bool.and_eq_true] at h
 unfold hexC at hb
 simp only [List.mem_cons, List.not_mem_nil, or_false] at hb
 rcases hb with rfl | rfl
 ·exact h.1.1
 ·exact h.1.2
theorem textL_mid (x : Id) : ((textL x).drop 1).take 64 = hexL x.1 := by
 unfold textL
 rw [List.append_assoc, List.singleton_append, List.drop_succ_cons, List.drop_zero]
 have : (hexL x.1).length = 64 := (digs x).2
 rw [← this, List.take_left]
theorem textL_end (x : Id) : (textL x).drop 65 = [64, 104, 97, 115, 104, 62] := by
 unfold textL
 have : ([60] ++ hexL x.1).length = 65 := by rw [List.length_append, show (hexL x.1).length = 64 from (digs x).2]; rfl
 rw [← this, List.drop_left]
theorem midL_text (x : Id) : midL (textL x) = x := by
 unfold midL
 rw [textL_mid, unhex_hex]
 unfold toId
 rw [dif_pos x.2]
theorem identB_text (x : Id) : identB (textL x) = true := by
 unfold identB
 rw [textL_len, decide_eq_true rfl, Bool.true_and, List.all_eq_true]
 intro i hi
 have hi71 := List.mem_range.1 hi
 unfold okAt
 by_cases h0 : i < 1
 ·obtain rfl : i = 0 := by omega
  rfl
 ·rw [if_neg h0]
  by_cases h65 : i < 65
  ·rw [if_pos h65]
   have hl : (hexL x.1).length = 64 := (digs x).2
   have h2 : ((textL x).drop 1)[i - 1]? = (hexL x.1)[i - 1]? := by rw [← textL_mid, List.getElem?_take_of_lt (by omega)]
   rw [List.getElem?_drop, show 1 + (i - 1) = i by omega, List.getElem?_eq_getElem (show i - 1 < (hexL x.1).length by omega)] at h2
   rw [List.getD_eq_getElem?_getD, h2, Option.getD_some]
   exact List.all_eq_true.1 (hexL_hex x.1) _ (List.getElem_mem _)
  ·rw [if_neg h65]
   have h2 : ((textL x).drop 65)[i - 65]? = [64, 104, 97, 115, 104, 62][i - 65]? := by rw [textL_end]
   rw [List.getElem?_drop, show 65 + (i - 65) = i by omega] at h2
   rw [List.getD_eq_getElem?_getD, h2]
   obtain ⟨j, rfl⟩ : ∃ j, i = 65 + j := ⟨i - 65, by omega⟩
   rw [Nat.add_sub_cancel_left]
   have hj : j < 6 := by omega
   have hall : (List.range 6).all (fun j => decide (([64, 104, 97, 115, 104, 62][j]?.getD (0 : UInt8)).toNat = [64, 104, 97, 115, 104, 62].getD j 0)) = true := by decide
   exact List.all_eq_true.1 hall j (List.mem_range.2 hj)
/-! ### words without spaces -/
/-! Maps from identities. -/
theorem arrKeyI : WideMaps.ArrKey Tryz.prog 34 5 32 := ⟨Tryz.underlying34, by kernel_rfl, by kernel_rfl, by kernel_rfl⟩
theorem keyLawI : WideMaps.KeyLaw Tryz.prog 34 := arrKeyI.law
theorem keyTypeI : Tryz.prog.keyType 34 = true := by kernel_rfl
theorem cellsI32 : Tryz.prog.cellsOf 34 = 32 := by kernel_rfl
theorem typesOne : 1 ≤ Tryz.prog.types.size := by decide +kernel
theorem cells8 : Tryz.prog.cellsOf 5 = 1 := by kernel_rfl
set_option maxRecDepth 100000 in
theorem keyOf_id (x : Id) : ∃ l, keyOf Tryz.prog 34 (vI x) = some l := by
 unfold keyOf
 rw [Tryz.underlying34]
 have hf : (vI x).formed Tryz.prog 34 = true := by
  simp [vI, Value.formed, Tryz.underlying34, cellsI32, cI_length]
 have hk : ∀ d, ∃ L, Tryz.prog.keyLits (d + 2) 34 (cI x) = some L := by
  intro d
  unfold Program.keyLits
  rw [Tryz.underlying34]
  have h1 : (cI x).length = Tryz.prog.cellsOf 34 := by rw [cI_length, cellsI32]
  dsimp only
  rw [if_pos h1]
  have h2 : ∀ i ∈ List.range 32, ∃ y, (Tryz.prog.keyLits (d + 1) 5 (((cI x).drop (i * Tryz.prog.cellsOf 5)).take (Tryz.prog.cellsOf 5))) = some y := by
   intro i hi
   have hi := List.mem_range.1 hi
   rw [cells8, Nat.mul_one]
   have hx : i < x.1.length := by rw [x.2]; exact hi
   have e : ((cI x).drop i).take 1 = [.int .u8 ((x.1[i].toNat : Nat) : Int)] := by
    have hl : i < (cI x).length := by rw [cI_length]; exact hi
    rw [List.drop_eq_getElem_cons hl, List.take_succ_cons, List.take_zero]
    congr 1
    simp [cI, cB]
   rw [e]
   unfold Program.keyLits
   rw [Tryz.underlying5]
   have hb := x.1[i].toNat_lt
   refine ⟨[.int .u8 ((x.1[i].toNat : Nat) : Int)], ?_⟩
   dsimp only
   rw [if_pos ⟨rfl, by have e1 : IntKind.min .u8 = 0 := rfl; have e2 : IntKind.max .u8 = 255 := rfl; simp only [Lit.wf, e1, e2, Bool.and_eq_true, decide_eq_true_eq]; omega⟩]
  rw [ChangeMaps.mapM_total [] h2]
  exact ⟨_, rfl⟩
 rw [if_pos (by rw [keyTypeI, hf]; rfl)]
 obtain ⟨n, hn⟩ : ∃ n, Tryz.prog.types.size + 1 = n + 2 := ⟨Tryz.prog.types.size - 1, by have := typesOne; omega⟩
 rw [hn]
 obtain ⟨L, hL⟩ := hk n
 have : (vI x).cells.toList = cI x := rfl
 rw [this, hL]
 exact ⟨_, rfl⟩
def IdS (w : World) (r : Nat) (ids : List Id) : Prop := ∃ es clock, w.heap[r]? = some (.map es clock) ∧ es.toList.map (fun e => (e.key, e.val)) = ids.map (fun x => (vI x, Value.bool true))
theorem vI_inj {a b : Id} (h : vI a = vI b) : a = b := by
 have h1 : cI a = cI b := by
  have := congrArg (fun v => v.cells.toList) h
  exact this
 have h2 : a.1 = b.1 := by
  unfold cI at h1
  refine (List.map_inj_right ?_).1 h1
  intro p q e
  have : (p.toNat : Int) = q.toNat := by injection e
  exact UInt8.toNat_inj.1 (by omega)
 exact Subtype.ext h2
theorem underM : Tryz.prog.underlying 59 = some (.map 34 4) := by kernel_rfl
theorem IdS.made (w : World) : IdS (w.alloc (.map #[] 0)) w.heap.size [] := ⟨#[], 0, (heap_alloc w _).1, rfl⟩
section
variable {w w' : World} {r : Nat} {ids : List Id}
theorem IdS.lt (h : IdS w r ids) : r < w.heap.size := by
 obtain ⟨es, c, h1, -⟩ := h
 exact (Array.getElem?_eq_some_iff.1 h1).1
theorem IdS.same (h : IdS w r ids) (hb : w'.heap[r]? = w.heap[r]?) : IdS w' r ids := by
 obtain ⟨es, c, h1, h2⟩ := h
 exact ⟨es, c, by rw [hb]; exact h1, h2⟩
theorem IdS.keep (h : IdS w r ids) (hb : Below w.heap.size w w') : IdS w' r ids := h.same (hb.block r h.lt)
theorem IdS.keys {es : Array MapEntry} (h2 : es.toList.map (fun e => (e.key, e.val)) = ids.map (fun x => (vI x, Value.bool true))) : (∀ e ∈ es.toList, ∃ x ∈ ids, e.key = vI x ∧ e.val = .bool true) ∧ ∀ x ∈ ids, ∃ e ∈ es.toList, e.key = vI x := by
 constructor
 ·intro e he
  have : (e.key, e.val) ∈ ids.map (fun x => (vI x, Value.bool true)) := by rw [← h2]; exact List.mem_map.2 ⟨e, he, rfl⟩
  obtain ⟨x, hx, e2⟩ := List.mem_map.1 this
  injection e2 with a b
  exact ⟨x, hx, a.symm, b.symm⟩
 ·intro x hx
  have : (vI x, Value.bool true) ∈ es.toList.map (fun e => (e.key, e.val)) := by rw [h2]; exact List.mem_map.2 ⟨x, hx, rfl⟩
  obtain ⟨e, he, e2⟩ := List.mem_map.1 this
  injection e2 with a b
  exact ⟨e, he, a⟩
theorem IdS.len (h : IdS w r ids) : (Builtin.len_ #[59] 3 #[.map (some r)]).run Tryz.prog w = .ok (.int .i64 (ids.length : Int)) w := by
 obtain ⟨es, c, h1, h2⟩ := h
 have hz : es.size = ids.length := by have := congrArg List.length h2; simpa using this
 simp [Builtin.len_, run_underlying underM, Go.MapKept.run_getObj_map h1, Result.andThen, hz, goInt]
theorem IdS.no (h : IdS w r ids) (x : Id) (hx : x ∉ ids) : (Instr.lookup 59 (.map (some r)) (vI x) false).run Tryz.prog w = .ok (.bool false) w := by
 obtain ⟨es, c, h1, h2⟩ := h
 obtain ⟨l, hl⟩ := keyOf_id x
 obtain ⟨k1, k2⟩ := IdS.keys h2
 rcases keyLawI.find w hl es.toList (fun e he => by obtain ⟨y, _, e1, _⟩ := k1 e he; rw [e1]; exact keyOf_id y) with ⟨f1, f2⟩ | ⟨j, e, f1, f2, f3⟩
 ·have hz : (zeroValue 4).run Tryz.prog w = .ok (.bool false) w := by kernel_rfl
  simp [Instr.lookup, run_underlying underM, Go.MapKept.run_getObj_map h1, keyLawI.check w _ hl, f1, hz, Result.andThen]
 ·obtain ⟨y, hy, e1, _⟩ := k1 e (List.mem_of_getElem? f2)
  rw [f3] at e1
  exact absurd (by rw [vI_inj e1]; exact hy) hx
theorem IdS.yes (h : IdS w r ids) (x : Id) (hx : x ∈ ids) : (Instr.lookup 59 (.map (some r)) (vI x) false).run Tryz.prog w = .ok (.bool true) w := by
 obtain ⟨es, c, h1, h2⟩ := h
 obtain ⟨l, hl⟩ := keyOf_id x
 obtain ⟨k1, k2⟩ := IdS.keys h2
 rcases keyLawI.find w hl es.toList (fun e he => by obtain ⟨y, _, e1, _⟩ := k1 e he; rw [e1]; exact keyOf_id y) with ⟨f1, f2⟩ | ⟨j, e, f1, f2, f3⟩
 ·obtain ⟨e, he, e1⟩ := k2 x hx
  exact absurd e1 (f2 e he)
 ·obtain ⟨y, hy, e1, e2⟩ := k1 e (List.mem_of_getElem? f2)
  simp [Instr.lookup, run_underlying underM, Go.MapKept.run_getObj_map h1, keyLawI.check w _ hl, f1, e2, Result.andThen]
theorem IdS.put (h : IdS w r ids) (x : Id) (hx : x ∉ ids) : ∃ w', (Instr.mapUpdate 59 (.map (some r)) (vI x) (.bool true)).run Tryz.prog w = .ok () w' ∧ IdS w' r (ids ++ [x]) ∧ One r w w' := by
 obtain ⟨es, c, h1, h2⟩ := h
 obtain ⟨l, hl⟩ := keyOf_id x
 obtain ⟨k1, k2⟩ := IdS.keys h2
 rcases keyLawI.find w hl es.toList (fun e he => by obtain ⟨y, _, e1, _⟩ := k1 e he; rw [e1]; exact keyOf_id y) with ⟨f1, f2⟩ | ⟨j, e, f1, f2, f3⟩
 ·refine ⟨{ w with heap := w.heap.setIfInBounds r (.map (es.push { key := vI x, val := .bool true, born := c }) (c + 1)) }, ?_, ⟨_, _, (heap_set h1).1, ?_⟩, ⟨rfl, rfl, rfl, by simp, fun k hk hne => (heap_set h1).2 k hne⟩⟩
  ·simp [Instr.mapUpdate, run_underlying underM, Go.MapKept.run_getObj_map h1, keyLawI.check w _ hl, f1, Go.MapKept.run_setObj_map _ h1, Result.andThen]
  ·rw [Array.toList_push, List.map_append, h2, List.map_append]
   rfl
 ·obtain ⟨y, hy, e1, _⟩ := k1 e (List.mem_of_getElem? f2)
  rw [f3] at e1
  exact absurd (by rw [vI_inj e1]; exact hy) hx
end
open Go.RowKit
def piecesL (s : List UInt8) : List (List UInt8) := splitGo 10 [] s
def itF (x : It) : List UInt8 := [70, 114, 111, 109, 58, 32] ++ x.frm
def itD (x : It) : List UInt8 := [68, 97, 116, 101, 58, 32] ++ dayT x.date
def itS (x : It) : List UInt8 := [83, 117, 98, 106, 101, 99, 116, 58, 32] ++ x.subj
def itM (x : It) : List UInt8 := [77, 101, 115, 115, 97, 103, 101, 45, 73, 68, 58, 32] ++ textL x.id
def itR (x : It) (ls : List (List UInt8)) : List (List UInt8) := itD x :: itS x :: itM x :: [] :: ((piecesL x.body).map protL ++ sepL :: ls)
structure ItOk (x : It) : Prop where
 pf : PlOk (tx x.frm)
 f1 : 1 ≤ x.frm.length
 d : x.date ≤ 1439
 ps : PlOk (tx x.subj)
 nf : nlB x.frm
 ns : nlB x.subj
 id : x.id ≠ zI
 cr : (13 : UInt8) ∉ x.body
 sz : x.body.length ≤ 200
section
set_option maxRecDepth 100000
theorem item80 (w : World) (mb ib r : Nat) (x : It) (ids : List Id) (y : Id) (hm : w.cell? ⟨mb, 0, none⟩ = some (.map (some r))) (hI : IdS w r ids) (hi : Row w ib (cIt x) 36) (hy : y ∉ ids) (hz : y ≠ zI) (hmb : mb < w.heap.size) : Calls Tryz.prog 80 #[.string (tx (textL y)), .pointer (some ⟨mb, 0, none⟩), .pointer (some ⟨ib, 0, none⟩)] w fun e w' => e = .returned (.bool true) ∧ Row w' ib (cIt { x with id := y }) 36 ∧ One ib w w' := by
 have hP := fun u => mparse_yes (tx (textL y)) u (identB_text y)
 rw [show midL (bl (tx (textL y))) = y from midL_text y] at hP
 obtain ⟨t, ht⟩ : ∃ t, tx (textL y) = t := ⟨_, rfl⟩
 rw [ht] at hP ⊢
 have HP := fun u => Lib.hid (hP u)
 have HI := Lib.hid (And.intro hI (And.intro hi hmb))
 have hd : decide (y = zI) = false := decide_eq_false hz
 have HY := Lib.hid hy
 have HM := Lib.hid hm
 clear hP ht hI hi hmb hz hy hm
 go_enter Tryz.func80, Tryz.ntmps80
 go_wp2_with (go_at_call 81; refine (HP _).out.mono ?_; rintro e w1 ⟨rfl, hb1⟩; have hbb := Below.step hb1 (below_alloc w1 (.cells (aI y) 34)); have B1 := Lib.hid hbb; have hmc : (w1.alloc (.cells (aI y) 34)).cell? ⟨mb, 0, none⟩ = some (.map (some r)) := cell_below HM.out hbb; have hlk := (HI.out.1.keep hbb).no y HY.out; have hst := row_itSetId (HI.out.2.1.keep hbb) y; have hs1 := hst.1; have R1 := Lib.hid hst.2; clear hst hb1 hbb)
 go_ret
 exact ⟨rfl, R1.out, (One.of_below B1.out).trans (One.stD 3 _)⟩
theorem value_id (w : World) (b : Nat) (ls : List (List UInt8)) (L : Nat) (x : It) (y : Id) (mb ib r : Nat) (ids : List Id) (hR : RdR w b ls L) (hm : w.cell? ⟨mb, 0, none⟩ = some (.map (some r))) (hI : IdS w r ids) (hi : Row w ib (cIt x) 36) (hy : y ∉ ids) (hz : y ≠ zI) (hmb : mb < w.heap.size) (hbi : b ≠ ib) : Calls Tryz.prog 75 #[.pointer (some ⟨b, 0, none⟩), .string (tx ([77, 101, 115, 115, 97, 103, 101, 45, 73, 68, 58, 32] ++ textL y)), .string ⟨#[77, 101, 115, 115, 97, 103, 101, 45, 73, 68, 58, 32]⟩, .func (.func 80) #[] #[.pointer (some ⟨mb, 0, none⟩), .pointer (some ⟨ib, 0, none⟩)]] w fun e w' => e = .returned (.string (tx (textL y))) ∧ Row w' ib (cIt { x with id := y }) 36 ∧ One ib w w' := by
 have H := Lib.hid hR
 have HC := fun u => Lib.hid (cutp ([77, 101, 115, 115, 97, 103, 101, 45, 73, 68, 58, 32] ++ textL y) (textL y) ⟨#[77, 101, 115, 115, 97, 103, 101, 45, 73, 68, 58, 32]⟩ rfl u)
 have HF := Lib.hid (item80 w mb ib r x ids y hm hI hi hy hz hmb)
 obtain ⟨z, hz2⟩ : ∃ z, tx (textL y) = z := ⟨_, rfl⟩
 rw [hz2] at HC HF ⊢
 obtain ⟨u, hu⟩ : ∃ u, tx ([77, 101, 115, 115, 97, 103, 101, 45, 73, 68, 58, 32] ++ textL y) = u := ⟨_, rfl⟩
 rw [hu] at HC ⊢
 have HB := Lib.hid hbi
 clear hu hz2 hR hm hI hi hy hz hmb hbi
 go_enter Tryz.func75, Tryz.ntmps75
 go_wp2_with (first
  | (go_at_call 115; refine (HC _).out.mono ?_; rintro e w2 ⟨rfl, rfl⟩; have c2 : w2.cell? ⟨b, 2, none⟩ = some (.int .i64 0) := H.out.cell 2)
  | (go_at_call 80; refine HF.out.mono ?_; rintro e w3 ⟨rfl, hr3, ho3⟩; have H3 := Lib.hid (And.intro hr3 ho3); clear hr3 ho3))
 go_ret
 exact ⟨rfl, H3.out.1, H3.out.2⟩
end
structure ItW (w0 w : World) (b r k : Nat) (ids : List Id) (x : It) (ls : List (List UInt8)) (L : Nat) (W : World) : Prop where
 rd : RdR W b ls L
 it : Row W (k + 1 + 1) (cIt x) 36
 mb : W.cell? ⟨k, 0, none⟩ = some (.map (some r))
 res : Row W (k + 1) (cIt zIt) 36
 one : One b w W
 ids : IdS W r ids
 ldz : Ldz w0 W
 hb : w0.heap.size ≤ b
 bk : b < k
 rk : r < k
 rb : r ≠ b
 kw : k < W.heap.size
section
variable {w0 w W W' : World} {b r k : Nat} {ids : List Id} {x : It} {ls ls' : List (List UInt8)} {L L' : Nat}
theorem ItW.next (h : ItW w0 w b r k ids x ls L W) (hr : RdR W' b ls' L') (ho : One b W W') : ItW w0 w b r k ids x ls' L' W' :=
 ⟨hr, ho.row h.it (by have := h.bk; omega), by
  have := ho.out k h.kw (by have := h.bk; omega)
  have hm := h.mb
  unfold World.cell? at hm ⊢
  rw [this]
  exact hm, ho.row h.res (by have := h.bk; omega), h.one.trans ho, h.ids.same (ho.out r h.ids.lt h.rb), h.ldz.one ho h.hb, h.hb, h.bk, h.rk, h.rb, Nat.lt_of_lt_of_le h.kw ho.size⟩
theorem ItW.below (h : ItW w0 w b r k ids x ls L W) (hb : Below W.heap.size W W') : ItW w0 w b r k ids x ls L W' := h.next (Row.keep h.rd hb) (One.of_below hb)
theorem ItW.turn (h : ItW w0 w b r k ids x ls L W) {y : It} (hr : Row W' (k + 1 + 1) (cIt y) 36) (ho : One (k + 1 + 1) W W') (hw : w.heap.size ≤ k) : ItW w0 w b r k ids y ls L W' :=
 ⟨ho.row h.rd (by have := h.bk; omega), hr, by
  have := ho.out k h.kw (by omega)
  have hm := h.mb
  unfold World.cell? at hm ⊢
  rw [this]
  exact hm, ho.row h.res (by omega), ⟨ho.os.trans h.one.os, ho.tape.trans h.one.tape, ho.output.trans h.one.output, Nat.le_trans h.one.size ho.size, fun j hj hne => (ho.out j (Nat.lt_of_lt_of_le hj h.one.size) (by omega)).trans (h.one.out j hj hne)⟩, h.ids.same (ho.out r h.ids.lt (by have := h.rk; omega)), ⟨h.ldz.max, h.ldz.tab, h.ldz.bel.trans (ho.below (by have := h.hb; have := h.bk; omega) h.ldz.bel.size)⟩, h.hb, h.bk, h.rk, h.rb, Nat.lt_of_lt_of_le h.kw ho.size⟩
end
theorem pieces_nl (s : List UInt8) : ∀ l ∈ piecesL s, nlB l := split_nl s [] (by unfold nlB; simp)
theorem pieces_cr {s : List UInt8} (h : (13 : UInt8) ∉ s) : ∀ l ∈ piecesL s, (13 : UInt8) ∉ l := split_cr s h [] (by simp)
theorem join_go (s : List UInt8) : ∀ cur, Lib.join (splitGo 10 cur s) [10] = cur ++ s := by
 induction s with
 | nil => intro cur; simp [splitGo, Lib.join]
 | cons c s ih =>
  intro cur
  rw [splitGo]
  split
  ·rename_i h
   subst h
   have hne : splitGo 10 [] s ≠ [] := splitGo_ne 10 [] s
   obtain ⟨p, q, hpq⟩ : ∃ p q, splitGo 10 [] s = p :: q := by
    cases hc : splitGo 10 [] s with
    | nil => exact absurd hc hne
    | cons p q => exact ⟨p, q, rfl⟩
   have := ih []
   rw [hpq] at this ⊢
   show cur ++ ([10] ++ Lib.join (p :: q) [10]) = _
   rw [this]
   simp
  ·rw [ih]
   simp
theorem load_it {w : World} {ad : Addr} {x : It} (h : At w ad (cIt x)) : (loadVar 36 ad).run Tryz.prog w = .ok (vIt x) w :=
 run_loadVar_at w ad 36 (cIt x) _ h Tryz.underlying36 rfl (by rw [cIt_length]; exact sizeIt)
theorem One.low {b B : Nat} {w w' w'' : World} (h : One b w w') (hB : Below B w' w'') (hw : w.heap.size ≤ B) : One b w w'' :=
 ⟨hB.os.trans h.os, hB.tape.trans h.tape, hB.output.trans h.output, Nat.le_trans h.size hB.size, fun j hj hne => (hB.block j (by omega)).trans (h.out j hj hne)⟩
theorem lnT_tl {x : List UInt8} {l : List (List UInt8)} {n : Nat} (h : (lnT (x :: l)).length ≤ n) : (lnT l).length ≤ n := by
 rw [lnT_cons, List.length_append, List.length_cons] at h
 omega
theorem rowOk_row {w : World} {b : Nat} {cs : List Value} {t : TypeId} (h : Row w b cs t) (n : Nat) (hn : cs.length = n) : rowOk w b n = true := by
 unfold Row at h
 unfold rowOk
 rw [h]
 simpa using hn
theorem lt_pieces {s : List UInt8} : ∀ cur : List UInt8, ∀ l ∈ splitGo 10 cur s, l.length ≤ cur.length + s.length := by
 induction s with
 | nil => intro cur l hl; simp only [splitGo, List.mem_singleton] at hl; rw [hl]; exact Nat.le_refl _
 | cons c s ih =>
  intro cur l hl
  rw [splitGo] at hl
  split at hl
  ·rcases List.mem_cons.1 hl with rfl | hl
   ·omega
   ·have := ih [] l hl
    simp only [List.length_nil, List.length_cons] at this ⊢
    omega
  ·have := ih _ l hl
   simp only [List.length_append, List.length_cons, List.length_nil] at this ⊢
   omega
theorem num_pieces {s : List UInt8} : ∀ cur : List UInt8, (splitGo 10 cur s).length ≤ s.length + 1 := by
 induction s with
 | nil => intro cur; simp [splitGo]
 | cons c s ih =>
  intro cur
  rw [splitGo]
  split
  ·have := ih []
   simp only [List.length_cons]
   omega
  ·have := ih (cur ++ [c])
   simp only [List.length_cons]
   omega
theorem nl_cons9 {s : List UInt8} (h : nlB s) : nlB ([83, 117, 98, 106, 101, 99, 116, 58, 32] ++ s) := by
 unfold nlB at *
 intro hm
 rcases List.mem_append.1 hm with hm | hm
 ·exact absurd hm (by decide)
 ·exact h hm
theorem nl_mid (x : Id) : nlB ([77, 101, 115, 115, 97, 103, 101, 45, 73, 68, 58, 32] ++ textL x) := by
 unfold nlB
 intro hm
 rcases List.mem_append.1 hm with hm | hm
 ·exact absurd hm (by decide)
 ·unfold textL at hm
  rcases List.mem_append.1 hm with hm | hm
  ·rcases List.mem_append.1 hm with hm | hm
   ·exact absurd hm (by decide)
   ·have := List.all_eq_true.1 (hexL_hex x.1) _ hm
    exact absurd this (by decide)
  ·exact absurd hm (by decide)
set_option maxRecDepth 100000 in
set_option maxHeartbeats 1600000 in
theorem item40 (w0 w : World) (b r : Nat) (x : It) (ids : List Id) (ls : List (List UInt8)) (L : Nat) (hL : Ldz w0 w) (hR : RdR w b (itR x ls) L) (hI : IdS w r ids) (hx : ItOk x) (hy : x.id ∉ ids) (hn8 : ids.length ≤ 100) (hs : (lnT (itR x ls)).length ≤ 1000000) (hn : L ≤ 1000000) (hb : w0.heap.size ≤ b) (hrb : r ≠ b) : Calls Tryz.prog 40 #[.pointer (some ⟨b, 0, none⟩), .string (tx (itF x)), .map (some r)] w fun e w' => e = .returned (vIt x) ∧ RdR w' b ls (L + 5 + (piecesL x.body).length) ∧ One b w w' := by
 have hbw : b < w.heap.size := hR.lt
 have hrw : r < w.heap.size := hI.lt
 have B3 : Below w.heap.size w (((w.alloc (.cells #[.map (some r)] 59)).alloc (.cells (aIt zIt) 36)).alloc (.cells (aIt zIt) 36)) := Below.step (Below.step (below_alloc _ _) (below_alloc _ _)) (below_alloc _ _)
 have R1 := Row.new w [.map (some r)] 59
 have R2 := Row.new (w.alloc (.cells #[.map (some r)] 59)) (cIt zIt) 36
 have R3 := Row.new ((w.alloc (.cells #[.map (some r)] 59)).alloc (.cells (aIt zIt) 36)) (cIt zIt) 36
 simp only [World.size_alloc] at R2 R3
 have S0' : ItW w0 w b r w.heap.size ids zIt (itR x ls) L (((w.alloc (.cells #[.map (some r)] 59)).alloc (.cells (aIt zIt) 36)).alloc (.cells (aIt zIt) 36)) :=
  ⟨Row.keep hR B3, R3, ((R1.keep (below_alloc _ (.cells (aIt zIt) 36))).keep (below_alloc _ (.cells (aIt zIt) 36))).cell 0, R2.keep (below_alloc _ (.cells (aIt zIt) 36)), One.of_below B3, hI.keep B3, hL.keep B3, hb, hbw, hrw, hrb, by simp only [World.size_alloc]; omega⟩
 have hlen := S0'.ids.len
 have hmb := S0'.mb
 have S0 := Lib.hid S0'
 have HX := Lib.hid hx
 have HN := Lib.hid (And.intro hy (And.intro hs (And.intro hn hb)))
 have HP := Lib.hid (And.intro (num_pieces (s := x.body) []) (And.intro (pieces_nl x.body) (And.intro (pieces_cr hx.cr) (lt_pieces (s := x.body) []))))
 have hids : (ids.length : Int) < 200 := by omega
 clear S0' B3 R1 R2 R3 hL hR hI hx hy hs hb hrb hrw
 go_enter Tryz.func40, Tryz.ntmps40
 go_wp2_with (first
  | (go_at_call 75; refine (usee S0 (value_from _ b _ L (itF x) x.frm _ S0.out.rd rfl HX.out.pf HX.out.f1)).mono ?_; rintro e w4 ⟨rfl, hb4⟩; have S1 := Lib.hid (S0.out.below hb4); have f1 : w4.frozen? ⟨w.heap.size + 1 + 1, 0, none⟩ = false := S1.out.it.fz 0; have c1 : w4.cell? ⟨w.heap.size + 1 + 1, 0, none⟩ = some (.string (tx [])) := S1.out.it.cell 0; have S2 := Lib.hid (S1.out.turn (y := { zIt with frm := x.frm }) (S1.out.it.set 0 (.string (tx x.frm))) (One.set 0 _) (Nat.le_refl _)); clear hb4 S1; clear S0)
  | (go_at_call 36; refine (usee S2 (date36 w0 _ b x.date _ L S2.out.ldz S2.out.rd (Nat.le_trans (HN.out.2.1) (by decide)) (by omega) HN.out.2.2.2 HX.out.d)).mono ?_; rintro e w5 ⟨rfl, hr5, ho5⟩; have S3 := Lib.hid (S2.out.next hr5 ho5); have f3 : w5.frozen? ⟨w.heap.size + 1 + 1, 1, none⟩ = false := S3.out.it.fz 1; have c3 : w5.cell? ⟨w.heap.size + 1 + 1, 1, none⟩ = some (.int .i64 0) := S3.out.it.cell 1; have S4 := Lib.hid (S3.out.turn (y := { zIt with frm := x.frm, date := x.date }) (S3.out.it.set 1 (.int .i64 (x.date : Int))) (One.set 1 _) (Nat.le_refl _)); clear hr5 ho5 S3; clear S2)
  | (go_at_call 35; refine (usee S4 (next35 w0 _ b (itS x) _ (L + 1) S4.out.ldz S4.out.rd (nl_cons9 HX.out.ns) (Nat.le_trans (lnT_tl HN.out.2.1) (by decide)) (by omega) HN.out.2.2.2)).mono ?_; rintro e w6 ⟨rfl, hr6, ho6⟩; have S5 := Lib.hid (S4.out.next hr6 ho6); clear hr6 ho6; clear S4)
  | (go_at_call 75; refine (usee S5 (value_subj _ b _ (L + 1 + 1) (itS x) x.subj _ S5.out.rd rfl HX.out.ps)).mono ?_; rintro e w7 ⟨rfl, hb7⟩; have S6 := Lib.hid (S5.out.below hb7); have f6 : w7.frozen? ⟨w.heap.size + 1 + 1, 2, none⟩ = false := S6.out.it.fz 2; have c6 : w7.cell? ⟨w.heap.size + 1 + 1, 2, none⟩ = some (.string (tx [])) := S6.out.it.cell 2; have S7 := Lib.hid (S6.out.turn (y := { zIt with frm := x.frm, date := x.date, subj := x.subj }) (S6.out.it.set 2 (.string (tx x.subj))) (One.set 2 _) (Nat.le_refl _)); clear hb7 S6; clear S5)
  | (go_at_call 35; refine (usee S7 (next35 w0 _ b (itM x) _ (L + 1 + 1) S7.out.ldz S7.out.rd (nl_mid x.id) (Nat.le_trans (lnT_tl (lnT_tl HN.out.2.1)) (by decide)) (by omega) HN.out.2.2.2)).mono ?_; rintro e w8 ⟨rfl, hr8, ho8⟩; have S8 := Lib.hid (S7.out.next hr8 ho8); clear hr8 ho8; clear S7)
  | (go_at_call 75; refine (usee S8 (value_id _ b _ (L + 1 + 1 + 1) _ x.id w.heap.size (w.heap.size + 1 + 1) r ids S8.out.rd S8.out.mb S8.out.ids S8.out.it HN.out.1 HX.out.id S8.out.kw (by omega))).mono ?_; rintro e w9 ⟨rfl, hr9, ho9⟩; have S9 := Lib.hid (S8.out.turn hr9 ho9 (Nat.le_refl _)); clear hr9 ho9; clear S8)
  | (go_at_call 37; refine (usee S9 (exactly37 w0 _ b [] _ (L + 1 + 1 + 1) S9.out.ldz S9.out.rd (by unfold nlB; simp) (Nat.le_trans (lnT_tl (lnT_tl (lnT_tl HN.out.2.1))) (by decide)) (by omega) HN.out.2.2.2 _ rfl)).mono ?_; rintro e w10 ⟨rfl, hr10, ho10⟩; have S10 := Lib.hid (S9.out.next hr10 ho10); clear hr10 ho10; clear S9)
  | (go_at_call 82; refine (usee S10 (body82 w0 _ b (piecesL x.body) ls (L + 1 + 1 + 1 + 1) S10.out.ldz S10.out.rd (fun y hy => ⟨HP.out.2.1 y hy, HP.out.2.2.1 y hy, by have := HP.out.2.2.2 y hy; have := HX.out.sz; simp only [List.length_nil] at *; omega⟩) (splitGo_ne _ _ _) (Nat.le_trans (lnT_tl (lnT_tl (lnT_tl (lnT_tl HN.out.2.1)))) (by decide)) (by have := HP.out.1; have := HX.out.sz; unfold piecesL; omega) (by rw [piecesL, join_go]; have := HX.out.sz; simp only [List.nil_append]; omega) HN.out.2.2.2)).mono ?_; rw [show Lib.join (piecesL x.body) [10] = x.body from join_go x.body []]; rintro e w11 ⟨rfl, hr11, ho11⟩; have S11 := Lib.hid (S10.out.next hr11 ho11); have f11 : w11.frozen? ⟨w.heap.size + 1 + 1, 35, none⟩ = false := S11.out.it.fz 35; have c11 := row_itBody S11.out.it; have S12 := Lib.hid (S11.out.turn (y := x) (row_itSetBody S11.out.it x.body) (One.set 35 _) (Nat.le_refl _)); have hit := row_it S12.out.it; have hk1 := hit.1; have hk2 := hit.2; have hro := rowOk_row S12.out.res 36 (cIt_length _); clear hit hr11 ho11 S11; clear S10)
  | (fail))
 have hat := at_setRow (cIt x) hro
 have hld := load_it hat
 have hB : Below (w.heap.size + 1) _ _ := Below.setRow (Below.refl _ (w11.setCell ⟨w.heap.size + 1 + 1, 35, none⟩ (.string (tx x.body)))) (Nat.le_refl _) (cIt x).toArray
 have hr := Row.same S12.out.rd (hB.block b (by omega))
 have ho := One.low S12.out.one hB (by omega)
 rw [show L + 1 + 1 + 1 + 1 + (piecesL x.body).length + 1 = L + 5 + (piecesL x.body).length by omega] at hr
 exact bodyPost_ret (results_c1 (ad := ⟨w.heap.size + 1, 0, none⟩) rfl rfl hld) rfl ⟨rfl, hr, ho⟩
end Go.Proofs.YtibelollgdnidaaGreatDoor
