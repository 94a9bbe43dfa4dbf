/- Bytes and strings as lists; the classes of bytes. ascii.skip at the class of hexadecimal digits: the offset behind the longest run of them. The plain functions of the commands' texts. command.firstLine. The reference's has. Stuffed texts: the plain laws of the reference's loop. The reference's stuffed. Stuffed texts: plain laws. The library's pieces are those of splitGo. Unstuff: the plain steps of its loop. -/
import Derived.Test.YtibelollgdnidaaGreatDoorMCore
import Derived.Lib.Strings
import Derived.Lib.IndexBytes
import Derived.Test.YtibelollgdnidaaGreatDoorMShelf
import Derived.Lib.SplitLaws
import Derived.Laws.IdiomCopy
namespace Go.Proofs.YtibelollgdnidaaGreatDoor
section
open Go.RowKit
abbrev bl (s : ByteArray) : List UInt8 := s.data.toList
abbrev vB (c : UInt8) : Value := .int .u8 (c.toNat : Int)
def digB (c : UInt8) : Bool := decide (48 ≤ c.toNat) && decide (c.toNat ≤ 57)
def hexB (c : UInt8) : Bool := digB c || (decide (97 ≤ c.toNat) && decide (c.toNat ≤ 102))
def hexV (c : UInt8) : Nat := if c.toNat ≤ 57 then c.toNat - 48 else c.toNat - 87
def hexI (c : UInt8) : Int := if hexB c = true then (hexV c : Int) else -1
theorem ret_bool {a b : Bool} (h : a = b) : Ending.returned (.bool a) = .returned (.bool b) := by rw [h]
theorem ret_int {k : IntKind} {a b : Int} (h : a = b) : Ending.returned (.int k a) = .returned (.int k b) := by rw [h]
theorem byte_all {p : UInt8 → Bool} (h : (List.range 256).all (fun n => p (UInt8.ofNat n)) = true) (c : UInt8) : p c = true := by
 have := List.all_eq_true.1 h c.toNat (List.mem_range.2 c.toNat_lt)
 rwa [UInt8.ofNat_toNat] at this
theorem hexI_index (c : UInt8) : Lib.indexByte [48, 49, 50, 51, 52, 53, 54, 55, 56, 57, 97, 98, 99, 100, 101, 102] c = hexI c :=
 eq_of_beq (byte_all (p := fun c => Lib.indexByte [48, 49, 50, 51, 52, 53, 54, 55, 56, 57, 97, 98, 99, 100, 101, 102] c == hexI c) (by decide +kernel) c)
theorem toUInt8_toNat (c : UInt8) : ((c.toNat : Int)).toNat.toUInt8 = c := by simp
theorem hexV_lt (c : UInt8) (h : hexB c = true) : hexV c < 16 := by
 unfold hexB digB at h
 unfold hexV
 simp at h
 split <;> omega
section
set_option maxHeartbeats 400000
theorem isDigit_b (c : UInt8) (w : World) : Calls Tryz.prog 108 #[vB c] w fun e w' => e = .returned (.bool (digB c)) ∧ w = w' := by
 go_enter Tryz.func108, Tryz.ntmps108
 go_wp2
 all_goals
  go_ret
  exact ⟨ret_bool (by unfold digB; rw [Bool.eq_iff_iff]; simp; try omega), rfl⟩
theorem isHex_b (c : UInt8) (w : World) : Calls Tryz.prog 160 #[vB c] w fun e w' => e = .returned (.bool (hexB c)) ∧ w = w' := by
 have hi : decide (0 ≤ hexI c) = hexB c := by
  unfold hexI
  by_cases h : hexB c = true
  ·rw [if_pos h, h]; simp
  ·rw [if_neg h]; simp at h; simp [h]
 have H := Lib.hid hi; clear hi
 go_enter Tryz.func160, Tryz.ntmps160
 go_wp2_with (go_at_call 99; refine (Tryz.strings_IndexByte _ _ _).mono ?_; rw [toUInt8_toNat, show (⟨#[48, 49, 50, 51, 52, 53, 54, 55, 56, 57, 97, 98, 99, 100, 101, 102]⟩ : ByteArray).data.toList = [48, 49, 50, 51, 52, 53, 54, 55, 56, 57, 97, 98, 99, 100, 101, 102] from rfl, hexI_index]; rintro e w' ⟨rfl, rfl⟩)
 go_ret
 exact ⟨ret_bool H.out, rfl⟩
theorem hexValue_b (c : UInt8) (h : hexB c = true) (w : World) : Calls Tryz.prog 161 #[vB c] w fun e w' => e = .returned (.int .u8 (hexV c : Int)) ∧ w = w' := by
 have hi : hexI c = (hexV c : Int) := by unfold hexI; rw [if_pos h]
 have hv := hexV_lt c h
 have hw : IntKind.u8.wrap (hexV c : Int) = (hexV c : Int) := by simp [IntKind.wrap, IntKind.bits, IntKind.signed]; omega
 go_enter Tryz.func161, Tryz.ntmps161
 go_wp2_with (go_at_call 99; refine (Tryz.strings_IndexByte _ _ _).mono ?_; rw [toUInt8_toNat, show (⟨#[48, 49, 50, 51, 52, 53, 54, 55, 56, 57, 97, 98, 99, 100, 101, 102]⟩ : ByteArray).data.toList = [48, 49, 50, 51, 52, 53, 54, 55, 56, 57, 97, 98, 99, 100, 101, 102] from rfl, hexI_index, hi]; rintro e w' ⟨rfl, rfl⟩)
 go_ret
 exact ⟨by rfl, rfl⟩
end
end
section
open Go.RowKit
def runL (p : UInt8 → Bool) (l : List UInt8) : Nat := (l.takeWhile p).length
theorem bl_drop (s : ByteArray) (j : Nat) (h : j < s.size) : (bl s).drop j = s[j] :: (bl s).drop (j + 1) := by
 rw [List.drop_eq_getElem_cons (by simpa using h)]
 rfl
theorem bl_length (s : ByteArray) : (bl s).length = s.size := (Lib.size_eq s).symm
theorem runL_yes (p : UInt8 → Bool) (s : ByteArray) (j : Nat) (h : j < s.size) (hp : p s[j] = true) : runL p ((bl s).drop j) = runL p ((bl s).drop (j + 1)) + 1 := by
 rw [bl_drop s j h]
 unfold runL
 rw [List.takeWhile_cons, if_pos hp]
 simp
theorem runL_no (p : UInt8 → Bool) (s : ByteArray) (j : Nat) (h : j < s.size) (hp : p s[j] = false) : runL p ((bl s).drop j) = 0 := by
 rw [bl_drop s j h]
 unfold runL
 rw [List.takeWhile_cons, if_neg (by simp [hp])]
 rfl
theorem runL_le (p : UInt8 → Bool) (l : List UInt8) : runL p l ≤ l.length := by
 unfold runL
 exact (List.takeWhile_prefix p).sublist.length_le
theorem runL_end (p : UInt8 → Bool) (s : ByteArray) (j : Nat) (h : s.size ≤ j) : runL p ((bl s).drop j) = 0 := by
 rw [List.drop_eq_nil_of_le (by rw [bl_length]; exact h)]
 rfl
set_option maxHeartbeats 400000 in
theorem skip_hex (s : ByteArray) (k : Nat) (w : World) (hk : k ≤ s.size) (hs : s.size ≤ 4611686018427387904) :
  Calls Tryz.prog 107 #[.string s, .int .i64 (k : Int), .func (.func 160) #[] #[]] w fun e w' => e = .returned (.int .i64 ((k + runL hexB ((bl s).drop k) : Nat) : Int)) ∧ w = w' := by
 go_enter Tryz.func107, Tryz.ntmps107
 go_wp2
 go_loop [1] (fun i => ∃ j : Nat, j ≤ s.size ∧ i = .int .i64 j ∧ k + runL hexB ((bl s).drop k) = j + runL hexB ((bl s).drop j)) (fun i => s.size - (intOf i).toNat)
 case atStart => exact ⟨k, hk, rfl, rfl⟩
 case round =>
  obtain ⟨j, hj, rfl, he⟩ := hrel
  by_cases hlt : j < s.size
  ·rcases hp : hexB s[j] with _ | _
   ·rw [runL_no hexB s j hlt hp] at he
    have HE := Lib.hid he; clear he
    go_wp2_with (go_at_call 160; refine (isHex_b _ _).mono ?_; rintro e w' ⟨rfl, rfl⟩)
    go_ret
    exact ⟨ret_int (by have := HE.out; omega), rfl⟩
   ·rw [runL_yes hexB s j hlt hp] at he
    have HE := Lib.hid he; clear he
    go_wp2_with (go_at_call 160; refine (isHex_b _ _).mono ?_; rintro e w' ⟨rfl, rfl⟩)
    go_round
    case rel => exact ⟨j + 1, hlt, by go_num, by rw [HE.out]; omega⟩
    case measure => simp [intOf]; omega
  ·rw [runL_end hexB s j (by omega)] at he
   have HE := Lib.hid he; clear he
   have hjn : j = s.size := by omega
   subst hjn
   go_wp2
   go_ret
   exact ⟨ret_int (by have := HE.out; omega), rfl⟩
end
section
open Go.RowKit
def splitGo (c : UInt8) : List UInt8 → List UInt8 → List (List UInt8)
 | cur, [] => [cur]
 | cur, x :: xs => if x = c then cur :: splitGo c [] xs else splitGo c (cur ++ [x]) xs
theorem splitGo_ne (c : UInt8) (cur s : List UInt8) : splitGo c cur s ≠ [] := by
 induction s generalizing cur with
 | nil => simp [splitGo]
 | cons x xs ih =>
  simp only [splitGo]
  split
  ·simp
  ·exact ih _
def flGo : UInt8 → List UInt8 → Nat → Int × Nat
 | _, [], _ => (4, 0)
 | last, x :: xs, i =>
  if x = 13 then (if xs ≠ [] ∧ xs.head? ≠ some 10 then (6, 0) else flGo 13 xs (i + 1))
  else if x = 10 then (if last = 13 then (0, i) else (6, 0))
  else flGo x xs (i + 1)
def unGo : Nat → Bool → List UInt8 → Nat → List UInt8 → List UInt8 × Nat × Int
 | 0, _, _, _, _ => ([], 0, 4)
 | fuel + 1, first, text, n, s =>
  match flGo 0 s 0 with
  | (0, k) =>
   let l := s.take (k - 1)
   if l = [46] then (if first then ([], 0, 3) else (text, n + (k + 1), 0))
   else if l.head? = some 46 ∧ l[1]? ≠ some 46 then ([], 0, 3)
   else
    let l' := if l.head? = some 46 then l.drop 1 else l
    let text' := (if first then text else text ++ [10]) ++ l'
    if 262144 < text'.length then ([], 0, 5) else unGo fuel false text' (n + (k + 1)) (s.drop (k + 1))
  | (e, _) => ([], 0, e)
end
section
section
variable {f n k : Nat} {first : Bool} {text : List UInt8} {s L : ByteArray} {X : List UInt8 × Nat × Int}
variable (hk : flGo 0 ((bl s).drop n) 0 = (0, k)) (hL : bl L = ((bl s).drop n).take (k - 1)) (hu : unGo (f + 1) first text n ((bl s).drop n) = X)
include hk hL hu
end
end
open Go.RowKit
def Row (w : World) (b : Nat) (cs : List Value) (t : TypeId) : Prop := w.heap[b]? = some (.cells cs.toArray t (0, 0))
section
variable {w w' : World} {b : Nat} {cs : List Value} {t : TypeId}
theorem Row.cell (h : Row w b cs t) (k : Nat) : w.cell? ⟨b, k, none⟩ = cs[k]? := by
 unfold Row at h
 simp [World.cell?, h]
theorem Row.fz (h : Row w b cs t) (k : Nat) : w.frozen? ⟨b, k, none⟩ = false := by
 unfold Row at h
 simp [World.frozen?, h]
theorem Row.lt (h : Row w b cs t) : b < w.heap.size := (Array.getElem?_eq_some_iff.1 h).1
theorem add_off (b k j : Nat) : (⟨b, k, none⟩ : Addr).add j = ⟨b, k + j, none⟩ := by unfold Addr.add; split <;> simp_all
theorem Row.at_ (h : Row w b cs t) {k n : Nat} {ds : List Value} (hd : (cs.drop k).take n = ds) : At w ⟨b, k, none⟩ ds := by
 refine ⟨h.lt, fun j u hu => ?_⟩
 rw [add_off, h.cell]
 rw [← hd, List.getElem?_take] at hu
 split at hu
 ·rwa [List.getElem?_drop] at hu
 ·cases hu
theorem Row.keep (h : Row w b cs t) (hb : Below w.heap.size w w') : Row w' b cs t := (hb.block b h.lt).trans h
theorem Row.same (h : Row w b cs t) (hb : w'.heap[b]? = w.heap[b]?) : Row w' b cs t := hb.trans h
theorem Row.new (w : World) (cs : List Value) (t : TypeId) : Row (w.alloc (.cells cs.toArray t)) w.heap.size cs t := by
 show (w.heap.push _)[w.heap.size]? = _
 simp
theorem Row.set (h : Row w b cs t) (k : Nat) (v : Value) : Row (w.setCell ⟨b, k, none⟩ v) b (cs.set k v) t := by
 unfold Row at *
 simp only [World.setCell, Array.getElem?_modify, h]
 simp
theorem heap_set_other (w : World) (g k : Nat) (v : Value) (j : Nat) (hj : j ≠ g) : (w.setCell ⟨g, k, none⟩ v).heap[j]? = w.heap[j]? := Below.heap_setCell w _ v j hj
def stD (w : World) (b k : Nat) (ds : List Value) : World := w.setCells b k ds
theorem heap_setCells_other (b : Nat) : ∀ (ds : List Value) (k : Nat) (w : World) (j : Nat), j ≠ b → (w.setCells b k ds).heap[j]? = w.heap[j]?
 | [], _, _, _, _ => rfl
 | v :: r, k, w, j, h => by
  rw [World.setCells, heap_setCells_other b r (k + 1) _ j h]
  exact heap_set_other w b k v j h
theorem heap_stD_other (w : World) (b k : Nat) (ds : List Value) (j : Nat) (h : j ≠ b) : (stD w b k ds).heap[j]? = w.heap[j]? := heap_setCells_other b ds k w j h
theorem setCells_size (b : Nat) : ∀ (ds : List Value) (k : Nat) (w : World), (w.setCells b k ds).heap.size = w.heap.size
 | [], _, _ => rfl
 | v :: r, k, w => by rw [World.setCells, setCells_size b r (k + 1)]; simp [World.setCell]
theorem setCells_os (b : Nat) : ∀ (ds : List Value) (k : Nat) (w : World), (w.setCells b k ds).os = w.os ∧ (w.setCells b k ds).tape = w.tape ∧ (w.setCells b k ds).output = w.output
 | [], _, _ => ⟨rfl, rfl, rfl⟩
 | v :: r, k, w => by rw [World.setCells]; exact setCells_os b r (k + 1) _
theorem Below.stD {B : Nat} {a w : World} (h : Below B a w) {b : Nat} (hb : B ≤ b) (k : Nat) (ds : List Value) : Below B a (stD w b k ds) := by
 obtain ⟨h1, h2, h3⟩ := setCells_os b ds k w
 exact ⟨h1.trans h.os, h2.trans h.tape, h3.trans h.output, Nat.le_trans h.size (Nat.le_of_eq (setCells_size b ds k w).symm), fun j hj => (heap_stD_other w b k ds j (by omega)).trans (h.block j hj)⟩
theorem Row.sets : ∀ (ds : List Value) (k : Nat) {w : World} {cs : List Value}, Row w b cs t → k + ds.length ≤ cs.length → Row (w.setCells b k ds) b (cs.take k ++ ds ++ cs.drop (k + ds.length)) t
 | [], k, w, cs, h, hk => by
  rw [World.setCells]
  simpa using h
 | v :: r, k, w, cs, h, hk => by
  have hk2 : k + 1 + r.length ≤ (cs.set k v).length := by rw [List.length_set]; simp at hk; omega
  have ih := Row.sets r (k + 1) (h.set k v) hk2
  rw [World.setCells]
  have e : (cs.set k v).take (k + 1) ++ r ++ (cs.set k v).drop (k + 1 + r.length) = cs.take k ++ v :: r ++ cs.drop (k + (v :: r).length) := by
   have hlt : k < cs.length := by simp at hk; omega
   rw [List.take_succ_eq_append_getElem (by rw [List.length_set]; exact hlt), List.getElem_set_self, List.take_set_of_le (Nat.le_refl k), List.drop_set_of_lt (by omega), List.length_cons]
   simp only [List.append_assoc, List.cons_append, List.nil_append]
   rw [show k + 1 + r.length = k + (r.length + 1) by omega]
  rwa [e] at ih
theorem Row.stD (h : Row w b cs t) (k : Nat) (ds : List Value) (hk : k + ds.length ≤ cs.length) : Row (stD w b k ds) b (cs.take k ++ ds ++ cs.drop (k + ds.length)) t := Row.sets ds k h hk
end
def stOk (w : World) (b k n : Nat) : Bool := match w.heap[b]? with | some (.cells cs _ (0, 0)) => decide (k + n ≤ cs.size) | _ => false
section
variable {P : Program} (w : World)
theorem Row.ok {b : Nat} {cs : List Value} {t : TypeId} (h : Row w b cs t) (k n : Nat) (hk : k + n ≤ cs.length) : stOk w b k n = true := by
 unfold Row at h
 simp only [stOk, h]
 simpa using hk
theorem run_stA_off (ty : TypeId) (b k : Nat) (ds : List Value) (n : Nat) (h : stOk w b k n = true) (hi : (P.info? ty).map (·.size) = some n) (hn : ds.length = n) (h1 : ∀ v ∈ ds, v.oneCell' = true) :
  (stA ty (.pointer (some ⟨b, k, none⟩)) (.agg ds.toArray)).run P w = .ok () (stD w b k ds) := by
 unfold stOk at h
 split at h
 ·rename_i cs t hg
  have hk : k + n ≤ cs.size := of_decide_eq_true h
  subst hn
  cases hq : P.info? ty with
  | none => simp [hq] at hi
  | some i =>
   have hs : i.size = ds.length := by simpa [hq] using hi
   have hst := run_storeCells_cells (P := P) b k ds 0 w (fun j hj => by simp [World.cell?, hg]; omega) (fun j hj => by simp [World.frozen?, hg]) h1
   simp only [stA, Instr.storeAt, Instr.sureAddr, Sem.run_bind, Sem.run_pure, Result.andThen_ok]
   unfold storeVar
   have hc : (Value.agg ds.toArray).cells = ds.toArray := rfl
   simp [Sem.run_bind, sizeOf, typeInfo, hq, hs, hst, stD, hc]
 ·cases h
end
end Go.Proofs.YtibelollgdnidaaGreatDoor
