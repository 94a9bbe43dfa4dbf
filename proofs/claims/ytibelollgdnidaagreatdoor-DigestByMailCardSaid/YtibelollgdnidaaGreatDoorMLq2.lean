/- DigestByMail: the items of the letters, their sizes, how they are built and compared. -/
import Derived.Test.YtibelollgdnidaaGreatDoorMKn1
import Derived.Laws.StructEq
namespace Go.Proofs.YtibelollgdnidaaGreatDoor
open Go.RowKit
set_option maxRecDepth 100000 in
theorem neqIt (x : It) (w : World) : (binOp .neq 36 (vIt x) (vIt x)).run Tryz.prog w = .ok (.bool false) w := by
 have h0 : (cIt x)[0]? = some (.string (tx x.frm)) := rfl
 have h1 : (cIt x)[1]? = some (.int .i64 (x.date : Int)) := rfl
 have h2 : (cIt x)[2]? = some (.string (tx x.subj)) := rfl
 have h3 : ((cIt x).drop 3).take 32 = cI x.id := by show (cI x.id ++ _).take 32 = _; rw [← cI_length x.id, List.take_left]
 have h4 : (cIt x)[35]? = some (.string (tx x.body)) := by
  show (cI x.id ++ [Value.string (tx x.body)])[32]? = _
  rw [List.getElem?_append_right (by rw [cI_length]; omega), cI_length]
  rfl
 have he : ∀ u, (Op.equalIn 9999 34 (.agg (cI x.id).toArray) (.agg (cI x.id).toArray)).run Tryz.prog u = .ok true u := fun u => by
  obtain ⟨i, g1, g2⟩ := info5
  unfold cI
  rw [run_equalIn_bytes u 9997 32 34 5 i x.id.1 x.id.1 Tryz.underlying34 Tryz.underlying5 g1 g2 x.id.2 x.id.2]
  simp
 unfold vIt
 go_simp
theorem guardIt : Tryz.prog.eqGuardType Tryz.prog.depth 36 = false := by kernel_rfl
theorem eqGuardIt (op : BinOp) (x y : Operand) (a b : It) (w : World) : (eqGuard op 36 x y (vIt a) (vIt b)).run Tryz.prog w = .ok () w := run_eqGuard_agg w op 36 x y _ _ guardIt
/-! letters -/
abbrev Lt : Type := UInt8 × ByteArray
def cLt (x : Lt) : List Value := [.int .u8 (x.1.toNat : Int), .string x.2]
theorem cLt_length (x : Lt) : (cLt x).length = 2 := rfl
theorem Sl.lt {w : World} {A : Option Addr} {xs : List Lt} (h : Sl w cLt A xs) {k : Nat} (hk : k < xs.length) : ∃ ad, A = some ad ∧ ad.block < w.heap.size ∧ w.cell? (ad.add (k * 2)) = some (.int .u8 (xs[k].1.toNat : Int)) ∧ w.cell? ((ad.add (k * 2)).add 1) = some (.string xs[k].2) := by
 obtain ⟨ad, e, hat⟩ := Sl.at_ cLt_length h hk
 refine ⟨ad, e, by have := hat.1; rwa [block_of_add] at this, ?_, hat.2 1 _ rfl⟩
 have := hat.2 0 _ rfl
 rwa [add_of_add, Nat.add_zero] at this
def sbj : Nat → List UInt8
 | 0 => []
 | 1 => [97]
 | 2 => [98]
 | _ => [82, 101, 58, 32, 97]
def itK (k : Nat) (x : Lt) : It := ⟨[65, 32, 66], k, sbj (x.1.toNat % 4), idK (k + 1), bl x.2⟩
theorem sbj_ok (q : Nat) : PlOk (tx (sbj q)) ∧ nlB (sbj q) ∧ (sbj q).length ≤ 5 := by
 rcases q with _ | _ | _ | q
 ·exact ⟨plOk_of [] (by decide +kernel), by unfold nlB sbj; decide, by decide⟩
 ·exact ⟨plOk_of [97] (by decide +kernel), by unfold nlB sbj; decide, by decide⟩
 ·exact ⟨plOk_of [98] (by decide +kernel), by unfold nlB sbj; decide, by decide⟩
 ·show PlOk (tx [82, 101, 58, 32, 97]) ∧ nlB [82, 101, 58, 32, 97] ∧ [82, 101, 58, 32, 97].length ≤ 5
  exact ⟨plOk_of [82, 101, 58, 32, 97] (by decide +kernel), by unfold nlB; decide, by decide⟩
theorem idK_inj {a b : Nat} (ha : a < 256) (hb : b < 256) (h : idK a = idK b) : a = b := by
 have h1 : (UInt8.ofNat a) = UInt8.ofNat b := by
  have := congrArg (fun x : Id => x.1.head?) h
  exact Option.some.inj this
 have h2 := congrArg UInt8.toNat h1
 rwa [UInt8.toNat_ofNat', UInt8.toNat_ofNat', Nat.mod_eq_of_lt ha, Nat.mod_eq_of_lt hb] at h2
theorem idK_ne {k : Nat} (hk : k < 8) : idK (k + 1) ≠ zI := by
 intro e
 have : zI = idK 0 := by rfl
 rw [this] at e
 exact absurd (idK_inj (by omega) (by decide) e) (by omega)
theorem itK_pl {k : Nat} (hk : k < 8) (x : Lt) : ItPl (itK k x) := ⟨plOk_of [65, 32, 66] (by decide +kernel), by show 1 ≤ 3; decide, by show k ≤ 1439; omega, (sbj_ok _).1, idK_ne hk⟩
theorem itK_ok {k : Nat} (hk : k < 8) (x : Lt) (h13 : (13 : UInt8) ∉ bl x.2) (hz : x.2.size ≤ 200) : ItOk (itK k x) := ⟨plOk_of [65, 32, 66] (by decide +kernel), by show 1 ≤ 3; decide, by show k ≤ 1439; omega, (sbj_ok _).1, by show nlB [65, 32, 66]; unfold nlB; decide, (sbj_ok _).2.1, idK_ne hk, h13, by show (bl x.2).length ≤ 200; rw [bl_length]; exact hz⟩
def wantL (ls : List Lt) (i : Nat) : List It := ((ls.take i).zipIdx).filterMap fun p => if (13 : UInt8) ∈ bl p.1.2 then none else some (itK p.2 p.1)
theorem wantL_zero (ls : List Lt) : wantL ls 0 = [] := by simp [wantL]
theorem wantL_succ (ls : List Lt) (i : Nat) (hi : i < ls.length) : wantL ls (i + 1) = wantL ls i ++ (if (13 : UInt8) ∈ bl ls[i].2 then [] else [itK i ls[i]]) := by
 unfold wantL
 rw [List.take_succ_eq_append_getElem hi, List.zipIdx_append, List.filterMap_append]
 congr 1
 rw [List.length_take, Nat.min_eq_left (Nat.le_of_lt hi)]
 by_cases h : (13 : UInt8) ∈ bl ls[i].2
 ·rw [if_pos h, List.zipIdx_cons, List.zipIdx_nil, List.filterMap_cons_none (by exact if_pos h)]
  rfl
 ·rw [if_neg h, List.zipIdx_cons, List.zipIdx_nil, List.filterMap_cons_some (b := itK i ls[i]) (by rw [Nat.zero_add]; exact if_neg h)]
  rfl
theorem wantL_mem {ls : List Lt} {i : Nat} {y : It} (h : y ∈ wantL ls i) : ∃ k, ∃ hk : k < ls.length, k < i ∧ y = itK k ls[k] ∧ (13 : UInt8) ∉ bl ls[k].2 := by
 unfold wantL at h
 rw [List.mem_filterMap] at h
 obtain ⟨⟨x, k⟩, hm, hy⟩ := h
 obtain ⟨hk, hx⟩ := List.mem_zipIdx' hm
 rw [List.length_take] at hk
 have hk2 : k < ls.length := by omega
 rw [List.getElem_take] at hx
 by_cases h13 : (13 : UInt8) ∈ bl x.2
 ·simp [h13] at hy
 ·rw [if_neg h13] at hy
  exact ⟨k, hk2, by omega, by rw [← hx]; exact (Option.some.inj hy).symm, by rw [← hx]; exact h13⟩
theorem wantL_len (ls : List Lt) (i : Nat) : (wantL ls i).length ≤ i := by
 unfold wantL
 refine Nat.le_trans (List.length_filterMap_le _ _) ?_
 rw [List.length_zipIdx, List.length_take]
 omega
theorem wantL_new {ls : List Lt} {i : Nat} (hi : i < 8) (x : Lt) : (itK i x).id ∉ (wantL ls i).map (·.id) := by
 intro h
 rw [List.mem_map] at h
 obtain ⟨y, hy, e⟩ := h
 obtain ⟨k, hk, hki, rfl, -⟩ := wantL_mem hy
 have := idK_inj (a := k + 1) (b := i + 1) (by omega) (by omega) e
 omega
theorem wantL_nd (ls : List Lt) : ∀ i, i ≤ 8 → i ≤ ls.length → ((wantL ls i).map (·.id)).Nodup
 | 0, _, _ => by rw [wantL_zero]; simp
 | i + 1, h8, hl => by
  have ih := wantL_nd ls i (by omega) (by omega)
  rw [wantL_succ ls i (by omega)]
  split
  ·rwa [List.append_nil]
  ·rw [List.map_append, List.nodup_append]
   refine ⟨ih, by simp, ?_⟩
   intro a ha b hb e
   rw [List.map_singleton, List.mem_singleton] at hb
   rw [e, hb] at ha
   exact wantL_new (by omega) _ ha
theorem wantL_ok {ls : List Lt} {i : Nat} (h8 : i ≤ 8) (hz : ∀ k (h : k < ls.length), k < i → ls[k].2.size ≤ 200) : ∀ y ∈ wantL ls i, ItOk y := by
 intro y hy
 obtain ⟨k, hk, hki, rfl, h13⟩ := wantL_mem hy
 exact itK_ok (by omega) _ h13 (hz k hk hki)
/-! sizes -/
theorem lnT_prot : ∀ ls : List (List UInt8), (lnT (ls.map protL)).length ≤ 3 * (lnT ls).length
 | [] => Nat.zero_le _
 | x :: ls => by
  have ih := lnT_prot ls
  rw [List.map_cons, lnT_cons, lnT_cons, List.length_append, List.length_append, List.length_cons, List.length_cons]
  have : (protL x).length ≤ x.length + 2 := by
   unfold protL
   split <;> simp
  omega
theorem lnT_split (c : UInt8) (s : List UInt8) : ∀ cur, (lnT (splitGo c cur s)).length = cur.length + s.length + 1 := by
 induction s with
 | nil => intro cur; simp [splitGo, lnT]
 | cons x s ih =>
  intro cur
  unfold splitGo
  split
  ·rw [lnT_cons, List.length_append, List.length_cons, ih, List.length_nil, List.length_cons]
   omega
  ·rw [ih, List.length_append, List.length_cons, List.length_cons, List.length_nil]
   omega
theorem lnT_itsL (e : List UInt8) : ∀ xs : List It, (∀ x ∈ xs, x.frm.length ≤ 3 ∧ x.subj.length ≤ 5 ∧ x.body.length ≤ 200) → (lnT (itsL xs [e])).length ≤ 1000 * xs.length + e.length + 1
 | [], _ => by simp [itsL, lnT]
 | x :: xs, h => by
  obtain ⟨h1, h2, h3⟩ := h x List.mem_cons_self
  have ih := lnT_itsL e xs (fun y hy => h y (List.mem_cons_of_mem _ hy))
  have hp := lnT_prot (piecesL x.body)
  have hs := lnT_split 10 x.body []
  rw [show splitGo 10 [] x.body = piecesL x.body from rfl] at hs
  unfold itsL itR
  rw [lnT_cons, lnT_cons, lnT_cons, lnT_cons, lnT_cons, lnT_append, lnT_cons]
  unfold itF itD itS itM
  simp only [List.length_append, List.length_cons, List.length_nil, dayT_len, textL_len, show sepL.length = 30 from rfl] at *
  omega
theorem numS_one (ss : List (List UInt8)) (s : List UInt8) : ∀ x ∈ numS ss s, x.length ≤ 1 := by
 intro x hx
 unfold numS at hx
 obtain ⟨p, -, rfl⟩ := List.mem_map.1 hx
 exact Nat.le_refl 1
theorem ordS_mem (ss : List (List UInt8)) : ∀ s ∈ ordS ss, s ∈ ss := by
 unfold ordS
 have : ∀ (l a : List (List UInt8)), (∀ s ∈ a, s ∈ ss) → (∀ s ∈ l, s ∈ ss) → ∀ s ∈ l.foldl (fun a s => if s ∈ a then a else a ++ [s]) a, s ∈ ss := by
  intro l
  induction l with
  | nil => intro a ha _; exact ha
  | cons x l ih =>
   intro a ha hl
   rw [List.foldl_cons]
   refine ih _ ?_ (fun s hs => hl s (List.mem_cons_of_mem _ hs))
   split
   ·exact ha
   ·intro s hs
    rcases List.mem_append.1 hs with hs | hs
    ·exact ha s hs
    ·rw [List.mem_singleton.1 hs]
     exact hl x List.mem_cons_self
 exact this ss [] (by simp) (fun s hs => hs)
theorem lnT_ct (ss : List (List UInt8)) (h : ∀ s ∈ ss, s.length ≤ 5) (h8 : ss.length ≤ 8) : (lnT ((ctS ss).map ctL)).length ≤ 400 := by
 have h1 : ∀ l : List (List UInt8), (∀ s ∈ l, s.length ≤ 5) → (lnT ((l.map (ctT ss)).map ctL)).length ≤ 50 * l.length := by
  intro l
  induction l with
  | nil => intro _; exact Nat.zero_le _
  | cons x l ih =>
   intro hl
   have ih2 := ih (fun s hs => hl s (List.mem_cons_of_mem _ hs))
   have hx := hl x List.mem_cons_self
   rw [List.map_cons, List.map_cons, lnT_cons, List.length_append, List.length_cons, List.length_cons]
   have hj := join_le (numS ss x) [44, 32] (numS_one ss x)
   have hn := numS_len ss x
   have hc : (ctL (ctT ss x)).length ≤ 45 := by
    unfold ctL ctT
    simp only [List.length_append, List.length_cons, List.length_nil] at *
    have : (if x = [] then noS else x).length ≤ 12 := by
     split
     ·decide
     ·omega
    omega
   omega
 have h2 := h1 (ordS ss) (fun s hs => h s (ordS_mem ss s hs))
 have h3 := ordS_len ss
 unfold ctS
 omega
theorem dg_size {xs : List It} (h8 : xs.length ≤ 8) (h : ∀ x ∈ xs, x.frm.length ≤ 3 ∧ x.subj.length ≤ 5 ∧ x.body.length ≤ 200) : (lnT (dgL wBo 1 100 xs)).length ≤ 32768 := by
 have h1 := lnT_itsL (endL wBo 1) xs h
 have h2 := lnT_ct (xs.map (·.subj)) (by
  intro s hs
  obtain ⟨x, hx, rfl⟩ := List.mem_map.1 hs
  exact (h x hx).2.1) (by rw [List.length_map]; exact h8)
 have h3 : (endL wBo 1).length ≤ 100 := by decide +kernel
 have h4 : (hdL wBo 1).length ≤ 100 := by decide +kernel
 unfold dgL
 rw [lnT_cons, lnT_cons, lnT_cons, lnT_append, lnT_cons]
 simp only [List.length_append, List.length_cons, List.length_nil, dayT_len, show sepL.length = 30 from rfl, show topL.length = 7 from rfl] at *
 omega
theorem want_sz {ls : List Lt} {i : Nat} (hz : ∀ k (h : k < ls.length), k < i → ls[k].2.size ≤ 200) : ∀ x ∈ wantL ls i, x.frm.length ≤ 3 ∧ x.subj.length ≤ 5 ∧ x.body.length ≤ 200 := by
 intro y hy
 obtain ⟨k, hk, hki, rfl, h13⟩ := wantL_mem hy
 exact ⟨Nat.le_refl 3, (sbj_ok _).2.2, by show (bl ls[k].2).length ≤ 200; rw [bl_length]; exact hz k hk hki⟩
theorem hdB : HdOk wBo 1 where
 pl := plOk_of _ (by decide +kernel)
 h1 := by decide
 h2 := by decide
 n1 := by decide
 n9 := by decide
 nl := by unfold nlB; decide +kernel
 hli := by decide +kernel
 hcu := by decide +kernel
/-! builds -/
section
variable (u : World)
theorem bl_idK (k : Nat) (hk : k < 8) : (blA 34 #[(0, .int .u8 ((k : Int) + 1))]).run Tryz.prog u = .ok (vI (idK (k + 1))) u := by
 rcases (show k = 0 ∨ k = 1 ∨ k = 2 ∨ k = 3 ∨ k = 4 ∨ k = 5 ∨ k = 6 ∨ k = 7 by omega) with rfl | rfl | rfl | rfl | rfl | rfl | rfl | rfl <;> kernel_rfl
theorem bl_itK (k : Nat) (hk : k < 8) (s b : List UInt8) : (blA 36 #[(0, .string ⟨#[65, 32, 66]⟩), (1, .int .i64 (k : Int)), (2, .string (tx s)), (3, vI (idK (k + 1))), (4, .string (tx b))]).run Tryz.prog u = .ok (vIt ⟨[65, 32, 66], k, s, idK (k + 1), b⟩) u := by
 rcases (show k = 0 ∨ k = 1 ∨ k = 2 ∨ k = 3 ∨ k = 4 ∨ k = 5 ∨ k = 6 ∨ k = 7 by omega) with rfl | rfl | rfl | rfl | rfl | rfl | rfl | rfl <;> kernel_rfl
theorem wr_i64k (k : Nat) (h : k < 8) : IntKind.i64.wrap ((k : Int) + 1) = (k : Int) + 1 := by
 simp [IntKind.wrap, IntKind.bits, IntKind.signed]
 omega
theorem wr_u8k (k : Nat) (h : k < 8) : IntKind.u8.wrap ((k : Int) + 1) = (k : Int) + 1 := by
 simp [IntKind.wrap, IntKind.bits, IntKind.signed]
 omega
end
/-! sites -/
def siteK (q : Nat) : List UInt8 := [115, UInt8.ofNat (97 + q)]
def abcS : ByteArray := ⟨#[97, 98, 99, 100, 101, 102, 103, 104, 105, 106, 107, 108, 109, 110, 111, 112, 113, 114, 115, 116, 117, 118, 119, 120, 121, 122]⟩
theorem abc_cut : ∀ q, q < 26 → abcS.extract q (q + 1) = tx [UInt8.ofNat (97 + q)] := by decide +kernel
theorem siteK_ok : ∀ q, q < 26 → (siteB (siteK q) = true ∧ (∀ c ∈ siteK q, loB c = true)) := by decide +kernel
open Go.RowKit
def sbV : List Value := [.string ⟨#[]⟩, .string ⟨#[97]⟩, .string ⟨#[98]⟩, .string ⟨#[82, 101, 58, 32, 97]⟩]
theorem own_ne_row {w : World} {α : Type} {base : Nat} {e t : TypeId} {s : Nat} {enc : α → List Value} {v : Value} {xs : List α} {b : Nat} {cs : List Value} (h : Own w base e s enc v xs) (hr : Row w b cs t) (ht : t ≠ e) : v.ownBlock ≠ some b := by
 intro he
 rcases h.rowOf with ⟨rfl, _⟩ | ⟨g, c, ds, rfl, hb, hr2, -⟩
 ·cases he
 ·obtain rfl : g = b := by
   have : some g = some b := he
   exact Option.some.inj this
  unfold Row at hr hr2
  rw [hr] at hr2
  injection hr2 with e1
  injection e1 with _ e2
  exact ht e2
structure LpS (w : World) (b r bs : Nat) (ls : List Lt) (i : Nat) (v8 : Value) (fs : Int) (v : Value) (u : World) : Prop where
 bl : BlS b r wBo 0 fs v (wantL ls i) ((wantL ls i).map (·.id)) u
 ow : Own u (bs + 1) 36 36 cIt v8 (wantL ls i)
 sb : Row u bs sbV 9
 sep : ∀ k, v8.ownBlock = some k → v.ownBlock ≠ some k
 nil : wantL ls i = [] → v = .slice none 0 0 ∧ v8 = .slice none 0 0
 bel : Below w.heap.size w u
 rr : w.heap.size ≤ r
 bb : b < bs
structure LpM (w : World) (b r bs : Nat) (ls : List Lt) (i : Nat) (x : It) (v8 : Value) (fs : Int) (v : Value) (u : World) : Prop where
 bl : BlS b r wBo 0 fs v (wantL ls i ++ [x]) ((wantL ls i).map (·.id) ++ [x.id]) u
 ow : Own u (bs + 1) 36 36 cIt v8 (wantL ls i)
 sb : Row u bs sbV 9
 sep : ∀ k, v8.ownBlock = some k → v.ownBlock ≠ some k
 bel : Below w.heap.size w u
 rr : w.heap.size ≤ r
 bb : b < bs
section
variable {w : World} {b r bs : Nat} {ls : List Lt} {i : Nat} {v8 v8' : Value} {fs fs' : Int} {v v' : Value} {u u1 u2 u3 : World} {x : It}
theorem LpS.keep (h : LpS w b r bs ls i v8 fs v u) (hb : Below u.heap.size u u1) : LpS w b r bs ls i v8 fs v u1 :=
 ⟨h.bl.keep hb, h.ow.keep hb, h.sb.keep hb, h.sep, h.nil, Below.step h.bel hb, h.rr, h.bb⟩
theorem LpM.keep (h : LpM w b r bs ls i x v8 fs v u) (hb : Below u.heap.size u u1) : LpM w b r bs ls i x v8 fs v u1 :=
 ⟨h.bl.keep hb, h.ow.keep hb, h.sb.keep hb, h.sep, Below.step h.bel hb, h.rr, h.bb⟩
theorem LpS.skip (h : LpS w b r bs ls i v8 fs v u) (he : wantL ls (i + 1) = wantL ls i) : LpS w b r bs ls (i + 1) v8 fs v u :=
 ⟨by rw [he]; exact h.bl, by rw [he]; exact h.ow, h.sb, h.sep, by rw [he]; exact h.nil, h.bel, h.rr, h.bb⟩
theorem LpS.added (h : LpS w b r bs ls i v8 fs v u) (hB : BlS b r wBo 0 fs' v' (wantL ls i ++ [x]) ((wantL ls i).map (·.id) ++ [x.id]) u1) (hF : BFr b r v v' u u1) : LpM w b r bs ls i x v8 fs' v' u1 := by
 have hrb := h.bl.rb
 have hbb := h.bb
 refine ⟨hB, Own.same h.ow fun k hk => ?_, Row.same h.sb ?_, fun k hk => ?_, ?_, h.rr, h.bb⟩
 ·have hl := Own.lt h.ow k hk
  exact hF.out k hl.2 (by omega) (by omega) (fun e => h.sep k hk e.symm)
 ·exact hF.out bs h.sb.lt (by omega) (by omega) (fun e => own_ne_row h.bl.own h.sb (by decide) e.symm)
 ·have hl := Own.lt h.ow k hk
  rcases hF.at_ with e | ⟨m, e, hm⟩
  ·rw [e]
   exact h.sep k hk
  ·rw [e]
   intro e2
   have := Option.some.inj e2
   omega
 ·have hrr := h.rr
  exact ⟨hF.os.trans h.bel.os, hF.tape.trans h.bel.tape, hF.output.trans h.bel.output, Nat.le_trans h.bel.size hF.size, fun k hk => (hF.out k (Nat.lt_of_lt_of_le hk h.bel.size) (by omega) (by omega) (fun e => by have := (Own.lt h.bl.own k e.symm).1; omega)).trans (h.bel.block k hk)⟩
theorem LpS.xrow (h : LpS w b r bs ls i v8 fs v u) (hF : BFr b r v v' u2 u1) (hb : Below u.heap.size u u2) {cs : List Value} {t : TypeId} (hr : Row u2 u.heap.size cs t) : Row u1 u.heap.size cs t := by
 refine Row.same hr (hF.out _ hr.lt (fun e => ?_) (fun e => ?_) (fun e => ?_))
 ·have := h.bl.row.lt
  omega
 ·have := h.bl.row.lt
  have := h.bl.rb
  omega
 ·have := (Own.lt h.bl.own _ e.symm).2
  omega
theorem LpM.app (h : LpM w b r bs ls i x v8 fs v u2) (ho : Own u3 (bs + 1) 36 36 cIt v8' (wantL ls i ++ [x])) (hg : u2.grownBy u3 v8.ownBlock) (ha : v8'.ownBlock = v8.ownBlock ∨ v8'.ownBlock = some u2.heap.size) (he : wantL ls (i + 1) = wantL ls i ++ [x]) : LpS w b r bs ls (i + 1) v8' fs v u3 := by
 have hrb := h.bl.rb
 have hbb := h.bb
 have hne : ∀ k, k ≤ bs → some k ≠ v8.ownBlock := fun k hk e => by have := (Own.lt h.ow k e.symm).1; omega
 refine ⟨⟨?_, ?_, ?_, hrb⟩, by rw [he]; exact ho, ?_, ?_, ?_, ?_, h.rr, h.bb⟩
 ·exact Row.same h.bl.row (hg.block b h.bl.row.lt (hne b (by omega)))
 ·rw [he, List.map_append]
  exact IdS.same h.bl.ids (hg.block r h.bl.ids.lt (hne r (by omega)))
 ·rw [he]
  exact Own.same h.bl.own fun k hk => hg.block k (Own.lt h.bl.own k hk).2 (fun e => h.sep k e.symm hk)
 ·exact Row.same h.sb (hg.block bs h.sb.lt (hne bs (Nat.le_refl _)))
 ·intro k hk
  rcases ha with e | e
  ·exact h.sep k (e.symm.trans hk)
  ·intro e2
   have := (Own.lt h.bl.own k e2).2
   rw [e] at hk
   have := Option.some.inj hk
   omega
 ·intro e
  rw [he] at e
  simp at e
 ·exact Own.grew h.ow hg h.bel (by have := h.rr; omega) h.bel.size
end
def XW (wr : World) (x : It) (u : World) : Bool → Bool → Prop
 | false, _ => Below wr.heap.size wr u ∧ u.heap.size = wr.heap.size
 | true, false => Below wr.heap.size wr u ∧ Row u wr.heap.size (cIt zIt) 36
 | true, true => Below wr.heap.size wr u ∧ Row u wr.heap.size (cIt x) 36
section
variable {wr u : World} {x : It} {d : Bool}
theorem XW.bel {d2 : Bool} (h : XW wr x u d d2) : Below wr.heap.size wr u := by
 cases d
 ·exact h.1
 ·cases d2
  ·exact h.1
  ·exact h.1
theorem XW.made {d2 : Bool} (h : XW wr x u false d2) : XW wr x (u.alloc (.cells (aIt zIt) 36)) true false :=
 ⟨Below.step h.1 (below_alloc u _), by have := Row.new u (cIt zIt) 36; rwa [h.2] at this⟩
theorem row_setRow {w : World} {g : Nat} {cs ds : List Value} {t : TypeId} (h : Row w g cs t) : Row (w.setRow g ds.toArray) g ds t := by
 unfold Row at *
 simp only [World.setRow, Array.getElem?_modify, h]
 simp
theorem one_setRow (w : World) (g : Nat) (cs : Array Value) : One g w (w.setRow g cs) := by
 refine ⟨rfl, rfl, rfl, by simp [World.setRow], fun j _ hj => ?_⟩
 simp only [World.setRow, Array.getElem?_modify]
 rw [if_neg (fun e => hj e.symm)]
theorem XW.stored (h : XW wr x u true false) : XW wr x (u.setRow wr.heap.size (aIt x)) true true :=
 ⟨h.1.trans ((one_setRow u _ _).below (Nat.le_refl _) h.1.size), row_setRow h.2⟩
theorem XW.rowOk (h : XW wr x u true false) : rowOk u wr.heap.size 36 = true := by
 have := h.2
 unfold Row at this
 unfold Go.Proofs.YtibelollgdnidaaGreatDoor.rowOk
 rw [this]
 simp [cIt_length]
end
open Go.RowKit
structure LqS (w : World) (bm bs : Nat) (M : Option Addr → Nat → Nat → List Value) (v8 : Value) (ys : List It) (ps : List (List UInt8)) (A : Option Addr) (na ca : Nat) (v19 : Value) (u : World) : Prop where
 msg : Row u bm (M A na ca) 47
 hop : Own u (bm + 1) 9 1 cS (.slice A na ca) (ps.map tx)
 own : Own u (bm + 1) 9 1 cS v19 (ps.map tx)
 sep : ∀ k, v19.ownBlock = some k → (Value.slice A na ca).ownBlock ≠ some k
 ok : HpL ps
 wnt : Own u (bs + 1) 36 36 cIt v8 ys
 vlt : ∀ k, v8.ownBlock = some k → k < bm
 bel : Below w.heap.size w u
 wb : w.heap.size ≤ bm
section
variable {w : World} {bm bs : Nat} {M : Option Addr → Nat → Nat → List Value} {v8 : Value} {ys : List It} {ps : List (List UInt8)} {A A' : Option Addr} {na ca na' ca' : Nat} {v19 v19' : Value} {u u1 u2 u3 : World} {x : List UInt8}
theorem LqS.keep (h : LqS w bm bs M v8 ys ps A na ca v19 u) (hb : Below u.heap.size u u1) : LqS w bm bs M v8 ys ps A na ca v19 u1 :=
 ⟨h.msg.keep hb, h.hop.keep hb, h.own.keep hb, h.sep, h.ok, h.wnt.keep hb, h.vlt, Below.step h.bel hb, h.wb⟩
theorem LqS.hps (h : LqS w bm bs M v8 ys ps A na ca v19 u) : HpS u (.slice A na ca) ps := HpS.of_own h.hop
theorem HpL.add (h : HpL ps) (hx : x.length = 2 ∧ (∀ c ∈ x, loB c = true) ∧ siteB x = true) (hn : x ∉ ps) (hl : ps.length < 16) : HpL (ps ++ [x]) := by
 refine ⟨⟨?_, ?_, ?_⟩, ?_⟩
 ·rw [List.nodup_append]
  refine ⟨h.ok.nd, by simp, ?_⟩
  intro a ha b hb e
  rw [List.mem_singleton.1 hb] at e
  exact hn (e ▸ ha)
 ·rw [List.length_append, List.length_singleton]
  omega
 ·intro y hy
  rcases List.mem_append.1 hy with hy | hy
  ·exact h.ok.site y hy
  ·rw [List.mem_singleton.1 hy]
   exact ⟨hx.2.2, by omega⟩
 ·intro y hy
  rcases List.mem_append.1 hy with hy | hy
  ·exact h.two y hy
  ·rw [List.mem_singleton.1 hy]
   exact ⟨hx.1, hx.2.1⟩
structure QC (w : World) (bm bs b29 : Nat) (M : Option Addr → Nat → Nat → List Value) (v8 : Value) (ys : List It) (ps : List (List UInt8)) (x : List UInt8) (A : Option Addr) (na ca : Nat) (v19 : Value) (A' : Option Addr) (na' ca' : Nat) (wr : World) : Prop where
 l : LqS w bm bs M v8 ys ps A na ca v19 wr
 hop : Own wr (bm + 1) 9 1 cS (.slice A' na' ca') ((ps ++ [x]).map tx)
 hsp : ∀ k, v19.ownBlock = some k → (Value.slice A' na' ca').ownBlock ≠ some k
 r29 : Row wr b29 (M A' na' ca') 47
 b29 : bm < b29
 ok : HpL (ps ++ [x])
def QW (w : World) (bm bs b29 : Nat) (M : Option Addr → Nat → Nat → List Value) (v8 : Value) (ys : List It) (ps : List (List UInt8)) (x : List UInt8) (A : Option Addr) (na ca : Nat) (v19 : Value) (A' : Option Addr) (na' ca' : Nat) (wr : World) (σ : Value) (u : World) : Bool → Bool → Bool → Prop
 | false, _, _ => Below wr.heap.size wr u ∧ u.heap.size = wr.heap.size
 | true, false, _ => Below wr.heap.size wr u ∧ Sl u cS (some ⟨wr.heap.size, 0, none⟩) [tx x]
 | true, true, false => Row u bm (M A na ca) 47 ∧ Row u b29 (M A' na' ca') 47 ∧ Own u (bm + 1) 9 1 cS (.slice A' na' ca') ((ps ++ [x]).map tx) ∧ Own u (bm + 1) 9 1 cS σ ((ps ++ [x]).map tx) ∧ (∀ k, σ.ownBlock = some k → (Value.slice A' na' ca').ownBlock ≠ some k) ∧ Own u (bs + 1) 36 36 cIt v8 ys ∧ Below w.heap.size w u
 | true, true, true => LqS w bm bs M v8 ys (ps ++ [x]) A' na' ca' σ u
variable {b29 : Nat} {wr : World} {σ : Value} {d1 d2 d3 : Bool}
theorem QW.made (h : QW w bm bs b29 M v8 ys ps x A na ca v19 A' na' ca' wr σ u false d2 d3) : QW w bm bs b29 M v8 ys ps x A na ca v19 A' na' ca' wr σ (u.alloc (.cells #[.string (tx x)] 9)) true false d3 :=
 ⟨Below.step h.1 (below_alloc u _), by have := sl_newS u (tx x); rwa [h.2] at this⟩
theorem QW.r29 (hC : QC w bm bs b29 M v8 ys ps x A na ca v19 A' na' ca' wr) (h : QW w bm bs b29 M v8 ys ps x A na ca v19 A' na' ca' wr σ u d1 d2 false) : Row u b29 (M A' na' ca') 47 := by
 cases d1 with
 | false => exact hC.r29.keep h.1
 | true =>
  cases d2 with
  | false => exact hC.r29.keep h.1
  | true => exact h.2.1
theorem QW.grew (hC : QC w bm bs b29 M v8 ys ps x A na ca v19 A' na' ca' wr) (h : QW w bm bs b29 M v8 ys ps x A na ca v19 A' na' ca' wr σ u true false d3) (ho : Own u1 (bm + 1) 9 1 cS v19' (ps.map tx ++ [tx x])) (hg : u.grownBy u1 v19.ownBlock) (ha : v19'.ownBlock = v19.ownBlock ∨ v19'.ownBlock = some u.heap.size) : QW w bm bs b29 M v8 ys ps x A na ca v19 A' na' ca' wr v19' u1 true true false := by
 have hb : Below wr.heap.size wr u := h.1
 have hl := hC.l.keep hb
 have hop := hC.hop.keep hb
 have hne : ∀ k, k ≤ bm → some k ≠ v19.ownBlock := fun k hk e => by have := (Own.lt hl.own k e.symm).1; omega
 refine ⟨Row.same hl.msg (hg.block bm hl.msg.lt (hne bm (Nat.le_refl _))), ?_, ?_, by rw [List.map_append]; exact ho, ?_, ?_, ?_⟩
 ·have hr := hC.r29.keep hb
  exact Row.same hr (hg.block b29 hr.lt (fun e => own_ne_row hl.own hr (by decide) e.symm))
 ·exact Own.same hop fun k hk => hg.block k (Own.lt hop k hk).2 (fun e => hC.hsp k e.symm hk)
 ·intro k hk
  rcases ha with e | e
  ·exact hC.hsp k (e.symm.trans hk)
  ·intro e2
   have := (Own.lt hop k e2).2
   rw [e] at hk
   have := Option.some.inj hk
   omega
 ·exact Own.same hl.wnt fun k hk => hg.block k (Own.lt hl.wnt k hk).2 (hne k (Nat.le_of_lt (hl.vlt k hk)))
 ·exact Own.grew hl.own hg hl.bel (Nat.le_trans hl.wb (Nat.le_succ _)) hl.bel.size
theorem QW.stored {v0 v1 v2 v3 v4 v5 v6 v7 v8' : Value} (hC : QC w bm bs b29 M v8 ys ps x A na ca v19 A' na' ca' wr) (hM : M A' na' ca' = [v0, v1, v2, v3, v4, v5, v6, v7, v8']) (h9 : (M A na ca).length = 9) (h : QW w bm bs b29 M v8 ys ps x A na ca v19 A' na' ca' wr σ u true true false) : QW w bm bs b29 M v8 ys ps x A na ca v19 A' na' ca' wr σ (Go.Proofs.YtibelollgdnidaaGreatDoor.st9 u bm v0 v1 v2 v3 v4 v5 v6 v7 v8') true true true := by
 obtain ⟨h1, h2, h3, h4, h5, h6, h7⟩ := h
 have ho : One bm u (Go.Proofs.YtibelollgdnidaaGreatDoor.st9 u bm v0 v1 v2 v3 v4 v5 v6 v7 v8') := One.st9
 refine ⟨by rw [hM]; exact h1.st9 h9, Own.one h3 ho (Nat.lt_succ_self _), Own.one h4 ho (Nat.lt_succ_self _), h5, hC.ok, Own.same h6 fun k hk => ho.out k (Own.lt h6 k hk).2 (by have := hC.l.vlt k hk; omega), hC.l.vlt, h7.trans (ho.below hC.l.wb h7.size), hC.l.wb⟩
end
end Go.Proofs.YtibelollgdnidaaGreatDoor
