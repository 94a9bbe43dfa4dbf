/- The reference's digest: bulletinref05.Sum is sha. -/
import Derived.Test.YtecalodcbkljoaaGreatDoorMRsc
import Derived.Test.YtecalodcbkljoaaGreatDoorMUnp
import Derived.Test.YtecalodcbkljoaaGreatDoorMWri
namespace Go.Proofs.YtecalodcbkljoaaGreatDoor
open Go.RowKit
theorem slice_mid (ad : Addr) (n c m : Nat) (h : m + 64 ≤ c) (w : World) : (Instr.slice 47 (.slice (some ad) n c) (some (.int .i64 (m : Int))) (some (.int .i64 ((m : Int) + 64))) none).run Tryz.prog w = .ok (.slice (some (ad.add m)) 64 (c - m)) w := by
  have he : Tryz.prog.elem 47 = 5 := by kernel_rfl
  have e1 : ((m : Int) + 64).toNat = m + 64 := by omega
  rw [run_slice_lh (P := Tryz.prog) w 47 (some ad) n c (by rw [he]; exact underBs) .i64 .i64 (m : Int) ((m : Int) + 64) (by omega) (by omega) (by omega), he, e1, Int.toNat_natCast]
  have hz : (sizeOf 5).run Tryz.prog w = .ok 1 w := by kernel_rfl
  rw [hz]
  simp only [Result.andThen_ok, sliced]
  rw [if_neg (by omega), Option.map_some, Nat.mul_one, show m + 64 - m = 64 by omega]
theorem bl_iniV (w : World) : (blA 115 #[(0, .int .u32 1779033703), (1, .int .u32 3144134277), (2, .int .u32 1013904242), (3, .int .u32 2773480762), (4, .int .u32 1359893119), (5, .int .u32 2600822924), (6, .int .u32 528734635), (7, .int .u32 1541459225)]).run Tryz.prog w = .ok (vV iniV) w := by kernel_rfl
theorem bl_V8 (a b c d e f g i : Wd) (w : World) : (blA 115 #[(0, .int .u32 (iW a)), (1, .int .u32 (iW b)), (2, .int .u32 (iW c)), (3, .int .u32 (iW d)), (4, .int .u32 (iW e)), (5, .int .u32 (iW f)), (6, .int .u32 (iW g)), (7, .int .u32 (iW i))]).run Tryz.prog w = .ok (vV ⟨a, b, c, d, e, f, g, i⟩) w := by kernel_rfl
theorem rowV8 {w : World} {b : Nat} {v : Vs} {t : TypeId} (h : Row w b (cV v) t) : okA w ⟨b, 0, none⟩ 8 = true ∧ rdA w ⟨b, 0, none⟩ 8 = vV v ∧ rowOk w b 8 = true := by
  have hat := h.at_ (k := 0) (n := 8) (ds := cV v) rfl
  exact ⟨hat.ok, hat.rd, h.okv⟩
/-- What stands in the variables of Sum behind n blocks of the padded bytes P. -/
structure SmR (w : World) (b g B : Nat) (ad : Addr) (c : Nat) (P : List UInt8) (n : Nat) (wr : World) : Prop where
  below : Below w.heap.size w wr
  size : w.heap.size = b
  g1 : b + 1 < g
  g2 : g < B
  r0 : Row wr b (cI zI) 35
  rh : Row wr (b + 1) (cV (blks iniV n P)) 115
  rk : Row wr g (cL kT) 116
  own : Own wr B 5 1 c1 (.slice (some ad) P.length c) P
theorem SmR.keep {w : World} {b g B : Nat} {ad : Addr} {c : Nat} {P : List UInt8} {n : Nat} {wr w' : World} (h : SmR w b g B ad c P n wr) (hb : Below wr.heap.size wr w') : SmR w b g B ad c P n w' :=
  ⟨Below.step h.below hb, h.size, h.g1, h.g2, h.r0.keep hb, h.rh.keep hb, h.rk.keep hb, h.own.keep hb⟩
theorem padded_len (l : List UInt8) : ∃ N, (l ++ padL l.length).length = 64 * N := by
  refine ⟨(l ++ padL l.length).length / 64, ?_⟩
  have h : (l ++ padL l.length).length = l.length + 1 + padZ l.length + 8 := by
    rw [← padT_all, List.length_append, padT_len, be8_len]
  unfold padZ at h
  omega
theorem Sl.mid {w : World} {ad : Addr} {P : List UInt8} {c q : Nat} (h : Sl w c1 (some ad) P) (hc : P.length ≤ c) (hq : q + 64 ≤ P.length) : Sl w c1 (some (ad.add q)) ((P.drop q).take 64) := by
  have h2 := (Sl.cut c1_length h (k := q) hc)
  rw [if_neg (by omega), Option.map_some, Nat.mul_one] at h2
  exact h2.take 64
theorem blks_next (P : List UInt8) (n : Nat) : blks iniV (n + 1) P = proc (blks iniV n P) (be (P.drop (64 * n))) := by
  rw [blks_add n 1]
  rfl
/-- Words added one by one. -/
def mixL (x y : Vs) (i : Nat) : List Wd := (addV x y).words.take i ++ x.words.drop i
theorem mixL_step (x y : Vs) (i : Nat) (h : i < 8) (a c : Wd) (ha : x.words[i]? = some a) (hc : y.words[i]? = some c) : mixL x y (i + 1) = (mixL x y i).set i (a + c) := by
  have h8 : i = 0 ∨ i = 1 ∨ i = 2 ∨ i = 3 ∨ i = 4 ∨ i = 5 ∨ i = 6 ∨ i = 7 := by omega
  clear h
  rcases h8 with rfl | rfl | rfl | rfl | rfl | rfl | rfl | rfl <;>
    (simp only [Vs.words, List.getElem?_cons_zero, List.getElem?_cons_succ, Option.some.injEq] at ha hc; subst ha hc; rfl)
theorem mixL_at (x y : Vs) (i : Nat) (h : i < 8) : (mixL x y i)[i]? = x.words[i]? := by
  have h8 : i = 0 ∨ i = 1 ∨ i = 2 ∨ i = 3 ∨ i = 4 ∨ i = 5 ∨ i = 6 ∨ i = 7 := by omega
  clear h
  rcases h8 with rfl | rfl | rfl | rfl | rfl | rfl | rfl | rfl <;> rfl
theorem words_cV (x : Vs) : x.words.map vW = cV x := rfl
theorem mixL_zero (x y : Vs) : (mixL x y 0).map vW = cV x := rfl
theorem mixL_all (x y : Vs) : (mixL x y 8).map vW = cV (addV x y) := rfl
theorem take_be (l : List UInt8) (t : Nat) (ht : t < 16) : be (l.take 64) t = be l t := be_take _ _ t ht (by rw [List.take_take, Nat.min_self])
/-- The variables of a block's rounds. -/
structure SmI (wr : World) (g : Nat) (M : W64) (v : Vs) (wi : World) : Prop where
  below : Below wr.heap.size wr wi
  lt : wr.heap.size ≤ g
  rm : Row wi g (cL M) 116
  rv : Row wi (g + 1) (cV v) 115
theorem SmI.keep {wr : World} {g : Nat} {M : W64} {v : Vs} {wi w' : World} (h : SmI wr g M v wi) (hb : Below wi.heap.size wi w') : SmI wr g M v w' := ⟨Below.step h.below hb, h.lt, h.rm.keep hb, h.rv.keep hb⟩
theorem SmI.set {wr : World} {g : Nat} {M : W64} {v : Vs} {wi : World} (h : SmI wr g M v wi) (u : Vs) : SmI wr g M u (wi.setRow (g + 1) (aV u)) :=
  ⟨Below.setRow h.below (by have := h.lt; omega) _, h.lt, (One.setRow (g + 1) (aV u)).row h.rm (by omega), h.rv.setRow⟩
/-- The variables of Sum while the words of a block are added. -/
structure SmX (w : World) (b g B g8 : Nat) (ad : Addr) (c : Nat) (P : List UInt8) (x y : Vs) (i : Nat) (wr : World) : Prop where
  below : Below w.heap.size w wr
  size : w.heap.size = b
  g1 : b + 1 < g
  g2 : g < B
  g3 : b + 1 < g8
  r0 : Row wr b (cI zI) 35
  rh : Row wr (b + 1) ((mixL x y i).map vW) 115
  rk : Row wr g (cL kT) 116
  rv : Row wr g8 (cV y) 115
  own : Own wr B 5 1 c1 (.slice (some ad) P.length c) P
theorem SmX.keep {w : World} {b g B g8 : Nat} {ad : Addr} {c : Nat} {P : List UInt8} {x y : Vs} {i : Nat} {wr w' : World} (h : SmX w b g B g8 ad c P x y i wr) (hb : Below wr.heap.size wr w') : SmX w b g B g8 ad c P x y i w' :=
  ⟨Below.step h.below hb, h.size, h.g1, h.g2, h.g3, h.r0.keep hb, h.rh.keep hb, h.rk.keep hb, h.rv.keep hb, h.own.keep hb⟩
theorem SmX.set {w : World} {b g B g8 : Nat} {ad : Addr} {c : Nat} {P : List UInt8} {x y : Vs} {i : Nat} {wr : World} (h : SmX w b g B g8 ad c P x y i wr) (hi : i < 8) {a d : Wd} (ha : x.words[i]? = some a) (hd : y.words[i]? = some d) :
    SmX w b g B g8 ad c P x y (i + 1) (wr.setCell ⟨b + 1, i, none⟩ (.int .u32 (iW (a + d)))) := by
  have hs := h.size
  have h1 := h.g1
  have h2 := h.g2
  have h3 := h.g3
  have ho : One (b + 1) wr (wr.setCell ⟨b + 1, i, none⟩ (.int .u32 (iW (a + d)))) := One.set i _
  refine ⟨h.below.setCell (show w.heap.size ≤ b + 1 by omega) _, h.size, h.g1, h.g2, h.g3, ho.row h.r0 (by omega), ?_, ho.row h.rk (by omega), ho.row h.rv (by omega), h.own.one ho (by omega)⟩
  rw [mixL_step x y i hi a d ha hd, List.map_set]
  exact h.rh.set i _
theorem SmX.start {w : World} {b g B g7 : Nat} {ad : Addr} {c : Nat} {P : List UInt8} {n : Nat} {x y : Vs} {M : W64} {wo wr : World} (h : SmR w b g B ad c P n wo) (hi : SmI wo g7 M y wr) (hx : blks iniV n P = x) (hb : b + 1 < wo.heap.size) : SmX w b g B (g7 + 1) ad c P x y 0 wr := by
  have k := h.keep hi.below
  refine ⟨k.below, k.size, k.g1, k.g2, by have := hi.lt; omega, k.r0, ?_, k.rk, hi.rv, k.own⟩
  rw [mixL_zero, ← hx]
  exact k.rh
theorem SmX.finish {w : World} {b g B g8 : Nat} {ad : Addr} {c : Nat} {P : List UInt8} {n q : Nat} {x : Vs} {wr : World} (h : SmX w b g B g8 ad c P x (rds x (be (P.drop q)) 64) 8 wr) (hx : blks iniV n P = x) (hq : q = 64 * n) : SmR w b g B ad c P (n + 1) wr := by
  refine ⟨h.below, h.size, h.g1, h.g2, h.r0, ?_, h.rk, h.own⟩
  have hh := h.rh
  rw [mixL_all] at hh
  rw [blks_next, hx, ← hq]
  exact hh
theorem SmX.at_ {w : World} {b g B g8 : Nat} {ad : Addr} {c : Nat} {P : List UInt8} {x y : Vs} {i : Nat} {wr : World} (h : SmX w b g B g8 ad c P x y i wr) (hi : i < 8) {a : Wd} (ha : x.words[i]? = some a) : wr.cell? ⟨b + 1, i, none⟩ = some (.int .u32 (iW a)) := by
  rw [h.rh.cell i, List.getElem?_map, mixL_at x y i hi, ha]
  rfl
theorem cV_at {w : World} {b : Nat} {y : Vs} {t : TypeId} (h : Row w b (cV y) t) {i : Nat} {a : Wd} (ha : y.words[i]? = some a) : w.cell? ⟨b, i, none⟩ = some (.int .u32 (iW a)) := by
  rw [h.cell i, ← words_cV, List.getElem?_map, ha]
  rfl
theorem words_get (x : Vs) (i : Nat) (h : i < 8) : ∃ a, x.words[i]? = some a := ⟨_, List.getElem?_eq_getElem (show i < x.words.length from h)⟩
/-- The variables of Sum while the bytes of the digest are laid. -/
structure SmD (w : World) (b : Nat) (v : Vs) (g : Nat) (n : Nat) (wr : World) : Prop where
  below : Below w.heap.size w wr
  size : w.heap.size = b
  lt : b + 1 < g
  r0 : Row wr b (cI zI) 35
  rh : Row wr (b + 1) (cV v) 115
  rd : Row wr g ((dgL v n).map cB) 35
theorem SmD.set {w : World} {b : Nat} {v : Vs} {g n : Nat} {wr : World} (h : SmD w b v g n wr) {c : UInt8} (hc : v.bytes[n]? = some c) : SmD w b v g (n + 1) (wr.setCell ⟨g, n, none⟩ (cB c)) := by
  have hs := h.size
  have hl := h.lt
  refine ⟨h.below.setCell (show w.heap.size ≤ g by omega) _, h.size, h.lt, h.r0.same (heap_set_other _ _ _ _ _ (by omega)), h.rh.same (heap_set_other _ _ _ _ _ (by omega)), ?_⟩
  rw [dgL_succ v n c hc, List.map_set]
  exact h.rd.set n (cB c)
theorem SmD.has {w : World} {b : Nat} {v : Vs} {g n : Nat} {wr : World} (h : SmD w b v g n wr) (hn : n < 32) : ∃ x, wr.cell? ⟨g, n, none⟩ = some x := by
  rw [h.rd.cell n]
  exact ⟨_, List.getElem?_eq_getElem (by rw [List.length_map, dgL_length v n (by omega)]; exact hn)⟩
theorem load_a32 {w : World} {ad : Addr} {x : Id} (h : At w ad (cI x)) : (loadVar 35 ad).run Tryz.prog w = .ok (vI x) w :=
  run_loadVar_at w ad 35 (cI x) _ h Tryz.underlying35 rfl (by rw [cI_length]; exact size35)
theorem rowL_at {w : World} {b : Nat} {M : W64} {t : TypeId} (h : Row w b (cL M) t) {j : Nat} {x : Wd} (hx : M.1[j]? = some x) : w.cell? ⟨b, j, none⟩ = some (.int .u32 (iW x)) := by
  rw [h.cell j]
  unfold cL
  rw [List.getElem?_map, hx]
  rfl
theorem scT_sw (l : List UInt8) (t : Nat) (h : t < 64) : (scT (be (l.take 64)) 64).1[t]? = some (sw (be l) t) := by
  rw [scT_at _ 64 t h, if_pos h, sw_congr _ _ (fun j hj => take_be l j hj)]
set_option maxRecDepth 100000 in
set_option maxHeartbeats 6400000 in
theorem rsum_b (A : Option Addr) (c : Nat) (l : List UInt8) (w : World) (hs : Sl w c1 A l) (hn : l.length ≤ 1073741824) : Calls Tryz.prog 45 #[.slice A l.length c] w fun e w' => e = .returned (vI ⟨sha l, sha_length l⟩) ∧ Below w.heap.size w w' := by
  obtain ⟨b, hb⟩ : ∃ b, w.heap.size = b := ⟨_, rfl⟩
  obtain ⟨W1, hW1⟩ : ∃ W1, (w.alloc (.cells (aI zI) 35)).alloc (.cells (aV zV) 115) = W1 := ⟨_, rfl⟩
  obtain ⟨W2, hW2⟩ : ∃ W2, W1.setRow (b + 1) (aV iniV) = W2 := ⟨_, rfl⟩
  have H1 := Lib.hid (show Below w.heap.size w W1 ∧ Row W1 b (cI zI) 35 ∧ Row W1 (b + 1) (cV zV) 115 ∧ W1.heap.size = b + 2 from by
    rw [← hW1]
    subst hb
    have r := Row.new (w.alloc (.cells (aI zI) 35)) (cV zV) 115
    rw [show (w.alloc (.cells (aI zI) 35)).heap.size = w.heap.size + 1 by simp] at r
    exact ⟨Below.step (below_alloc _ _) (below_alloc _ _), (Row.new w (cI zI) _).keep (below_alloc _ _), r, by simp⟩)
  have ro1 := H1.out.2.2.1.okv
  have H2 := Lib.hid (show Below w.heap.size w W2 ∧ Row W2 b (cI zI) 35 ∧ Row W2 (b + 1) (cV iniV) 115 ∧ W2.heap.size = b + 2 from by
    rw [← hW2]
    exact ⟨Below.setRow H1.out.1 (by omega) _, (One.setRow (b + 1) (aV iniV)).row H1.out.2.1 (by omega), H1.out.2.2.1.setRow, by rw [← H1.out.2.2.2]; simp [World.setRow]⟩)
  have hbi := bl_iniV
  have HS := Lib.hid (And.intro hs hn)
  have HB := Lib.hid hb
  clear hs hn
  go_enter Tryz.func45, Tryz.ntmps45
  go_wp2_with (first
    | (go_at_call 64; refine (constants_r _).mono ?_; rintro e w3 ⟨rfl, hb3⟩; obtain ⟨g, hg⟩ : ∃ g, w3.heap.size = g := ⟨_, rfl⟩; obtain ⟨W4, hW4⟩ : ∃ W4, w3.alloc (.cells (aL zL) 116) = W4 := ⟨_, rfl⟩; obtain ⟨W5, hW5⟩ : ∃ W5, W4.setRow g (aL kT) = W5 := ⟨_, rfl⟩; have H4 := Lib.hid (show Below W2.heap.size W2 W4 ∧ Row W4 g (cL zL) 116 ∧ W4.heap.size = g + 1 ∧ b + 2 ≤ g from ⟨by rw [← hW4]; exact Below.step hb3 (below_alloc _ _), by rw [← hW4, ← hg]; exact Row.new w3 (cL zL) _, by rw [← hW4, ← hg]; simp, by rw [← hg, ← H2.out.2.2.2]; exact hb3.size⟩); obtain ⟨-, -, ro4⟩ := rowL H4.out.2.1; have H5 := Lib.hid (show Below w.heap.size w W5 ∧ Row W5 b (cI zI) 35 ∧ Row W5 (b + 1) (cV iniV) 115 ∧ Row W5 g (cL kT) 116 ∧ W5.heap.size = g + 1 from by
          have h45 : Below W2.heap.size W2 W5 := by rw [← hW5]; exact Below.setRow H4.out.1 (by rw [H2.out.2.2.2]; exact H4.out.2.2.2) _
          exact ⟨Below.step H2.out.1 h45, H2.out.2.1.keep h45, H2.out.2.2.1.keep h45, by rw [← hW5]; exact H4.out.2.1.setRow, by rw [← hW5, ← H4.out.2.2.1]; simp [World.setRow]⟩); clear hb3 ro1 hbi hW1 hW2)
    | (go_at_call 65; refine (padded_r A c l _ (HS.out.1.keep H5.out.1) HS.out.2).mono ?_; rintro e w6 ⟨v6, rfl, ho6, hb6⟩; have H6 := Lib.hid (show Own w6 (g + 1) 5 1 c1 v6 (l ++ padL l.length) ∧ Below W5.heap.size W5 w6 from ⟨by rw [← H5.out.2.2.2.2]; exact ho6, hb6⟩); clear ho6 hb6 hg hW4 hW5 ro4))
  obtain ⟨N, hN⟩ := padded_len l
  obtain ⟨P, hP⟩ : ∃ P, l ++ padL l.length = P := ⟨_, rfl⟩
  have HPP := Lib.hid hP
  rw [hP] at H6 hN
  obtain ⟨A6, c6, rfl, hc6, hs6⟩ := H6.out.1.sl
  have hPl : 0 < P.length := by
    rw [← hP]
    simp [padL]
    omega
  obtain ⟨ad, rfl, -⟩ := Sl.byte hs6 hPl
  have HC := Lib.hid (show P.length = 64 * N ∧ P.length ≤ c6 ∧ P.length ≤ 1073741960 from ⟨hN, hc6, by rw [← hP, ← padT_all, List.length_append, padT_len, be8_len]; have h1 := HS.out.2; have h2 : padZ l.length < 64 := Nat.mod_lt _ (by decide); omega⟩)
  have H7 := Lib.hid (show SmR w b g (g + 1) ad c6 P 0 w6 from by
    have h56 := H6.out.2
    have hg := H4.out.2.2.2
    exact ⟨Below.step H5.out.1 h56, HB.out, by omega, by omega, H5.out.2.1.keep h56, H5.out.2.2.1.keep h56, H5.out.2.2.2.1.keep h56, H6.out.1⟩)
  obtain ⟨L, hL⟩ : ∃ L, P.length = L := ⟨_, rfl⟩
  rw [hL] at HC ⊢
  have HL := Lib.hid hL
  clear hb hN hP hc6 hs6 hPl hL H1 H2 H4 H5 H6
  go_loopw [6] (fun i wr => ∃ n q : Nat, q = 64 * n ∧ n ≤ N ∧ i = .int .i64 (q : Int) ∧ SmR w b g (g + 1) ad c6 P n wr) (fun i _ => 64 * N + 1 - (intOf i).toNat)
  case atStart => exact ⟨0, 0, rfl, Nat.zero_le _, rfl, H7.out⟩
  case round =>
    obtain ⟨n, q, hq, hn, rfl, hr⟩ := hrel
    have HR := Lib.hid hr
    clear hr
    by_cases hlt : n < N
    · have hqL : q + 64 ≤ L := by have := HC.out.1; omega
      have hqi : (q : Int) < (L : Int) := by omega
      have hqw : IntKind.i64.wrap ((q : Int) + 64) = (q : Int) + 64 := IntWalk.i64_in _ (by have := HC.out.2.2; omega)
      have hsl := slice_mid ad L c6 q (by have := HC.out.2.1; omega)
      have HSL := Lib.hid (show Sl wr c1 (some (ad.add q)) ((P.drop q).take 64) ∧ ((P.drop q).take 64).length = 64 from by
        have h := HR.out.own.sl
        obtain ⟨Aq, cq, e, h1, h2⟩ := h
        injection e with e1 e2 e3
        subst e1 e3
        exact ⟨h2.mid h1 (by rw [HL.out]; exact hqL), by rw [List.length_take, List.length_drop, HL.out]; omega⟩)
      have HQ := Lib.hid (And.intro hq hqL)
      clear hq hqL
      obtain ⟨h, hh⟩ : ∃ h, blks iniV n P = h := ⟨_, rfl⟩
      have HH := Lib.hid hh
      go_wp2_with (
        go_at_call 66
        refine (schedule_r (some (ad.add q)) (c6 - q) _ _ HSL.out.1 HSL.out.2).mono ?_
        rintro e w7 ⟨rfl, hb7⟩
        obtain ⟨M, hM⟩ : ∃ M, scT (be ((P.drop q).take 64)) 64 = M := ⟨_, rfl⟩
        rw [hM]
        have HM := Lib.hid hM
        obtain ⟨g7, hg7⟩ : ∃ g7, w7.heap.size = g7 := ⟨_, rfl⟩
        obtain ⟨W8, hW8⟩ : ∃ W8, w7.alloc (.cells (aL zL) 116) = W8 := ⟨_, rfl⟩
        obtain ⟨W9, hW9⟩ : ∃ W9, W8.setRow g7 (aL M) = W9 := ⟨_, rfl⟩
        obtain ⟨W10, hW10⟩ : ∃ W10, W9.alloc (.cells (aV zV) 115) = W10 := ⟨_, rfl⟩
        obtain ⟨W11, hW11⟩ : ∃ W11, W10.setRow (g7 + 1) (aV h) = W11 := ⟨_, rfl⟩
        have H8 := Lib.hid (show Below wr.heap.size wr W8 ∧ Row W8 g7 (cL zL) 116 ∧ W8.heap.size = g7 + 1 ∧ wr.heap.size ≤ g7 from ⟨by rw [← hW8]; exact Below.step hb7 (below_alloc _ _), by rw [← hW8, ← hg7]; exact Row.new w7 (cL zL) _, by rw [← hW8, ← hg7]; simp, by rw [← hg7]; exact hb7.size⟩)
        obtain ⟨-, -, ro8⟩ := rowL H8.out.2.1
        have H9 := Lib.hid (show Below wr.heap.size wr W9 ∧ Row W9 g7 (cL M) 116 ∧ W9.heap.size = g7 + 1 from ⟨by rw [← hW9]; exact Below.setRow H8.out.1 H8.out.2.2.2 _, by rw [← hW9]; exact H8.out.2.1.setRow, by rw [← hW9, ← H8.out.2.2.1]; simp [World.setRow]⟩)
        have H9h := (HR.out.keep H9.out.1).rh
        rw [hh] at H9h
        obtain ⟨x9, y9, -⟩ := rowV8 H9h
        have s9 := H9.out.2.2
        have H10 := Lib.hid (show SmI wr g7 M zV W10 from by
          rw [← hW10]
          have r := Row.new W9 (cV zV) 115
          rw [H9.out.2.2] at r
          exact ⟨Below.step H9.out.1 (below_alloc _ _), H8.out.2.2.2, H9.out.2.1.keep (below_alloc _ _), r⟩)
        have ro10 := H10.out.rv.okv
        have H11 := Lib.hid (show SmI wr g7 M h W11 from by rw [← hW11]; exact H10.out.set h)
        clear hb7 hM H9h)
      clear hqi hqw hsl hh hg7 hW8 hW9 hW10 hW11 ro8 x9 y9 s9 ro10 H8 H9 H10 HSL
      go_loopw [9] (fun i wi => ∃ t : Nat, t ≤ 64 ∧ i = .int .i64 (t : Int) ∧ SmI wr g7 M (rds h (be (P.drop q)) t) wi) (fun i _ => 64 - (intOf i).toNat)
      case atStart => exact ⟨0, by omega, rfl, H11.out⟩
      case round =>
        obtain ⟨t, ht, rfl, hi⟩ := hrel
        by_cases hlt2 : t < 64
        · have hti : (t : Int) < 64 := by omega
          obtain ⟨v, hv⟩ : ∃ v, rds h (be (P.drop q)) t = v := ⟨_, rfl⟩
          obtain ⟨x, hx⟩ : ∃ x, sw (be (P.drop q)) t = x := ⟨_, rfl⟩
          obtain ⟨kx, hkx⟩ : ∃ kx, kW t = kx := ⟨_, rfl⟩
          rw [hv] at hi
          have HI := Lib.hid hi
          have HV := Lib.hid (show rds h (be (P.drop q)) (t + 1) = rnd v kx x from by rw [rds, hv, hx, hkx])
          have hMx : M.1[t]? = some x := by rw [← HM.out, scT_sw _ _ hlt2, hx]
          have HK := Lib.hid (HR.out.keep HI.out.below)
          have hkt : kT.1[t]? = some kx := by rw [kT_at t hlt2, hkx]
          have HMX := Lib.hid (And.intro hMx hkt)
          have q4 : ∀ n, (wr.drewN n).cell? ⟨g7 + 1, 4, none⟩ = some (.int .u32 (iW v.e)) := fun n => (HI.out.rv.drewN n).cell 4
          have q5 : ∀ n, (wr.drewN n).cell? ⟨g7 + 1, 5, none⟩ = some (.int .u32 (iW v.f)) := fun n => (HI.out.rv.drewN n).cell 5
          have q6 : ∀ n, (wr.drewN n).cell? ⟨g7 + 1, 6, none⟩ = some (.int .u32 (iW v.g)) := fun n => (HI.out.rv.drewN n).cell 6
          have q7 : ∀ n, (wr.drewN n).cell? ⟨g7 + 1, 7, none⟩ = some (.int .u32 (iW v.i)) := fun n => (HI.out.rv.drewN n).cell 7
          have q8 : ∀ n, (wr.drewN n).cell? ⟨g, t, none⟩ = some (.int .u32 (iW kx)) := fun n => rowL_at (HK.out.rk.drewN n) HMX.out.2
          have q9 : ∀ n, (wr.drewN n).cell? ⟨g7, t, none⟩ = some (.int .u32 (iW x)) := fun n => rowL_at (HI.out.rm.drewN n) HMX.out.1
          clear hi hv hx hkx hMx hkt
          go_wp2_with fail
          go_quiet (first | (go_at_call 67; exact Calls.quiet_of (xrot_n _ _ (by decide) _)))
          have HIa := Lib.hid (HI.out.keep (below_drewN wr nq))
          have HKa := Lib.hid (HK.out.keep (below_drewN wr nq))
          obtain ⟨Wa, hWa⟩ : ∃ W, wr.drewN nq = W := ⟨_, rfl⟩
          obtain ⟨T, hT⟩ : ∃ T, rndT v kx x = T := ⟨_, rfl⟩
          rw [hWa] at HIa HKa ⊢
          rw [m_add, show v.i + (rr v.e 6 ^^^ rr v.e 11 ^^^ rr v.e 25) + (v.e &&& v.f ^^^ ~~~v.e &&& v.g) + kx + x = T from hT]
          clear q4 q5 q6 q7 q8 q9 hWa HMX
          have q0 : ∀ n, (Wa.drewN n).cell? ⟨g7 + 1, 0, none⟩ = some (.int .u32 (iW v.a)) := fun n => (HIa.out.rv.drewN n).cell 0
          have q1 : ∀ n, (Wa.drewN n).cell? ⟨g7 + 1, 1, none⟩ = some (.int .u32 (iW v.b)) := fun n => (HIa.out.rv.drewN n).cell 1
          have q2 : ∀ n, (Wa.drewN n).cell? ⟨g7 + 1, 2, none⟩ = some (.int .u32 (iW v.c)) := fun n => (HIa.out.rv.drewN n).cell 2
          go_wp2_with fail
          go_quiet (first | (go_at_call 67; exact Calls.quiet_of (xrot_n _ _ (by decide) _)))
          have HIb := Lib.hid (HIa.out.keep (below_drewN Wa nq))
          obtain ⟨Wb, hWb⟩ : ∃ W, Wa.drewN nq = W := ⟨_, rfl⟩
          obtain ⟨U, hU⟩ : ∃ U, rndU v = U := ⟨_, rfl⟩
          rw [hWb] at HIb ⊢
          rw [m_add, show (rr v.a 2 ^^^ rr v.a 13 ^^^ rr v.a 22) + (v.a &&& v.b ^^^ v.a &&& v.c ^^^ v.b &&& v.c) = U from hU]
          have HIc := Lib.hid (show SmI _ g7 M (rnd v kx x) (Wb.setRow (g7 + 1) (aV (rnd v kx x))) from HIb.out.set _)
          have hbv : ∀ w, (blA 115 #[(0, .int .u32 (iW (T + U))), (1, .int .u32 (iW v.a)), (2, .int .u32 (iW v.b)), (3, .int .u32 (iW v.c)), (4, .int .u32 (iW (v.d + T))), (5, .int .u32 (iW v.e)), (6, .int .u32 (iW v.f)), (7, .int .u32 (iW v.g))]).run Tryz.prog w = .ok (vV (rnd v kx x)) w := fun w => by
            rw [bl_V8, ← hT, ← hU]
            rfl
          have c0 := HIb.out.rv.cell 0
          have c1 := HIb.out.rv.cell 1
          have c2 := HIb.out.rv.cell 2
          have c3 := HIb.out.rv.cell 3
          have c4 := HIb.out.rv.cell 4
          have c5 := HIb.out.rv.cell 5
          have c6 := HIb.out.rv.cell 6
          have ro := HIb.out.rv.okv
          simp only [cV, List.getElem?_cons_zero, List.getElem?_cons_succ] at c0 c1 c2 c3 c4 c5 c6
          clear q0 q1 q2 hWb hT hU
          go_wp2
          go_roundw
          case rel => exact ⟨t + 1, by omega, by go_num, by rw [HV.out]; exact HIc.out⟩
          case measure => simp [intOf]; omega
        · have e64 : t = 64 := by omega
          have hti : ¬ (t : Int) < 64 := by omega
          rw [e64] at hi
          have HX := Lib.hid (SmX.start HR.out hi HH.out (HR.out.rh.lt))
          obtain ⟨y, hy⟩ : ∃ y, rds h (be (P.drop q)) 64 = y := ⟨_, rfl⟩
          rw [hy] at HX
          have HY := Lib.hid hy
          clear hi hy ht hlt2 e64
          go_wp2_with fail
          go_loopw [12] (fun i wi => ∃ j : Nat, j ≤ 8 ∧ i = .int .i64 (j : Int) ∧ SmX w b g (g + 1) (g7 + 1) ad c6 P h y j wi) (fun i _ => 8 - (intOf i).toNat)
          case atStart => exact ⟨0, by omega, rfl, HX.out⟩
          case round =>
            obtain ⟨j, hj, rfl, hxj⟩ := hrel
            have HX2 := Lib.hid hxj
            clear hxj
            by_cases hlt3 : j < 8
            · have hji : (j : Int) < 8 := by omega
              obtain ⟨a1, ha1⟩ := words_get h j hlt3
              obtain ⟨a2, ha2⟩ := words_get y j hlt3
              have HA := Lib.hid (And.intro ha1 ha2)
              have HCC := Lib.hid (And.intro (HX2.out.at_ hlt3 ha1) (cV_at HX2.out.rv ha2))
              clear ha1 ha2
              go_wp2_with fail
              refine AnyO.wp_any_tail 8 (by kernel_rfl) (by kernel_rfl) (by kernel_rfl) (by kernel_rfl) (by kernel_rfl) (by kernel_rfl) (pstP [isV (.int .i64 (j : Int)), isV (.int .i64 (j : Int)), isV (.pointer (some ⟨b + 1, j, none⟩)), isV (.int .u32 (iW a1)), isV (.int .i64 (j : Int)), isV (.pointer (some ⟨g7 + 1, j, none⟩)), isV (.int .u32 (iW a2)), isV (.int .u32 (iW (a1 + a2)))]) (MonoL.cons (Mono.v _) (MonoL.cons (Mono.v _) (MonoL.cons (Mono.v _) (MonoL.cons (Mono.v _) (MonoL.cons (Mono.v _) (MonoL.cons (Mono.v _) (MonoL.cons (Mono.v _) (MonoL.cons (Mono.v _) MonoL.nil)))))))) ?_ ?_
              · intro i hi
                have hi2 : i = 0 ∨ i = 1 ∨ i = 2 ∨ i = 3 ∨ i = 4 ∨ i = 5 ∨ i = 6 ∨ i = 7 := by omega
                clear hi
                rcases hi2 with rfl | rfl | rfl | rfl | rfl | rfl | rfl | rfl
                · -- 0: Op.move (Operand.tmp 12)
                  refine AnyO.Step.mk rfl [] (by kernel_rfl) ?_
                  intro vs u hE hp ac hb K hK
                  have s12 : ac.tmps[12]?.getD undef = .int .i64 (j : Int) := by rw [hb]; kernel_rfl
                  rw [if_pos (AnyO.wanted_none rfl)]
                  clear hb hp
                  go_simp
                  exact hK _ _ (Below.refl _ _) rfl
                · -- 1: Op.move (Operand.tmp 12)
                  refine AnyO.Step.mk rfl [] (by kernel_rfl) ?_
                  intro vs u hE hp ac hb K hK
                  have s12 : ac.tmps[12]?.getD undef = .int .i64 (j : Int) := by rw [hb]; kernel_rfl
                  rw [if_pos (AnyO.wanted_none rfl)]
                  clear hb hp
                  go_simp
                  exact hK _ _ (Below.refl _ _) rfl
                · -- 2: Op.indexAddr 115 (Operand.tmp 3) (Operand.tmp 125)
                  refine AnyO.Step.mk rfl [1] (by kernel_rfl) ?_
                  intro vs u hE hp ac hb K hK
                  have s3 : ac.tmps[3]?.getD undef = .pointer (some ⟨b + 1, 0, none⟩) := by rw [hb]; kernel_rfl
                  have s125 : ac.tmps[125]?.getD undef = .int .i64 (j : Int) := by rw [hb]; exact (show _ = vs 1 by kernel_rfl).trans (hp 1 (by decide))
                  rw [if_pos (AnyO.wanted_none rfl)]
                  clear hb hp
                  go_simp
                  exact hK _ _ (Below.refl _ _) rfl
                · -- 3: Op.load 114 (Operand.tmp 126)
                  refine AnyO.Step.mk rfl [2] (by kernel_rfl) ?_
                  intro vs u hE hp ac hb K hK
                  have s126 : ac.tmps[126]?.getD undef = .pointer (some ⟨b + 1, j, none⟩) := by rw [hb]; exact (show _ = vs 2 by kernel_rfl).trans (hp 2 (by decide))
                  rw [if_pos (AnyO.wanted_none rfl)]
                  clear hb hp
                  have r1 := cell_below HCC.out.1 (Below.step (below_drew wr) hE)
                  go_simp
                  exact hK _ _ (Below.refl _ _) rfl
                · -- 4: Op.move (Operand.tmp 12)
                  refine AnyO.Step.mk rfl [] (by kernel_rfl) ?_
                  intro vs u hE hp ac hb K hK
                  have s12 : ac.tmps[12]?.getD undef = .int .i64 (j : Int) := by rw [hb]; kernel_rfl
                  rw [if_pos (AnyO.wanted_none rfl)]
                  clear hb hp
                  go_simp
                  exact hK _ _ (Below.refl _ _) rfl
                · -- 5: Op.indexAddr 115 (Operand.tmp 8) (Operand.tmp 128)
                  refine AnyO.Step.mk rfl [4] (by kernel_rfl) ?_
                  intro vs u hE hp ac hb K hK
                  have s8 : ac.tmps[8]?.getD undef = .pointer (some ⟨g7 + 1, 0, none⟩) := by rw [hb]; kernel_rfl
                  have s128 : ac.tmps[128]?.getD undef = .int .i64 (j : Int) := by rw [hb]; exact (show _ = vs 4 by kernel_rfl).trans (hp 4 (by decide))
                  rw [if_pos (AnyO.wanted_none rfl)]
                  clear hb hp
                  go_simp
                  exact hK _ _ (Below.refl _ _) rfl
                · -- 6: Op.load 114 (Operand.tmp 129)
                  refine AnyO.Step.mk rfl [5] (by kernel_rfl) ?_
                  intro vs u hE hp ac hb K hK
                  have s129 : ac.tmps[129]?.getD undef = .pointer (some ⟨g7 + 1, j, none⟩) := by rw [hb]; exact (show _ = vs 5 by kernel_rfl).trans (hp 5 (by decide))
                  rw [if_pos (AnyO.wanted_none rfl)]
                  clear hb hp
                  have r1 := cell_below HCC.out.2 (Below.step (below_drew wr) hE)
                  go_simp
                  exact hK _ _ (Below.refl _ _) rfl
                · -- 7: Op.binOp BinOp.add 114 (Operand.tmp 127) (Operand.tmp 130) 1
                  refine AnyO.Step.mk rfl [3, 6] (by kernel_rfl) ?_
                  intro vs u hE hp ac hb K hK
                  have s127 : ac.tmps[127]?.getD undef = .int .u32 (iW a1) := by rw [hb]; exact (show _ = vs 3 by kernel_rfl).trans (hp 3 (by decide))
                  have s130 : ac.tmps[130]?.getD undef = .int .u32 (iW a2) := by rw [hb]; exact (show _ = vs 6 by kernel_rfl).trans (hp 6 (by decide))
                  rw [if_pos (AnyO.wanted_none rfl)]
                  clear hb hp
                  have r1 := m_add a1 a2
                  have r2 := w_add a1 a2
                  go_simp
                  exact hK _ _ (Below.refl _ _) rfl
              · intro vs u hE hp
                have e0 : vs 0 = .int .i64 (j : Int) := hp 0 (by decide)
                have e1 : vs 1 = .int .i64 (j : Int) := hp 1 (by decide)
                have e2 : vs 2 = .pointer (some ⟨b + 1, j, none⟩) := hp 2 (by decide)
                have e3 : vs 3 = .int .u32 (iW a1) := hp 3 (by decide)
                have e4 : vs 4 = .int .i64 (j : Int) := hp 4 (by decide)
                have e5 : vs 5 = .pointer (some ⟨g7 + 1, j, none⟩) := hp 5 (by decide)
                have e6 : vs 6 = .int .u32 (iW a2) := hp 6 (by decide)
                have e7 : vs 7 = .int .u32 (iW (a1 + a2)) := hp 7 (by decide)
                clear hp
                have HE := Lib.hid (HX2.out.keep hE); clear hE
                rw [puts_range [some 124, some 125, some 126, some 127, some 128, some 129, some 130, some 131] (by kernel_rfl)]
                simp only [putL, Nat.reduceAdd, List.drop_succ_cons, List.drop_zero, e0, e1, e2, e3, e4, e5, e6, e7]
                clear e0 e1 e2 e3 e4 e5 e6 e7
                go_simp
                have hfz : u.frozen? ⟨b + 1, j, none⟩ = false := HE.out.rh.fz j
                have hcl := HE.out.at_ hlt3 HA.out.1
                go_wp2
                go_roundw
                case rel => exact ⟨j + 1, by omega, by go_num, HE.out.set hlt3 HA.out.1 HA.out.2⟩
                case measure => simp [intOf]; omega
            · obtain rfl : j = 8 := by omega
              have HN := Lib.hid (show SmR w b g (g + 1) ad c6 P (n + 1) wr from by
                have hx := HX2.out
                rw [← HY.out] at hx
                exact hx.finish HH.out HQ.out.1)
              have hqw : IntKind.i64.wrap ((q : Int) + 64) = (q : Int) + 64 := IntWalk.i64_in _ (by have h1 := HC.out.2.2; have h2 := HQ.out.2; omega)
              go_wp2
              go_roundw
              case rel => exact ⟨n + 1, q + 64, by have := HQ.out.1; omega, by omega, by go_num, HN.out⟩
              case measure =>
                have h1 := HC.out.1
                have h2 := HQ.out.2
                simp [intOf]
                omega
    · obtain rfl : n = N := by omega
      have hqi : ¬ (q : Int) < (L : Int) := by have := HC.out.1; omega
      obtain ⟨V, hV⟩ : ∃ V, blks iniV n P = V := ⟨_, rfl⟩
      obtain ⟨gd, hgd⟩ : ∃ gd, wr.heap.size = gd := ⟨_, rfl⟩
      obtain ⟨Wd0, hWd⟩ : ∃ W, wr.alloc (.cells (aI zI) 35) = W := ⟨_, rfl⟩
      have HSH := Lib.hid (show V.bytes = sha l from by
        unfold sha shaF
        rw [HPP.out, HL.out, HC.out.1, show 64 * n / 64 = n by omega, hV])
      have HD := Lib.hid (show SmD w b V gd 0 Wd0 from by
        have hr := HR.out.rh
        rw [hV] at hr
        rw [← hWd]
        refine ⟨Below.step HR.out.below (below_alloc _ _), HR.out.size, by rw [← hgd]; exact HR.out.rh.lt, HR.out.r0.keep (below_alloc _ _), hr.keep (below_alloc _ _), ?_⟩
        rw [← hgd]
        exact Row.new wr (cI zI) _)
      clear hV
      go_wp2_with fail
      clear hgd hWd
      go_loopw [14] (fun i wi => ∃ j : Nat, j ≤ 32 ∧ i = .int .i64 (j : Int) ∧ SmD w b V gd j wi) (fun i _ => 32 - (intOf i).toNat)
      case atStart => exact ⟨0, by omega, rfl, HD.out⟩
      case round =>
        obtain ⟨j, hj, rfl, hd⟩ := hrel
        have HD2 := Lib.hid hd
        clear hd
        by_cases hlt3 : j < 32
        · have hji : (j : Int) < 32 := by omega
          obtain ⟨v0, hv0⟩ := HD2.out.has hlt3
          have hfz : wr.frozen? ⟨gd, j, none⟩ = false := HD2.out.rd.fz j
          obtain ⟨k, hk⟩ : ∃ k, j / 4 = k := ⟨_, rfl⟩
          have hk8 : k < 8 := by omega
          have hr4 : j % 4 = 0 ∨ j % 4 = 1 ∨ j % 4 = 2 ∨ j % 4 = 3 := by omega
          rcases hr4 with hr4 | hr4 | hr4 | hr4
          · obtain ⟨x, hx⟩ := words_get V k hk8
            have hcx := cV_at HD2.out.rh hx
            have hv := w_bytes x 0 24 16777216 rfl rfl
            have g1 : (j : Int) / 4 = (k : Int) := by omega
            have g2 : (j : Int) % 4 = 0 := by omega
            have HN := Lib.hid (HD2.out.set (show V.bytes[j]? = some (wB x 0) from by rw [show j = 4 * k + 0 by omega]; exact bytes_at V k 0 x hx (by decide)))
            have g3 : (k : Int) < 8 := by omega
            clear hk hr4 hx
            go_wp2
            go_roundw
            case rel => exact ⟨j + 1, by omega, by go_num, HN.out⟩
            case measure => simp [intOf]; omega
          · obtain ⟨x, hx⟩ := words_get V k hk8
            have hcx := cV_at HD2.out.rh hx
            have hv := w_bytes x 1 16 65536 rfl rfl
            have g1 : (j : Int) / 4 = (k : Int) := by omega
            have g2 : (j : Int) % 4 = 1 := by omega
            have HN := Lib.hid (HD2.out.set (show V.bytes[j]? = some (wB x 1) from by rw [show j = 4 * k + 1 by omega]; exact bytes_at V k 1 x hx (by decide)))
            have g3 : (k : Int) < 8 := by omega
            clear hk hr4 hx
            go_wp2
            go_roundw
            case rel => exact ⟨j + 1, by omega, by go_num, HN.out⟩
            case measure => simp [intOf]; omega
          · obtain ⟨x, hx⟩ := words_get V k hk8
            have hcx := cV_at HD2.out.rh hx
            have hv := w_bytes x 2 8 256 rfl rfl
            have g1 : (j : Int) / 4 = (k : Int) := by omega
            have g2 : (j : Int) % 4 = 2 := by omega
            have HN := Lib.hid (HD2.out.set (show V.bytes[j]? = some (wB x 2) from by rw [show j = 4 * k + 2 by omega]; exact bytes_at V k 2 x hx (by decide)))
            have g3 : (k : Int) < 8 := by omega
            clear hk hr4 hx
            go_wp2
            go_roundw
            case rel => exact ⟨j + 1, by omega, by go_num, HN.out⟩
            case measure => simp [intOf]; omega
          · obtain ⟨x, hx⟩ := words_get V k hk8
            have hcx := cV_at HD2.out.rh hx
            have hv := w_bytes x 3 0 1 rfl rfl
            have g1 : (j : Int) / 4 = (k : Int) := by omega
            have g2 : (j : Int) % 4 = 3 := by omega
            have HN := Lib.hid (HD2.out.set (show V.bytes[j]? = some (wB x 3) from by rw [show j = 4 * k + 3 by omega]; exact bytes_at V k 3 x hx (by decide)))
            have g3 : (k : Int) < 8 := by omega
            clear hk hr4 hx
            go_wp2
            go_roundw
            case rel => exact ⟨j + 1, by omega, by go_num, HN.out⟩
            case measure => simp [intOf]; omega
        · obtain rfl : j = 32 := by omega
          obtain ⟨x3, x4, -⟩ := rowI (v := digI V) HD2.out.rd
          obtain ⟨-, -, ro⟩ := rowI HD2.out.r0
          have HE : (digI V) = ⟨sha l, sha_length l⟩ := Subtype.ext HSH.out
          go_wp2
          have hld := load_a32 (at_setRow (cI (digI V)) ro)
          have hle : w.heap.size ≤ b := by have := HD2.out.size; omega
          rw [HE] at hld
          exact bodyPost_ret (results_c1 (ad := ⟨b, 0, none⟩) rfl rfl hld) rfl ⟨rfl, Below.setRow HD2.out.below hle _⟩
end Go.Proofs.YtecalodcbkljoaaGreatDoor
