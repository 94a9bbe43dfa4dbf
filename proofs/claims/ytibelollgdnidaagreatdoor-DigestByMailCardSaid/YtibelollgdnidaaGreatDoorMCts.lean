/- digest: the contents of a digest, walked. -/
import Derived.Test.YtibelollgdnidaaGreatDoorMCtp
namespace Go.Proofs.YtibelollgdnidaaGreatDoor
open Go.RowKit
def gN (ss : List (List UInt8)) : ByteArray → List ByteArray := fun s => (numS ss (bl s)).map tx
theorem ev_tmp {a : Act} {t : Nat} {v : Value} (h : a.tmps[t]?.getD undef = v) : a.eval (.tmp t) = v := by simpa [Act.eval] using h
theorem bNo : (⟨#[40, 110, 111, 32, 115, 117, 98, 106, 101, 99, 116, 41]⟩ : ByteArray) = tx noS := rfl
theorem b32 : (⟨#[32, 40]⟩ : ByteArray) = tx [32, 40] := rfl
theorem b41 : (⟨#[41]⟩ : ByteArray) = tx [41] := rfl
theorem tx_bl (s : ByteArray) : tx (bl s) = s := rfl
def Ct1 (w : World) (ss : List (List UInt8)) (v : Value) (wr : World) : Prop := ∃ f, CtI w.heap.size (w.heap.size + 1) w f v ((ordS ss).map tx) (gN ss) wr ∧ ∀ s, f s = none ↔ bl s ∉ ordS ss
theorem SM.both {w : World} {r : Nat} {f : ByteArray → Option Value} (h : SM w r f) (n : ByteArray) : (Instr.lookup 123 (.map (some r)) (.string n) true).run Tryz.prog w = .ok (.tuple #[fv f n, .bool (f n).isSome]) w := by
 cases hf : f n with
 | none => rw [h.look_none underMs (.slice none 0 0) (by kernel_rfl) n hf]; unfold fv; rw [hf]; rfl
 | some x => rw [(h.look underMs n x hf).1]; unfold fv; rw [hf]; rfl
theorem SM.one {w : World} {r : Nat} {f : ByteArray → Option Value} (h : SM w r f) (n : ByteArray) : (Instr.lookup 123 (.map (some r)) (.string n) false).run Tryz.prog w = .ok (fv f n) w := by
 cases hf : f n with
 | none =>
  obtain ⟨es, c, h1, h2⟩ := h
  obtain ⟨y, hy, hyf⟩ := h2 n
  rw [hf] at hyf
  have hk : Go.MapKept.IsKey .string (.string n) := trivial
  have hz : (zeroValue 29).run Tryz.prog w = .ok (.slice none 0 0) w := by kernel_rfl
  cases y with
  | none => unfold fv; rw [hf]; simp [Instr.lookup, run_underlying underMs, Go.MapKept.run_getObj_map h1, Go.MapKept.run_checkKey under_str hk, Go.MapKept.run_findKey under_str hy, Result.andThen, hz]
  | some z => cases hyf
 | some x => rw [(h.look underMs n x hf).2]; unfold fv; rw [hf]; rfl
def CB (B r : Nat) (w0 : World) (f : ByteArray → Option Value) (v3 : Value) (L3 : List ByteArray) (g : ByteArray → List ByteArray) (s x : ByteArray) (W : World) (v : Value) (u : World) : Bool → Bool → Bool → Prop
 | false, _, _ => Below W.heap.size W u ∧ u.heap.size = W.heap.size
 | true, false, _ => Below W.heap.size W u ∧ Sl u cS (some ⟨W.heap.size, 0, none⟩) [x]
 | true, true, false => W.grownBy u (fv f s).ownBlock ∧ Own u B 9 1 cS v (g s ++ [x]) ∧ (v.ownBlock = (fv f s).ownBlock ∨ ∃ k, v.ownBlock = some k ∧ W.heap.size ≤ k)
 | true, true, true => CtI B r w0 (fun t => if t = s then some v else f t) v3 L3 (updF g s (g s ++ [x])) u
section
variable {B r : Nat} {w0 : World} {f : ByteArray → Option Value} {v3 : Value} {L3 : List ByteArray} {g : ByteArray → List ByteArray} {s x : ByteArray} {W : World} {v : Value} {u u' : World} {d1 d2 d3 : Bool}
theorem CB.cell (h : CB B r w0 f v3 L3 g s x W v u d1 d2 false) {ib k : Nat} {y : Value} (hib : (fv f s).ownBlock ≠ some ib) (hk : ib < W.heap.size) (hc : W.cell? ⟨ib, k, none⟩ = some y) : u.cell? ⟨ib, k, none⟩ = some y := by
 have hb : u.heap[ib]? = W.heap[ib]? := by
  cases d1 with
  | false => exact h.1.block ib hk
  | true =>
   cases d2 with
   | false => exact h.1.block ib hk
   | true => exact h.1.block ib hk (fun e => hib e.symm)
 unfold World.cell? at hc ⊢
 rw [hb]
 exact hc
theorem CB.below (h : CB B r w0 f v3 L3 g s x W v u d1 false d3) : Below W.heap.size W u := by
 cases d1 with
 | false => exact h.1
 | true => exact h.1
theorem CB.put (hC : CtI B r w0 f v3 L3 g W) (h : CB B r w0 f v3 L3 g s x W v u true true false) : ∃ w', (Instr.mapUpdate 123 (.map (some r)) (.string s) v).run Tryz.prog u = .ok () w' ∧ CB B r w0 f v3 L3 g s x W v w' true true true := by
 obtain ⟨w', h1, h2, h3⟩ := (hC.map.same (h.1.block r hC.map.lt (fun e => hC.ne (hC.own s) e.symm))).upd underMs s v
 exact ⟨w', h1, hC.nums s h.2.1 h.1 h.2.2 h2 h3⟩
theorem CB.made (h : CB B r w0 f v3 L3 g s x W v u false d2 d3) : CB B r w0 f v3 L3 g s x W v (u.alloc (.cells #[.string x] 9)) true false d3 :=
 ⟨h.1.trans ((below_alloc u _).mono (by rw [h.2]; exact Nat.le_refl _)), by have := sl_newS u x; rwa [h.2] at this⟩
theorem CB.grew {v' : Value} (hC : CtI B r w0 f v3 L3 g W) (h : CB B r w0 f v3 L3 g s x W v u true false d3) (ho : Own u' B 9 1 cS v' (g s ++ [x])) (hg : u.grownBy u' (fv f s).ownBlock) (ha : v'.ownBlock = (fv f s).ownBlock ∨ v'.ownBlock = some u.heap.size) : CB B r w0 f v3 L3 g s x W v' u' true true false :=
 ⟨⟨hg.os.trans h.1.os, hg.tape.trans h.1.tape, hg.output.trans h.1.output, Nat.le_trans h.1.size hg.size, fun k hk hne => (hg.block k (Nat.lt_of_lt_of_le hk h.1.size) hne).trans (h.1.block k hk)⟩, ho, ha.imp id fun e => ⟨_, e, h.1.size⟩⟩
theorem Ct1.next {w : World} {ss : List (List UInt8)} {s : List UInt8} (hdom : ∀ t, f t = none ↔ bl t ∉ ordS ss) (h : CtI w.heap.size (w.heap.size + 1) w (fun t => if t = tx s then some v else f t) v3 ((ordS (ss ++ [s])).map tx) (updF (gN ss) (tx s) (gN ss (tx s) ++ [tx [dg (ss.length + 1)]])) u) : Ct1 w (ss ++ [s]) v3 u := by
 have hbt : ∀ t : ByteArray, t = tx s ↔ bl t = s := fun t => ⟨fun e => by rw [e]; rfl, fun e => by rw [← e]; rfl⟩
 refine ⟨fun t => if t = tx s then some v else f t, ?_, fun t => ?_⟩
 ·have e : gN (ss ++ [s]) = updF (gN ss) (tx s) (gN ss (tx s) ++ [tx [dg (ss.length + 1)]]) := by
   funext t
   by_cases ht : t = tx s
   ·subst ht
    rw [updF_self]
    unfold gN
    rw [bl_tx, numS_snoc, if_pos rfl, List.map_append]
    rfl
   ·rw [updF_other _ _ ht]
    unfold gN
    rw [numS_snoc, if_neg (fun e => ht ((hbt t).2 e.symm))]
  rw [e]
  exact h
 ·show (if t = tx s then some v else f t) = none ↔ _
  by_cases ht : t = tx s
  ·rw [if_pos ht, ht, bl_tx, ordS_snoc]
   split
   ·rename_i hm
    exact ⟨fun e => (by cases e), fun e => absurd hm e⟩
   ·exact ⟨fun e => (by cases e), fun e => absurd (List.mem_append.2 (Or.inr (List.mem_singleton.2 rfl))) e⟩
  ·rw [if_neg ht, hdom t, ordS_snoc]
   split
   ·exact Iff.rfl
   ·rw [List.mem_append, List.mem_singleton, not_or]
    exact ⟨fun h => ⟨h, fun e => ht ((hbt t).2 e)⟩, fun h => h.1⟩
end
set_option maxRecDepth 100000 in
set_option maxHeartbeats 3200000 in
theorem contents42 (t : List UInt8) (n dt : Nat) (A : Option Addr) (c : Nat) (xs : List It) (w : World) (hs : Sl w cIt A xs) (hc : xs.length ≤ c) (h8 : xs.length ≤ 8) (hz : ∀ x ∈ xs, x.subj.length ≤ 1000) : Calls Tryz.prog 42 #[vDg t n dt (.slice A xs.length c)] w fun e w' => ∃ v, e = .returned v ∧ Own w' w.heap.size 9 1 cS v ((ctS (xs.map (·.subj))).map tx) ∧ Below w.heap.size w w' := by
 obtain ⟨ss, hss⟩ : ∃ ss, xs.map (·.subj) = ss := ⟨_, rfl⟩
 have hsl : ss.length = xs.length := by rw [← hss, List.length_map]
 rw [hss]
 have hse : ∀ k (hk : k < xs.length), ss.take (k + 1) = ss.take k ++ [xs[k].subj] := by
  intro k hk
  rw [List.take_succ_eq_append_getElem (by omega)]
  congr 2
  simp [← hss]
 have hm := @run_makeMap Tryz.prog
 have B0 := Below.step (below_alloc w (.cells #[.string (tx t), .int .i64 1, .int .i64 (n : Int), .int .i64 (dt : Int), .slice A xs.length c] 39)) (below_alloc _ (.map #[] 0))
 have S0 : Ct1 w (ss.take 0) (.slice none 0 0) ((w.alloc (.cells #[.string (tx t), .int .i64 1, .int .i64 (n : Int), .int .i64 (dt : Int), .slice A xs.length c] 39)).alloc (.map #[] 0)) := by
  refine ⟨fun _ => none, ⟨B0, by rw [World.size_alloc, World.size_alloc]; omega, by omega, ?_, Own.nil _ _ _ _ _, fun s => Own.nil _ _ _ _ _, fun _ _ _ k hk => by (cases hk), fun _ k hk => by (cases hk)⟩, fun s => ?_⟩
  ·have := SM.made (w.alloc (.cells #[.string (tx t), .int .i64 1, .int .i64 (n : Int), .int .i64 (dt : Int), .slice A xs.length c] 39))
   rw [World.size_alloc] at this
   exact this
  ·simp [ordS]
 have HS := Lib.hid S0
 have HX2 := Lib.hid hss
 have HX := Lib.hid (And.intro hs (And.intro hc (And.intro h8 (And.intro hz (And.intro hsl hse)))))
 clear hs hz S0 B0 hse hsl
 unfold vDg
 obtain ⟨tt, htt⟩ : ∃ tt, tx t = tt := ⟨_, rfl⟩
 rw [htt] at HS
 rw [htt]
 clear htt hss
 go_enter Tryz.func42, Tryz.ntmps42
 go_wp2
 go_loopw [3, 17] (fun v i wr => ∃ k : Nat, k ≤ xs.length ∧ i = .int .i64 (k : Int) ∧ Ct1 w (ss.take k) v wr) (fun v i _ => xs.length - (intOf i).toNat)
 case atStart => exact ⟨0, Nat.zero_le _, rfl, HS.out⟩
 case round =>
  obtain ⟨k, hk, rfl, hst⟩ := hrel
  by_cases hlt : k < xs.length
  ·obtain ⟨f, hci, hdom⟩ := hst
   obtain ⟨x, hxe⟩ : ∃ x, xs[k] = x := ⟨_, rfl⟩
   obtain ⟨ad, rfl, ho1, ho2⟩ := Sl.it (HX.out.1.keep hci.bel) hlt
   rw [hxe] at ho2
   have hC1 := hci.keep (below_alloc wr (.cells (aIt x) 36))
   have hr1 := Row.new wr (cIt x) 36
   have hc2 : (wr.alloc (.cells (aIt x) 36)).cell? ⟨wr.heap.size, 2, none⟩ = some (.string (tx x.subj)) := hr1.cell 2
   have hlk := hC1.map.both (tx x.subj)
   have hid := hdom (tx x.subj)
   have hsub : u3.ownBlock ≠ some wr.heap.size := fun e => absurd (hci.sub.lt _ e).2 (Nat.lt_irrefl _)
   have H1 := Lib.hid (And.intro hci (And.intro hC1 (And.intro hdom (And.intro hxe hsub))))
   clear hci hC1 hdom hr1
   by_cases hmem : x.subj ∈ ordS (ss.take k)
   ·have hsm : (f (tx x.subj)).isSome = true := by
     rw [Option.isSome_iff_ne_none]
     exact fun e => (hid.1 e) hmem
    rw [hsm] at hlk
    clear hid hsm
    go_wp2
    have hcW := hc2
    have C2 := H1.out.2.1
    have hsm2 : ordS (ss.take (k + 1)) = ordS (ss.take k) := by rw [HX.out.2.2.2.2.2 k hlt, hxe, ordS_snoc, if_pos hmem]
    rw [← hsm2] at C2
    have hibl : wr.heap.size < (wr.alloc (.cells (aIt x) 36)).heap.size := by rw [World.size_alloc]; omega
    have HR := Lib.hid (And.intro C2 (And.intro hcW (And.intro hibl (H1.out.2.2.1))))
    clear C2 hcW hibl hlk hc2 hsm2 ho1 ho2 hsub
    revert HR
    generalize wr.alloc (.cells (aIt x) 36) = W
    intro HR
    obtain ⟨V3, rfl⟩ : ∃ V3, V3 = u3 := ⟨_, rfl⟩
    have HN := Lib.hid (show (fv f (tx x.subj)).ownBlock ≠ some wr.heap.size from fun e => absurd ((H1.out.1.own (tx x.subj)).lt _ e).2 (Nat.lt_irrefl _))
    have hlen2 := HX.out.2.2.2.2.1
    have HNL := Lib.hid (show ((gN (ss.take k) (tx x.subj)).length + 1) * 16 ≤ 140737488355328 ∧ (gN (ss.take k) (tx x.subj)).length + 1 ≤ 9223372036854775807 by have := numS_len (ss.take k) x.subj; have := List.length_take_le k ss; unfold gN; rw [List.length_map, bl_tx]; omega)
    have HI : ∀ u : World, Hid (Calls Tryz.prog 58 #[.int .i64 ((k : Int) + 1)] u fun e w' => e = .returned (.string (tx [dg (k + 1)])) ∧ w' = u) := by
     intro u
     have := Tryz.strconv_Itoa_small (k + 1) (by omega) u
     rw [dec_dg (by omega), Int.natCast_add] at this
     exact Lib.hid this
    have hk9 : (k : Int) < 8 := by omega
    have hwr : IntKind.i64.wrap ((k : Int) + 1) = (k : Int) + 1 := by rw [IntKind.wrap_i64]; omega
    refine AnyO.wp_anyI (by kernel_rfl) (by kernel_rfl) (AnyO.InvG (σ := Value) (fun σ => AnyO.pvL [some (.map (some (w.heap.size + 1))), some (.pointer (some ⟨wr.heap.size, 2, none⟩)), some (.string (tx x.subj)), some (.map (some (w.heap.size + 1))), some (.pointer (some ⟨wr.heap.size, 2, none⟩)), some (.string (tx x.subj)), some (fv f (tx x.subj)), some (.int .i64 (k : Int)), some (.int .i64 ((k : Int) + 1)), some (.string (tx [dg (k + 1)])), some (.slice (some ⟨W.heap.size, 0, none⟩) 1 1), some (σ), none]) (fun σ D u => CB w.heap.size (w.heap.size + 1) w f V3 ((ordS (ss.take (k + 1))).map tx) (gN (ss.take k)) (tx x.subj) (tx [dg (k + 1)]) W σ u (D 10) (D 11) (D 12))) (AnyO.InvG.start (g := .slice none 0 0) (⟨below_drew _, rfl⟩)) ?_ ?_
    ·intro i hi
     have hi2 : i = 2 ∨ i = 5 ∨ i = 6 ∨ i = 9 ∨ i = 10 ∨ i = 11 ∨ i = 12 ∨ i = 0 ∨ i = 1 ∨ i = 3 ∨ i = 4 ∨ i = 7 ∨ i = 8 := by simp only [List.size_toArray, List.length_cons, List.length_nil] at hi; omega
     clear hi
     rcases hi2 with rfl | rfl | rfl | rfl | rfl | rfl | rfl | rfl | rfl | rfl | rfl | rfl | rfl
     ·refine AnyO.I rfl [1] ?_; rintro D vs u σ Q h0 hC hp ac hb K hK
      have s37 : _ = _ := AnyO.sv 37 1 hb hp Q
      have hf12 := AnyO.fls (hC.out 12) h0 (by kernel_rfl)
      have hst := Q.out.2
      rw [hf12] at hst
      have rr := CB.cell hst HN.out HR.out.2.2.1 HR.out.2.1
      clear hst hf12
      go_simp; exact hK _ _ (AnyO.InvG.step (g := σ) Q.out.1 rfl Q.out.2)
     ·refine AnyO.I rfl [4] ?_; rintro D vs u σ Q h0 hC hp ac hb K hK
      have s40 : _ = _ := AnyO.sv 40 4 hb hp Q
      have hf6 := AnyO.fls (hC.out 6) h0 (by kernel_rfl)
      have hf11 := AnyO.fls (hC.out 11) hf6 (by kernel_rfl)
      have hf12 := AnyO.fls (hC.out 12) hf11 (by kernel_rfl)
      have hst := Q.out.2
      rw [hf12] at hst
      have rr := CB.cell hst HN.out HR.out.2.2.1 HR.out.2.1
      clear hst hf12 hf11 hf6
      go_simp; exact hK _ _ (AnyO.InvG.step (g := σ) Q.out.1 rfl Q.out.2)
     ·refine AnyO.I rfl [3, 5] ?_; rintro D vs u σ Q h0 hC hp ac hb K hK
      have s39 : _ = _ := AnyO.sv 39 3 hb hp Q
      have s41 : _ = _ := AnyO.sv 41 5 hb hp Q
      have hf11 := AnyO.fls (hC.out 11) h0 (by kernel_rfl)
      have hst := Q.out.2
      rw [hf11] at hst
      have rr := (HR.out.1.map.keep hst.below).one (tx x.subj)
      clear hst hf11
      go_simp; exact hK _ _ (AnyO.InvG.step (g := σ) Q.out.1 rfl Q.out.2)
     ·refine AnyO.I rfl [8] ?_; rintro D vs u σ Q h0 hC hp ac hb K hK
      have s44 : _ = _ := AnyO.sv 44 8 hb hp Q
      go_simp
      go_at_call 58
      refine (HI u).out.mono ?_
      rintro e w2 ⟨rfl, rfl⟩
      exact hK _ _ (AnyO.InvG.step (g := σ) Q.out.1 rfl Q.out.2)
     ·refine AnyO.I rfl [9] ?_; rintro D vs u σ Q h0 hC hp ac hb K hK
      have s45 : _ = _ := AnyO.sv 45 9 hb hp Q
      have hf11 := AnyO.fls (hC.out 11) h0 (by kernel_rfl)
      have hst := Q.out.2
      rw [h0] at hst
      have HST := Lib.hid hst
      clear hst
      go_simp
      rw [HST.out.2]
      exact hK _ _ (AnyO.InvG.step (g := σ) Q.out.1 rfl (by rw [show AnyO.addD D 10 10 = true from rfl, show AnyO.addD D 10 11 = D 11 from rfl, hf11]; exact HST.out.made))
     ·refine AnyO.I rfl [6, 10, 9] ?_; rintro D vs u σ Q h0 hC hp ac hb K hK
      have s42 : _ = _ := AnyO.sv 42 6 hb hp Q
      have s46 : _ = _ := AnyO.sv 46 10 hb hp Q
      have hp10 : D 10 = true := hp.out 10 (by decide)
      have hf12 := AnyO.fls (hC.out 12) h0 (by kernel_rfl)
      have hst := Q.out.2
      rw [hp10, h0] at hst
      refine wp_append_sl_at u (.tmp 42) (.tmp 46) 29 rfl w.heap.size 9 1 16 cS underSs rowS (by decide) cS_length cS_one (fv f (tx x.subj)) (gN (ss.take k) (tx x.subj)) (ev_tmp s42) ((HR.out.1.own _).keep hst.1) _ 1 1 [tx [dg (k + 1)]] rfl (by simp) (ev_tmp s46) hst.2 HNL.out.1 HNL.out.2 (Nat.le_trans HR.out.1.le hst.1.size) ?_
      intro v9 w2 ho2 hg2 ha2
      refine hK _ _ (AnyO.InvG.ghost (g := σ) v9 Q.out.1 ?_ rfl ?_)
      ·intro j hj hq
       rcases j with _ | _ | _ | _ | _ | _ | _ | _ | _ | _ | _ | _ | _ | j
       all_goals first | exact hq | exact absurd (show D 11 = true from hj) (by rw [h0]; decide) | exact absurd (show D 12 = true from hj) (by rw [hf12]; decide)
      rw [show AnyO.addD D 11 10 = D 10 from rfl, hp10, show AnyO.addD D 11 11 = true from rfl, show AnyO.addD D 11 12 = D 12 from rfl, hf12]
      exact CB.grew HR.out.1 hst ho2 hg2 ha2
     ·refine AnyO.I rfl [0, 2, 11, 11, 0, 1, 2, 3, 4, 5, 6, 7, 8, 9, 10, 11] ?_; rintro D vs u σ Q h0 hC hp ac hb K hK
      have s36 : _ = _ := AnyO.sv 36 0 hb hp Q
      have s38 : _ = _ := AnyO.sv 38 2 hb hp Q
      have s47 : _ = _ := AnyO.sv 47 11 hb hp Q
      have hp11 : D 11 = true := hp.out 11 (by decide)
      have hp10 : D 10 = true := hC.out 11 hp11 10 (by rw [show AnyO.pre _ 11 = [6, 10, 9] from by kernel_rfl]; decide)
      have hst := Q.out.2
      rw [hp10, hp11, h0] at hst
      obtain ⟨w9, hrun, hst9⟩ := CB.put HR.out.1 hst
      have HST := Lib.hid hst9
      clear hst hst9
      go_simp
      exact hK undef _ (AnyO.InvG.step (g := σ) Q.out.1 trivial (by rw [show AnyO.addD D 12 10 = D 10 from rfl, hp10, show AnyO.addD D 12 11 = D 11 from rfl, hp11, show AnyO.addD D 12 12 = true from rfl]; exact HST.out))
     all_goals
      refine AnyO.J rfl ?_; rintro D vs u σ Q h0 hC hp ac hb K hK
      try have s4 : ac.tmps[4]?.getD undef = .map (some (w.heap.size + 1)) := by rw [hb.out]; kernel_rfl
      try have s6 : ac.tmps[6]?.getD undef = .pointer (some ⟨wr.heap.size, 0, none⟩) := by rw [hb.out]; kernel_rfl
      try have s5 : ac.tmps[5]?.getD undef = .int .i64 (k : Int) := by rw [hb.out]; kernel_rfl
      try have s43 : _ = _ := AnyO.sv 43 7 hb hp Q
      go_simp
      exact hK _ _ (AnyO.InvG.step (g := σ) Q.out.1 rfl Q.out.2)
    ·intro D vs u hI hD
     obtain ⟨σ, hP, hW⟩ := hI
     have e0 : _ = _ := hP 0 (hD 0 (by decide))
     have e1 : _ = _ := hP 1 (hD 1 (by decide))
     have e2 : _ = _ := hP 2 (hD 2 (by decide))
     have e3 : _ = _ := hP 3 (hD 3 (by decide))
     have e4 : _ = _ := hP 4 (hD 4 (by decide))
     have e5 : _ = _ := hP 5 (hD 5 (by decide))
     have e6 : _ = _ := hP 6 (hD 6 (by decide))
     have e7 : _ = _ := hP 7 (hD 7 (by decide))
     have e8 : _ = _ := hP 8 (hD 8 (by decide))
     have e9 : _ = _ := hP 9 (hD 9 (by decide))
     have e10 : _ = _ := hP 10 (hD 10 (by decide))
     have e11 : _ = _ := hP 11 (hD 11 (by decide))
     rw [show D 10 = true from hD 10 (by decide), show D 11 = true from hD 11 (by decide), show D 12 = true from hD 12 (by decide)] at hW
     have HW := Lib.hid hW
     clear hW hP hD
     rw [puts_range [some 36, some 37, some 38, some 39, some 40, some 41, some 42, some 43, some 44, some 45, some 46, some 47, none] (by kernel_rfl)]
     simp only [putL, Nat.reduceAdd, e0, e1, e2, e3, e4, e5, e6, e7, e8, e9, e10, e11]
     clear e0 e1 e2 e3 e4 e5 e6 e7 e8 e9 e10 e11
     have HF := Lib.hid (Ct1.next (s := x.subj) HR.out.2.2.2 (by rw [show ss.take k ++ [x.subj] = ss.take (k + 1) by rw [HX.out.2.2.2.2.2 k hlt, hxe], show (ss.take k).length = k by rw [List.length_take]; omega]; exact HW.out))
     go_simp
     go_wp2
     refine ⟨⟨k + 1, hlt, by rw [Int.natCast_add]; rfl, ?_⟩, by simp [intOf]; omega⟩
     rw [show ss.take (k + 1) = ss.take k ++ [x.subj] by rw [HX.out.2.2.2.2.2 k hlt, hxe]]
     exact HF.out
   ·have hsm : (f (tx x.subj)).isSome = false := by
     rw [Option.isSome_eq_false_iff, Option.isNone_iff_eq_none]
     exact hid.2 hmem
    rw [hsm] at hlk
    clear hid hsm
    have hsl1 := sl_newS (wr.alloc (.cells (aIt x) 36)) (tx x.subj)
    rw [World.size_alloc] at hsl1
    have HSL := Lib.hid hsl1
    clear hsl1
    go_wp2_with (first
     | (at_builtin; go_loud (refine wpList_append_sl_at _ rfl (.tmp 31) (.tmp 34) 29 rfl w.heap.size 9 1 16 cS underSs rowS (by decide) cS_length cS_one u3 ((ordS (ss.take k)).map tx) rfl (H1.out.2.1.sub.keep (below_alloc _ _)) _ 1 _ [tx x.subj] rfl (by simp) rfl HSL.out (by have := ordS_len (ss.take k); have := List.length_take_le k ss; rw [List.length_map]; omega) (by have := ordS_len (ss.take k); have := List.length_take_le k ss; rw [List.length_map]; omega) (Nat.le_trans H1.out.2.1.le (below_alloc _ _).size) ?_)))
    intro V3 W ho hg hat
    have hcW : W.cell? ⟨wr.heap.size, 2, none⟩ = some (.string (tx x.subj)) := by
     have hb : W.heap[wr.heap.size]? = (wr.alloc (.cells (aIt x) 36)).heap[wr.heap.size]? := (hg.block _ (by rw [World.size_alloc, World.size_alloc]; omega) (fun e => hsub e.symm)).trans ((below_alloc (wr.alloc (.cells (aIt x) 36)) (.cells #[.string (tx x.subj)] 9)).block _ (by rw [World.size_alloc]; omega))
     unfold World.cell? at hc2 ⊢
     rw [hb]
     exact hc2
    have C2 := (H1.out.2.1.keep (below_alloc _ (.cells #[.string (tx x.subj)] 9))).subs ho hg (by rw [World.size_alloc, World.size_alloc]; exact hat)
    have hsm2 : (ordS (ss.take (k + 1))).map tx = (ordS (ss.take k)).map tx ++ [tx x.subj] := by rw [HX.out.2.2.2.2.2 k hlt, hxe, ordS_snoc, if_neg hmem, List.map_append]; rfl
    rw [← hsm2] at C2
    have hibl : wr.heap.size < W.heap.size := Nat.lt_of_lt_of_le (by rw [World.size_alloc, World.size_alloc]; omega) hg.size
    have HR := Lib.hid (And.intro C2 (And.intro hcW (And.intro hibl (H1.out.2.2.1))))
    clear C2 hcW hibl hlk hc2 hsm2 ho1 ho2 hsub ho hg hat
    go_wp2
    have HN := Lib.hid (show (fv f (tx x.subj)).ownBlock ≠ some wr.heap.size from fun e => absurd ((H1.out.1.own (tx x.subj)).lt _ e).2 (Nat.lt_irrefl _))
    have hlen2 := HX.out.2.2.2.2.1
    have HNL := Lib.hid (show ((gN (ss.take k) (tx x.subj)).length + 1) * 16 ≤ 140737488355328 ∧ (gN (ss.take k) (tx x.subj)).length + 1 ≤ 9223372036854775807 by have := numS_len (ss.take k) x.subj; have := List.length_take_le k ss; unfold gN; rw [List.length_map, bl_tx]; omega)
    have HI : ∀ u : World, Hid (Calls Tryz.prog 58 #[.int .i64 ((k : Int) + 1)] u fun e w' => e = .returned (.string (tx [dg (k + 1)])) ∧ w' = u) := by
     intro u
     have := Tryz.strconv_Itoa_small (k + 1) (by omega) u
     rw [dec_dg (by omega), Int.natCast_add] at this
     exact Lib.hid this
    have hk9 : (k : Int) < 8 := by omega
    have hwr : IntKind.i64.wrap ((k : Int) + 1) = (k : Int) + 1 := by rw [IntKind.wrap_i64]; omega
    refine AnyO.wp_anyI (by kernel_rfl) (by kernel_rfl) (AnyO.InvG (σ := Value) (fun σ => AnyO.pvL [some (.map (some (w.heap.size + 1))), some (.pointer (some ⟨wr.heap.size, 2, none⟩)), some (.string (tx x.subj)), some (.map (some (w.heap.size + 1))), some (.pointer (some ⟨wr.heap.size, 2, none⟩)), some (.string (tx x.subj)), some (fv f (tx x.subj)), some (.int .i64 (k : Int)), some (.int .i64 ((k : Int) + 1)), some (.string (tx [dg (k + 1)])), some (.slice (some ⟨W.heap.size, 0, none⟩) 1 1), some (σ), none]) (fun σ D u => CB w.heap.size (w.heap.size + 1) w f V3 ((ordS (ss.take (k + 1))).map tx) (gN (ss.take k)) (tx x.subj) (tx [dg (k + 1)]) W σ u (D 10) (D 11) (D 12))) (AnyO.InvG.start (g := .slice none 0 0) (⟨below_drew _, rfl⟩)) ?_ ?_
    ·intro i hi
     have hi2 : i = 2 ∨ i = 5 ∨ i = 6 ∨ i = 9 ∨ i = 10 ∨ i = 11 ∨ i = 12 ∨ i = 0 ∨ i = 1 ∨ i = 3 ∨ i = 4 ∨ i = 7 ∨ i = 8 := by simp only [List.size_toArray, List.length_cons, List.length_nil] at hi; omega
     clear hi
     rcases hi2 with rfl | rfl | rfl | rfl | rfl | rfl | rfl | rfl | rfl | rfl | rfl | rfl | rfl
     ·refine AnyO.I rfl [1] ?_; rintro D vs u σ Q h0 hC hp ac hb K hK
      have s37 : _ = _ := AnyO.sv 37 1 hb hp Q
      have hf12 := AnyO.fls (hC.out 12) h0 (by kernel_rfl)
      have hst := Q.out.2
      rw [hf12] at hst
      have rr := CB.cell hst HN.out HR.out.2.2.1 HR.out.2.1
      clear hst hf12
      go_simp; exact hK _ _ (AnyO.InvG.step (g := σ) Q.out.1 rfl Q.out.2)
     ·refine AnyO.I rfl [4] ?_; rintro D vs u σ Q h0 hC hp ac hb K hK
      have s40 : _ = _ := AnyO.sv 40 4 hb hp Q
      have hf6 := AnyO.fls (hC.out 6) h0 (by kernel_rfl)
      have hf11 := AnyO.fls (hC.out 11) hf6 (by kernel_rfl)
      have hf12 := AnyO.fls (hC.out 12) hf11 (by kernel_rfl)
      have hst := Q.out.2
      rw [hf12] at hst
      have rr := CB.cell hst HN.out HR.out.2.2.1 HR.out.2.1
      clear hst hf12 hf11 hf6
      go_simp; exact hK _ _ (AnyO.InvG.step (g := σ) Q.out.1 rfl Q.out.2)
     ·refine AnyO.I rfl [3, 5] ?_; rintro D vs u σ Q h0 hC hp ac hb K hK
      have s39 : _ = _ := AnyO.sv 39 3 hb hp Q
      have s41 : _ = _ := AnyO.sv 41 5 hb hp Q
      have hf11 := AnyO.fls (hC.out 11) h0 (by kernel_rfl)
      have hst := Q.out.2
      rw [hf11] at hst
      have rr := (HR.out.1.map.keep hst.below).one (tx x.subj)
      clear hst hf11
      go_simp; exact hK _ _ (AnyO.InvG.step (g := σ) Q.out.1 rfl Q.out.2)
     ·refine AnyO.I rfl [8] ?_; rintro D vs u σ Q h0 hC hp ac hb K hK
      have s44 : _ = _ := AnyO.sv 44 8 hb hp Q
      go_simp
      go_at_call 58
      refine (HI u).out.mono ?_
      rintro e w2 ⟨rfl, rfl⟩
      exact hK _ _ (AnyO.InvG.step (g := σ) Q.out.1 rfl Q.out.2)
     ·refine AnyO.I rfl [9] ?_; rintro D vs u σ Q h0 hC hp ac hb K hK
      have s45 : _ = _ := AnyO.sv 45 9 hb hp Q
      have hf11 := AnyO.fls (hC.out 11) h0 (by kernel_rfl)
      have hst := Q.out.2
      rw [h0] at hst
      have HST := Lib.hid hst
      clear hst
      go_simp
      rw [HST.out.2]
      exact hK _ _ (AnyO.InvG.step (g := σ) Q.out.1 rfl (by rw [show AnyO.addD D 10 10 = true from rfl, show AnyO.addD D 10 11 = D 11 from rfl, hf11]; exact HST.out.made))
     ·refine AnyO.I rfl [6, 10, 9] ?_; rintro D vs u σ Q h0 hC hp ac hb K hK
      have s42 : _ = _ := AnyO.sv 42 6 hb hp Q
      have s46 : _ = _ := AnyO.sv 46 10 hb hp Q
      have hp10 : D 10 = true := hp.out 10 (by decide)
      have hf12 := AnyO.fls (hC.out 12) h0 (by kernel_rfl)
      have hst := Q.out.2
      rw [hp10, h0] at hst
      refine wp_append_sl_at u (.tmp 42) (.tmp 46) 29 rfl w.heap.size 9 1 16 cS underSs rowS (by decide) cS_length cS_one (fv f (tx x.subj)) (gN (ss.take k) (tx x.subj)) (ev_tmp s42) ((HR.out.1.own _).keep hst.1) _ 1 1 [tx [dg (k + 1)]] rfl (by simp) (ev_tmp s46) hst.2 HNL.out.1 HNL.out.2 (Nat.le_trans HR.out.1.le hst.1.size) ?_
      intro v9 w2 ho2 hg2 ha2
      refine hK _ _ (AnyO.InvG.ghost (g := σ) v9 Q.out.1 ?_ rfl ?_)
      ·intro j hj hq
       rcases j with _ | _ | _ | _ | _ | _ | _ | _ | _ | _ | _ | _ | _ | j
       all_goals first | exact hq | exact absurd (show D 11 = true from hj) (by rw [h0]; decide) | exact absurd (show D 12 = true from hj) (by rw [hf12]; decide)
      rw [show AnyO.addD D 11 10 = D 10 from rfl, hp10, show AnyO.addD D 11 11 = true from rfl, show AnyO.addD D 11 12 = D 12 from rfl, hf12]
      exact CB.grew HR.out.1 hst ho2 hg2 ha2
     ·refine AnyO.I rfl [0, 2, 11, 11, 0, 1, 2, 3, 4, 5, 6, 7, 8, 9, 10, 11] ?_; rintro D vs u σ Q h0 hC hp ac hb K hK
      have s36 : _ = _ := AnyO.sv 36 0 hb hp Q
      have s38 : _ = _ := AnyO.sv 38 2 hb hp Q
      have s47 : _ = _ := AnyO.sv 47 11 hb hp Q
      have hp11 : D 11 = true := hp.out 11 (by decide)
      have hp10 : D 10 = true := hC.out 11 hp11 10 (by rw [show AnyO.pre _ 11 = [6, 10, 9] from by kernel_rfl]; decide)
      have hst := Q.out.2
      rw [hp10, hp11, h0] at hst
      obtain ⟨w9, hrun, hst9⟩ := CB.put HR.out.1 hst
      have HST := Lib.hid hst9
      clear hst hst9
      go_simp
      exact hK undef _ (AnyO.InvG.step (g := σ) Q.out.1 trivial (by rw [show AnyO.addD D 12 10 = D 10 from rfl, hp10, show AnyO.addD D 12 11 = D 11 from rfl, hp11, show AnyO.addD D 12 12 = true from rfl]; exact HST.out))
     all_goals
      refine AnyO.J rfl ?_; rintro D vs u σ Q h0 hC hp ac hb K hK
      try have s4 : ac.tmps[4]?.getD undef = .map (some (w.heap.size + 1)) := by rw [hb.out]; kernel_rfl
      try have s6 : ac.tmps[6]?.getD undef = .pointer (some ⟨wr.heap.size, 0, none⟩) := by rw [hb.out]; kernel_rfl
      try have s5 : ac.tmps[5]?.getD undef = .int .i64 (k : Int) := by rw [hb.out]; kernel_rfl
      try have s43 : _ = _ := AnyO.sv 43 7 hb hp Q
      go_simp
      exact hK _ _ (AnyO.InvG.step (g := σ) Q.out.1 rfl Q.out.2)
    ·intro D vs u hI hD
     obtain ⟨σ, hP, hW⟩ := hI
     have e0 : _ = _ := hP 0 (hD 0 (by decide))
     have e1 : _ = _ := hP 1 (hD 1 (by decide))
     have e2 : _ = _ := hP 2 (hD 2 (by decide))
     have e3 : _ = _ := hP 3 (hD 3 (by decide))
     have e4 : _ = _ := hP 4 (hD 4 (by decide))
     have e5 : _ = _ := hP 5 (hD 5 (by decide))
     have e6 : _ = _ := hP 6 (hD 6 (by decide))
     have e7 : _ = _ := hP 7 (hD 7 (by decide))
     have e8 : _ = _ := hP 8 (hD 8 (by decide))
     have e9 : _ = _ := hP 9 (hD 9 (by decide))
     have e10 : _ = _ := hP 10 (hD 10 (by decide))
     have e11 : _ = _ := hP 11 (hD 11 (by decide))
     rw [show D 10 = true from hD 10 (by decide), show D 11 = true from hD 11 (by decide), show D 12 = true from hD 12 (by decide)] at hW
     have HW := Lib.hid hW
     clear hW hP hD
     rw [puts_range [some 36, some 37, some 38, some 39, some 40, some 41, some 42, some 43, some 44, some 45, some 46, some 47, none] (by kernel_rfl)]
     simp only [putL, Nat.reduceAdd, e0, e1, e2, e3, e4, e5, e6, e7, e8, e9, e10, e11]
     clear e0 e1 e2 e3 e4 e5 e6 e7 e8 e9 e10 e11
     have HF := Lib.hid (Ct1.next (s := x.subj) HR.out.2.2.2 (by rw [show ss.take k ++ [x.subj] = ss.take (k + 1) by rw [HX.out.2.2.2.2.2 k hlt, hxe], show (ss.take k).length = k by rw [List.length_take]; omega]; exact HW.out))
     go_simp
     go_wp2
     refine ⟨⟨k + 1, hlt, by rw [Int.natCast_add]; rfl, ?_⟩, by simp [intOf]; omega⟩
     rw [show ss.take (k + 1) = ss.take k ++ [x.subj] by rw [HX.out.2.2.2.2.2 k hlt, hxe]]
     exact HF.out
  ·obtain rfl : k = xs.length := by omega
   have hfull : ss.take xs.length = ss := List.take_of_length_le (by rw [HX.out.2.2.2.2.1]; exact Nat.le_refl _)
   rw [hfull] at hst
   obtain ⟨f, hci, hdom⟩ := hst
   obtain ⟨A3, c3, rfl, hc3, hs3⟩ := hci.sub.sl
   rw [List.length_map] at hc3
   obtain ⟨m, hm2⟩ : ∃ m, (ordS ss).length = m := ⟨_, rfl⟩
   have hml : m ≤ xs.length := by rw [← hm2, ← HX.out.2.2.2.2.1]; exact ordS_len ss
   have H3 := Lib.hid (And.intro hci (And.intro hs3 hm2))
   rw [List.length_map, hm2]
   rw [hm2] at hc3
   clear hci hdom hs3 hfull
   obtain ⟨W1, rfl⟩ : ∃ W1, W1 = wr := ⟨_, rfl⟩
   go_wp2
   go_loopw [9, 51] (fun v i w2 => ∃ j : Nat, j ≤ m ∧ i = .int .i64 (j : Int) ∧ Own w2 W1.heap.size 9 1 cS v (((ctS ss).take j).map tx) ∧ Below W1.heap.size W1 w2) (fun v i _ => m - (intOf i).toNat)
   case atStart => exact ⟨0, Nat.zero_le _, rfl, Own.nil _ _ _ _ _, Below.refl _ _⟩
   case round =>
    obtain ⟨j, hj, rfl, hov, hbv⟩ := hrel
    by_cases hjm : j < m
    ·have hjl : j < (ordS ss).length := by rw [H3.out.2.2]; exact hjm
     obtain ⟨s, hse⟩ : ∃ s, (ordS ss)[j] = s := ⟨_, rfl⟩
     obtain ⟨ad, rfl, hcell⟩ := (H3.out.2.1.keep hbv).str (k := j) (by rw [List.length_map]; exact hjl)
     rw [List.getElem_map, hse] at hcell
     have hmem : s ∈ ss := mem_ordS.1 (by rw [← hse]; exact List.getElem_mem hjl)
     have hzs : s.length ≤ 1000 := by
      rw [← HX2.out] at hmem
      obtain ⟨y, hy, rfl⟩ := List.mem_map.1 hmem
      exact HX.out.2.2.2.1 y hy
     have hJ := numS_join ss s
     have hn8 := numS_len ss s
     have hsl2 := HX.out.2.2.2.2.1
     have hlk := (H3.out.1.keep hbv).map.one (tx s)
     have hjl2 : (Lib.join (numS ss s) [44, 32]).length ≤ 24 := by have := HX.out.2.2.2.2.1; omega
     have hj2 := joinO (xs := numS ss s) ((H3.out.1.own (tx s)).keep hbv) [44, 32] (by omega) (by omega)
     obtain ⟨jt, hjt⟩ : ∃ jt, tx (Lib.join (numS ss s) [44, 32]) = jt := ⟨_, rfl⟩
     obtain ⟨z, hz1⟩ : ∃ z, (Lib.join (numS ss s) [44, 32]).length = z := ⟨_, rfl⟩
     have hjz : jt.size = z := by rw [← hjt, tx_size]; exact hz1
     obtain ⟨q, hq⟩ : ∃ q, s.length = q := ⟨_, rfl⟩
     have hsq : (tx s).size = q := by rw [tx_size]; exact hq
     rw [hz1] at hjl2
     rw [hq] at hzs
     rw [hjt] at hj2
     have g1 : ¬ 9223372036854775807 < 2 + z := by omega
     have g2 : ¬ 9223372036854775807 < 2 + z + 1 := by omega
     have g3 : ¬ 9223372036854775807 < q + (2 + z + 1) := by omega
     have g4 : ¬ 9223372036854775807 < 12 + (2 + z + 1) := by omega
     have hct : ctT ss s = (if s = [] then noS else s) ++ ([32, 40] ++ Lib.join (numS ss s) [44, 32] ++ [41]) := rfl
     have hjm2 : j < (ctS ss).length := by unfold ctS; rw [List.length_map]; exact hjl
     have htk : (ctS ss).take (j + 1) = (ctS ss).take j ++ [ctT ss s] := by
      rw [List.take_succ_eq_append_getElem hjm2]
      congr 2
      simp only [ctS, List.getElem_map, hse]
     have hbe := tx_beql s []
     have HJ := Lib.hid (And.intro hj2 (And.intro htk (And.intro hjt (And.intro hov hbv))))
     clear hj2 htk hov hbv hjt hz1 hq hmem hJ hn8 hjm2
     by_cases hs0 : s = []
     ·rw [decide_eq_true hs0] at hbe
      rw [if_pos hs0] at hct
      have hX : (⟨#[40, 110, 111, 32, 115, 117, 98, 106, 101, 99, 116, 41]⟩ : ByteArray) ++ (⟨#[32, 40]⟩ ++ jt ++ ⟨#[41]⟩) = tx (ctT ss s) := by rw [hct, ← HJ.out.2.2.1, bNo, b32, b41, tx_app, tx_app, tx_app]
      have HXX := Lib.hid (And.intro hX hct)
      clear hX hct hs0
      go_wp2_with (first
       | (go_at_call 26; refine HJ.out.1.mono ?_; rintro e w3 ⟨rfl, hb3⟩; have H4 := Lib.hid (And.intro (HJ.out.2.2.2.1.keep hb3) (Below.step HJ.out.2.2.2.2 hb3)); clear hb3)
       | (at_builtin; go_loud (refine wpList_append_sl _ rfl (.tmp 63) (.tmp 67) 29 rfl W1.heap.size 9 1 16 cS underSs rowS (by decide) cS_length cS_one u9 (((ctS ss).take j).map tx) rfl (Own.keep H4.out.1 (below_alloc _ _)) _ 1 _ [_] rfl rfl (sl_newS _ _) (by rw [List.length_map, List.length_take]; omega) (by rw [List.length_map, List.length_take]; omega) (by have := H4.out.2.size; rw [World.size_alloc]; omega) ?_)))
      intro v2 w4 ho hg
      have H5 := Lib.hid (And.intro ho ((Own.keep H4.out.1 (below_alloc w3 _)).grew hg (Below.step H4.out.2 (below_alloc _ _)) (Nat.le_refl _) (by have := H4.out.2.size; rw [World.size_alloc]; omega)))
      clear ho hg
      go_wp2
      refine ⟨⟨j + 1, hjm, by rw [Int.natCast_add]; rfl, ?_, H5.out.2⟩, by simp [intOf]; omega⟩
      rw [HJ.out.2.1, List.map_append, List.map_singleton, ← HXX.out.1, List.map_take]
      exact H5.out.1
     ·rw [decide_eq_false hs0] at hbe
      rw [if_neg hs0] at hct
      have hX : tx s ++ (⟨#[32, 40]⟩ ++ jt ++ ⟨#[41]⟩) = tx (ctT ss s) := by rw [hct, ← HJ.out.2.2.1, b32, b41, tx_app, tx_app, tx_app]
      have HXX := Lib.hid (And.intro hX hct)
      clear hX hct hs0
      go_wp2_with (first
       | (go_at_call 26; refine HJ.out.1.mono ?_; rintro e w3 ⟨rfl, hb3⟩; have H4 := Lib.hid (And.intro (HJ.out.2.2.2.1.keep hb3) (Below.step HJ.out.2.2.2.2 hb3)); clear hb3)
       | (at_builtin; go_loud (refine wpList_append_sl _ rfl (.tmp 63) (.tmp 67) 29 rfl W1.heap.size 9 1 16 cS underSs rowS (by decide) cS_length cS_one u9 (((ctS ss).take j).map tx) rfl (Own.keep H4.out.1 (below_alloc _ _)) _ 1 _ [_] rfl rfl (sl_newS _ _) (by rw [List.length_map, List.length_take]; omega) (by rw [List.length_map, List.length_take]; omega) (by have := H4.out.2.size; rw [World.size_alloc]; omega) ?_)))
      intro v2 w4 ho hg
      have H5 := Lib.hid (And.intro ho ((Own.keep H4.out.1 (below_alloc w3 _)).grew hg (Below.step H4.out.2 (below_alloc _ _)) (Nat.le_refl _) (by have := H4.out.2.size; rw [World.size_alloc]; omega)))
      clear ho hg
      go_wp2
      refine ⟨⟨j + 1, hjm, by rw [Int.natCast_add]; rfl, ?_, H5.out.2⟩, by simp [intOf]; omega⟩
      rw [HJ.out.2.1, List.map_append, List.map_singleton, ← HXX.out.1, List.map_take]
      exact H5.out.1
    ·obtain rfl : j = m := by omega
     have hfl : (ctS ss).take j = ctS ss := List.take_of_length_le (by unfold ctS; rw [List.length_map, H3.out.2.2]; exact Nat.le_refl _)
     rw [hfl] at hov
     have H6 := Lib.hid (And.intro (hov.mono H3.out.1.le) (H3.out.1.bel.trans (hbv.mono H3.out.1.le)))
     clear hov hbv
     go_wp2
     go_ret
     exact ⟨_, rfl, H6.out.1, H6.out.2⟩
end Go.Proofs.YtibelollgdnidaaGreatDoor
