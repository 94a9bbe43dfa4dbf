/- BatchRefuses is true for all items, texts and limits. -/
import Derived.Test.YtecalodcbkljoaaGreatDoorMBla
import Derived.Test.YtecalodcbkljoaaGreatDoorMTo5
import Derived.Test.YtecalodcbkljoaaGreatDoorMRtx
import Derived.Test.YtecalodcbkljoaaGreatDoorMPkp
import Derived.Test.YtecalodcbkljoaaGreatDoorMLsp
namespace Go.Proofs.YtecalodcbkljoaaGreatDoor
open Go.RowKit
theorem KeepF.step {B : Nat} {F : List Nat} {w0 w w' : World} (h : KeepF B F w w') (hb : Below w0.heap.size w0 w) (hB : w0.heap.size ≤ B) : Below w0.heap.size w0 w' := ⟨h.1.os.trans hb.os, h.1.tape.trans hb.tape, h.1.output.trans hb.output, Nat.le_trans hb.size h.1.size, fun k hk => (h.1.block k (Nat.lt_of_lt_of_le hk hB)).trans (hb.block k hk)⟩
theorem KeepF.row {B : Nat} {F : List Nat} {w w' : World} (h : KeepF B F w w') {b : Nat} {cs : List Value} {t : TypeId} (hr : Row w b cs t) (hb : b < B) : Row w' b cs t := hr.same (h.1.block b hb)
theorem heap_set_same {w w' : World} (b k : Nat) (v : Value) (h : w'.heap[b]? = w.heap[b]?) : (w'.setCell ⟨b, k, none⟩ v).heap[b]? = (w.setCell ⟨b, k, none⟩ v).heap[b]? := by
  simp [World.setCell, Array.getElem?_modify, h]
/-- A store into a variable of the call's own below the builder. -/
theorem BdL.poke {B g : Nat} {most : Int} {l : List It} {F : List Nat} {w : World} (h : BdL B g most l F w) (b k : Nat) (v : Value) (hb : b < B) (hf : FreeG b) : BdL B g most l F (w.setCell ⟨b, k, none⟩ v) := by
  obtain ⟨u, h1, h2, h3, h4⟩ := h
  have hgb : g ≠ b := by have := h1.le; omega
  obtain ⟨wB, a1, a2, a3⟩ := h1.laid
  refine ⟨u, ⟨h1.row.same (heap_set_other w b k v g hgb), h1.own.setc b k v (fun e => by have := (h1.own.lt b e).1; omega), h1.ne, h1.le, h1.lim, h1.cnt, h1.txt, h1.fit, wB.setCell ⟨b, k, none⟩ v, a1.oneF (One.set k v) hf, by rw [setCell_sz]; exact a2, ⟨a3.os, a3.tape, a3.output, by rw [setCell_sz, setCell_sz]; exact a3.size, fun j hj => ?_⟩⟩, h2, fun j hj => ⟨by rw [setCell_sz]; exact (h3 j hj).1, (h3 j hj).2⟩, by rw [setCell_sz]; exact h4⟩
  by_cases hjb : j = b
  · subst hjb
    exact heap_set_same j k v (a3.block j hj)
  · rw [heap_set_other _ b k v j hjb, heap_set_other _ b k v j hjb]
    exact a3.block j hj
/-- What Add answers, by the text's size alone. -/
theorem addE_five {n : Int} {l : List It} {x : It} (h : n < (sizeN 1 (itN x) : Int)) : addE n l x = (5, l) := by unfold addE; rw [if_pos h]
theorem addE_nine {n : Int} {l : List It} {x : It} (h : ¬ n < (sizeN 1 (itN x) : Int)) (h2 : n < (sizeN (l.length + 1) (sumN l + itN x) : Int)) : addE n l x = (9, l) ∧ 0 < l.length := by
  unfold addE
  rw [if_neg h, if_pos h2]
  refine ⟨rfl, ?_⟩
  rcases l with _ | ⟨y, r⟩
  · exfalso
    apply h
    have : sumN ([] : List It) + itN x = itN x := by simp [sumN]
    rw [this] at h2
    exact h2
  · simp
theorem addE_zero {n : Int} {l : List It} {x : It} (h : ¬ n < (sizeN 1 (itN x) : Int)) (h2 : ¬ n < (sizeN (l.length + 1) (sumN l + itN x) : Int)) : addE n l x = (0, l ++ [x]) := by unfold addE; rw [if_neg h, if_neg h2]
theorem room_less {n : Int} {l : List It} {x : It} (hl : l.length < 1000) (h2 : ¬ n < (sizeN (l.length + 1) (sumN l + itN x) : Int)) : max 0 (n - (sizeN (l ++ [x]).length (sumN (l ++ [x])) : Int)) < max 0 (n - (sizeN l.length (sumN l) : Int)) := by
  rw [List.length_append, List.length_singleton, show sumN (l ++ [x]) = sumN l + itN x by simp [sumN]]
  have h3 := itoa_len 10 l.length (by omega) (by omega)
  have h4 : 114 ≤ itN x := by unfold itN; omega
  have h5 : sizeN l.length (sumN l) < sizeN (l.length + 1) (sumN l + itN x) := by unfold sizeN; omega
  omega
theorem addE_len (n : Int) (l : List It) (x : It) : (addE n l x).2.length ≤ l.length + 1 := by
  unfold addE
  split
  · simp
  · split
    · simp
    · simp
theorem add_zeroA (a : Addr) : a.add 0 = a := by
  obtain ⟨b, k, s⟩ := a
  unfold Addr.add
  split <;> simp_all
set_option maxRecDepth 100000 in
set_option maxHeartbeats 12800000 in
theorem refuses_law (A : Option Addr) (c : Nat) (l : List It) (y : It) (h : Int) (w : World) (hs : Sl w cX A l) (hc : l.length ≤ c) (_hm : c ≤ maxLen) (hh : 0 ≤ h ∧ h < 65536) (hL : Laid w) : Calls Tryz.prog 8 #[.slice A l.length c, vX y, .int .u16 h] w fun e w' => e = .returned (.bool true) ∧ Below w.heap.size w w' := by
  obtain ⟨X, hX⟩ : ∃ X, toL l = X := ⟨_, rfl⟩
  have HX := Lib.hid (show X.length ≤ 10 ∧ (∀ x ∈ X, x.text.size ≤ 400) from by
    rw [← hX]
    exact ⟨toL_len l, toL_size l⟩)
  have HXE := Lib.hid hX
  obtain ⟨M, hM⟩ : ∃ M, X.length = M := ⟨_, rfl⟩
  have HM := Lib.hid hM
  obtain ⟨b, hb⟩ : ∃ b, w.heap.size = b := ⟨_, rfl⟩
  obtain ⟨W0, hW0⟩ : ∃ W0, w.alloc (.cells (aX y) 64) = W0 := ⟨_, rfl⟩
  have H0 := Lib.hid (show Below w.heap.size w W0 ∧ Row W0 b (cX y) 64 ∧ Laid W0 ∧ Sl W0 cX A l ∧ l.length ≤ c ∧ b < W0.heap.size ∧ FreeG b from by
    subst hW0 hb
    exact ⟨below_alloc _ _, Row.new w (cX y) _, hL.keep (below_alloc _ _), hs.keep (below_alloc _ _), hc, by simp, hL.free (Nat.le_refl _)⟩)
  have hh1 := hh.1
  have hh2 : h ≤ 65535 := by omega
  obtain ⟨n, hn⟩ : ∃ n : Int, 1 + h % 2000 = n := ⟨_, rfl⟩
  have hn1 : ¬ n < 1 := by omega
  have hn2 : ¬ 4194304 < n := by omega
  have HN := Lib.hid (And.intro hn1 hn2)
  have HBB := Lib.hid hb
  have HLW := Lib.hid (fun (w1 : World) (hq : Below w.heap.size w w1) => hL.keep hq)
  have HS0 := Lib.hid (And.intro hs hc)
  clear hs hc hL hX hM hh
  go_enter Tryz.func8, Tryz.ntmps8
  go_wp2_with (first
    | (go_at_call 27; refine (flush_nil _).mono ?_; rintro e w1 ⟨rfl, hb1⟩; have H1 := Lib.hid (show Below w.heap.size w w1 ∧ Row w1 b (cX y) 64 from ⟨Below.step H0.out.1 hb1, H0.out.2.1.keep hb1⟩); clear hb1)
    | (go_at_call 12; refine (known_c _ (HLW.out _ H1.out.1)).mono ?_; rintro e w2 ⟨rfl, hb2⟩; have H2 := Lib.hid (show Below w.heap.size w w2 ∧ Row w2 b (cX y) 64 from ⟨Below.step H1.out.1 hb2, H1.out.2.keep hb2⟩); obtain ⟨⟨x0, x1, -⟩, -, -⟩ := rowX H2.out.2; clear hb2)
    | (go_at_call 26; refine (add_nil y _).mono ?_; rintro e w3 ⟨rfl, hb3⟩; have H3 := Lib.hid (show Below w.heap.size w w3 ∧ Row w3 b (cX y) 64 from ⟨Below.step H2.out.1 hb3, H2.out.2.keep hb3⟩); clear hb3 x0 x1)
    | (have hh := H3; clear hh; go_at_call 29; refine (len_nil _).mono ?_; rintro e w4 ⟨rfl, hb4⟩; have H4 := Lib.hid (show Below w.heap.size w w4 ∧ Row w4 b (cX y) 64 from ⟨Below.step H3.out.1 hb4, H3.out.2.keep hb4⟩); clear hb4)
    | (go_at_call 30; refine (room_nil _).mono ?_; rintro e w5 ⟨rfl, hb5⟩; have H5 := Lib.hid (show Below w.heap.size w w5 ∧ Row w5 b (cX y) 64 from ⟨Below.step H4.out.1 hb5, H4.out.2.keep hb5⟩); clear hb5)
    | (go_at_call 25; go_loud (obtain ⟨B, hB⟩ : ∃ B, w5.heap.size = B := ⟨_, rfl⟩; refine (newb_good n _ (HLW.out _ H5.out.1) (by have := HN.out; omega) (by have := HN.out; omega)).mono ?_; rintro e w6 ⟨rfl, hbd, hb6⟩; rw [hB] at hbd ⊢; have H6 := Lib.hid (show BdL B B n [] [] w6 ∧ Below w.heap.size w w6 ∧ Row w6 b (cX y) 64 ∧ b < B ∧ w.heap.size ≤ B from ⟨hbd, Below.step H5.out.1 hb6, H5.out.2.keep hb6, by rw [← hB]; exact H5.out.2.lt, by rw [← hB]; exact H5.out.1.size⟩); clear hbd hb6 hB))
    | (go_at_call 17; go_loud (refine (to_b A c l _ (HS0.out.1.keep H6.out.2.1) HS0.out.2).mono ?_; rintro e w7 ⟨v1, rfl, ho1, hb7⟩; rw [HXE.out] at ho1; obtain ⟨A1, d1, rfl, hd1, hd1m, hs1⟩ := ho1.slm; obtain ⟨F, hF⟩ : ∃ F, (Value.slice A1 X.length d1).ownBlock.toList = F := ⟨_, rfl⟩; have H7 := Lib.hid (show BdL B B n [] F w7 ∧ Below w.heap.size w w7 ∧ Row w7 b (cX y) 64 ∧ Sl w7 cX A1 X ∧ (∀ ad, A1 = some ad → ad.block ∈ F) from ⟨by (have q := H6.out.1.more hb7 F (fun k hk => ho1.lt k (by rw [← hF] at hk; exact Option.mem_toList.1 hk))); rwa [List.append_nil] at q, Below.step H6.out.2.1 hb7, H6.out.2.2.1.keep hb7, hs1, fun ad e => by subst e; rw [← hF]; simp [Value.ownBlock]⟩); have HD1 := Lib.hid (And.intro hd1 hd1m); rw [HM.out] at HD1 ⊢; clear hb7 ho1 hs1 hd1 hd1m hF)))
  clear H1 H2 H3 H4 H5
  go_loopw [14] (fun i wr => ∃ (t : Nat) (L : List It), t ≤ M ∧ i = .int .i64 (t : Int) ∧ L.length ≤ t ∧ BdL B B n L F wr ∧ Below w.heap.size w wr ∧ Row wr b (cX y) 64 ∧ Sl wr cX A1 X) (fun i _ => M - (intOf i).toNat)
  case atStart => exact ⟨0, [], Nat.zero_le _, rfl, Nat.le_refl _, H7.out.1, H7.out.2.1, H7.out.2.2.1, H7.out.2.2.2.1⟩
  case round =>
    obtain ⟨t, L, ht, rfl, hlt2, hbd, hbw, hrow, hsl⟩ := hrel
    have HR := Lib.hid (show BdL B B n L F wr ∧ Below w.heap.size w wr ∧ Row wr b (cX y) 64 ∧ Sl wr cX A1 X from ⟨hbd, hbw, hrow, hsl⟩)
    have HT := Lib.hid (show L.length ≤ t ∧ t ≤ M ∧ M ≤ 10 from ⟨hlt2, ht, by have := HX.out.1; have := HM.out; omega⟩)
    clear hbd hbw hrow hsl hlt2
    by_cases hlt : t < M
    · have hltX : t < X.length := by rw [HM.out]; exact hlt
      obtain ⟨ad, hA1, hat⟩ := Sl.at_ cX_length HR.out.2.2.2 hltX
      obtain ⟨x, hxe⟩ : ∃ x, X[t] = x := ⟨_, rfl⟩
      have HS1 := Lib.hid (show Sl wr cX (some (ad.add (t * 33))) [x] from by
        subst hA1
        have q := HR.out.2.2.2.midX t 1
        rwa [List.take_one, List.drop_eq_getElem_cons hltX, hxe] at q)
      have HXT := Lib.hid (show x.text.size ≤ 65536 by
        have := HX.out.2 x (by rw [← hxe]; exact List.getElem_mem _)
        omega)
      have HAF := Lib.hid (H7.out.2.2.2.2 ad hA1)
      subst hA1
      have hlti : (t : Int) < (M : Int) := by omega
      have hT : (t : Int) < 100000 := by have := HT.out; omega
      have htc : ¬ d1 = t := by have := HD1.out.1; omega
      have htci : (t : Int) + 1 ≤ (d1 : Int) := by have := HD1.out.1; omega
      clear hat hxe hltX
      go_wp2_with (first
        | (go_at_call 22; go_loud (refine (back_b (some (ad.add (t * 33))) (d1 - t) [x] _ HS1.out (by simp)).mono ?_; rintro e w2 ⟨v2, rfl, ho2, hb2⟩; obtain ⟨A2, d2, rfl, -, hs2⟩ := ho2.sl; obtain ⟨ad2, rfl, hat2⟩ := Sl.at_ cX_length hs2 (k := 0) (by simp); have HA2 := Lib.hid hat2; rw [show ([x][0]'(by simp)) = x from rfl, Nat.zero_mul] at hat2; have hok := hat2.ok; have hrd := hat2.rd; rw [cX_length] at hok hrd; change rdA w2 (ad2.add 0) 33 = vX x at hrd; rw [add_zeroA] at hok hrd; have H2 := Lib.hid (show BdL B B n L F w2 ∧ Below w.heap.size w w2 ∧ Row w2 b (cX y) 64 ∧ Sl w2 cX (some ad) X from ⟨HR.out.1.keep hb2, Below.step HR.out.2.1 hb2, HR.out.2.2.1.keep hb2, HR.out.2.2.2.keep hb2⟩); clear hb2 ho2 hs2))
        | (go_at_call 26; refine (H2.out.1.add x HXT.out (by have := HT.out; omega)).mono ?_; rintro e w3 ⟨rfl, hbd3, hk3⟩; have H3 := Lib.hid (show BdL B B n (addE n L x).2 F w3 ∧ Below w.heap.size w w3 ∧ Row w3 b (cX y) 64 ∧ Sl w3 cX (some ad) X ∧ (addE n L x).2.length ≤ t + 1 from ⟨hbd3, hk3.step H2.out.2.1 H6.out.2.2.2.2, hk3.row H2.out.2.2.1 H6.out.2.2.2.1, hk3.sl H2.out.2.2.2 (fun a e => by cases e; exact HAF.out), by have := HT.out; have := addE_len n L x; omega⟩); clear hbd3 hk3))
      go_roundw
      case rel => exact ⟨t + 1, (addE n L x).2, hlt, by go_num, H3.out.2.2.2.2, H3.out.1, H3.out.2.1, H3.out.2.2.1, H3.out.2.2.2.1⟩
      case measure => simp [intOf]; omega
    · obtain rfl : t = M := by omega
      obtain ⟨m, hm⟩ : ∃ m, min y.text.size 3000 = m := ⟨_, rfl⟩
      have hmi : min (y.text.size : Int) 3000 = (m : Int) := by omega
      have hmt : (m : Int) ≤ (y.text.size : Int) := by omega
      obtain ⟨S, hS⟩ : ∃ S, y.text.extract 0 m = S := ⟨_, rfl⟩
      obtain ⟨y2, hy2⟩ : ∃ y2 : It, { y with text := S } = y2 := ⟨_, rfl⟩
      have hy2s : y2.text.size ≤ 3000 := by
        rw [← hy2]
        show S.size ≤ 3000
        rw [← hS, ByteArray.size_extract]
        omega
      have hSY : S = y2.text := by rw [← hy2]
      have HY2 := Lib.hid (show y2.text.size ≤ 1000000 by omega)
      have HY3 := Lib.hid (show y2.text.size ≤ 65536 by omega)
      obtain ⟨w8, hw8⟩ : ∃ w8, wr.setCell ⟨b, 32, none⟩ (.string S) = w8 := ⟨_, rfl⟩
      have H8 := Lib.hid (show BdL B B n L F w8 ∧ Below w.heap.size w w8 ∧ Row w8 b (cX y2) 64 from by
        subst hw8
        refine ⟨HR.out.1.poke b 32 _ H6.out.2.2.2.1 H0.out.2.2.2.2.2.2, HR.out.2.1.trans ((One.set 32 _).below (Nat.le_of_eq HBB.out) HR.out.2.1.size), ?_⟩
        have q := HR.out.2.2.1.set 32 (.string S)
        rw [cX_set, hy2] at q
        exact q)
      obtain ⟨⟨x0, x1, x5⟩, -, x2⟩ := rowX HR.out.2.2.1
      have x6 := HR.out.2.2.1.fz 32
      obtain ⟨q, hq⟩ : ∃ q, L.length = q := ⟨_, rfl⟩
      have HQ := Lib.hid (show (L.length : Int) = (q : Int) by omega)
      obtain ⟨R, hR⟩ : ∃ R : Int, max 0 (n - (sizeN L.length (sumN L) : Int)) = R := ⟨_, rfl⟩
      have HRM := Lib.hid hR
      obtain ⟨z, hz⟩ : ∃ z, sizeN 1 (itN y2) = z := ⟨_, rfl⟩
      have hz1 : (batS [y2]).size = z := by rw [bat_size, ← hz]; simp [sumN]
      have HSZ := Lib.hid hz
      clear hm hy2 hy2s hR hq HR
      rw [hSY] at hS hw8
      clear hSY
      by_cases h5 : n < (sizeN 1 (itN y2) : Int)
      · have h9 := trivial
        have hzn : n < (z : Int) := by rw [← hz]; exact h5
        have HE5 := Lib.hid (addE_five (l := L) h5)
        clear h5 h9
        go_wp2_with (first
          | (have hh := H10; clear hh; go_at_call 28; go_loud (refine (rtext_b (some ⟨w10.heap.size, 0, none⟩) 1 [y2] _ (sl_newX _ y2 _) (by simp) (by intro x hx; rw [List.mem_singleton.1 hx]; exact HY2.out)).mono ?_; rintro e w11 ⟨rfl, hb11⟩; have H11 := Lib.hid (show BdL B B n L F w11 ∧ Below w.heap.size w w11 ∧ Row w11 b (cX y2) 64 from ⟨(H10.out.1.keep (below_alloc _ _)).keep hb11, Below.step (Below.step H10.out.2.1 (below_alloc _ _)) hb11, (H10.out.2.2.keep (below_alloc _ _)).keep hb11⟩); obtain ⟨⟨x0, x1, -⟩, ⟨x3, x4⟩, x2⟩ := rowX H11.out.2.2; clear hb11 H10))
          | (have hh := H11; clear hh; go_at_call 26; refine (H11.out.1.add y2 HY3.out (by have := HT.out; omega)).mono ?_; rintro e w12 ⟨rfl, hbd12, hk12⟩; rw [HE5.out] at hbd12 ⊢; have H12 := Lib.hid (show BdL B B n (L) F w12 ∧ Below w.heap.size w w12 from ⟨hbd12, hk12.step H11.out.2.1 H6.out.2.2.2.2⟩); clear hbd12 hk12 H11)
          | (have hh := H12; clear hh; go_at_call 29; refine H12.out.1.len.mono ?_; rintro e w13 ⟨rfl, hb13⟩; rw [show ((L).length : Int) = (q : Int) from HQ.out]; have H13 := Lib.hid (show BdL B B n (L) F w13 ∧ Below w.heap.size w w13 from ⟨H12.out.1.keep hb13, Below.step H12.out.2 hb13⟩); clear hb13 H12)
          | (have hh := H13; clear hh; go_at_call 30; refine H13.out.1.room.mono ?_; rintro e w14 ⟨rfl, hb14⟩; rw [HRM.out]; have H14 := Lib.hid (Below.step H13.out.2 hb14); clear hb14 H13)
          | (have hh := H8; clear hh; go_at_call 29; refine H8.out.1.len.mono ?_; rintro e w9 ⟨rfl, hb9⟩; rw [HQ.out]; have H9 := Lib.hid (show BdL B B n L F w9 ∧ Below w.heap.size w w9 ∧ Row w9 b (cX y2) 64 from ⟨H8.out.1.keep hb9, Below.step H8.out.2.1 hb9, H8.out.2.2.keep hb9⟩); clear hb9 H8)
          | (have hh := H9; clear hh; go_at_call 30; refine H9.out.1.room.mono ?_; rintro e w10 ⟨rfl, hb10⟩; rw [HRM.out]; have H10 := Lib.hid (show BdL B B n L F w10 ∧ Below w.heap.size w w10 ∧ Row w10 b (cX y2) 64 from ⟨H9.out.1.keep hb10, Below.step H9.out.2.1 hb10, H9.out.2.2.keep hb10⟩); obtain ⟨⟨x0, x1, -⟩, ⟨x3, x4⟩, x2⟩ := rowX H10.out.2.2; clear hb10 H9))
        go_ret
        exact ⟨rfl, H14.out⟩
      · by_cases h9 : n < (sizeN (L.length + 1) (sumN L + itN y2) : Int)
        · have hzn : ¬ n < (z : Int) := by rw [← hz]; exact h5
          have hq0 : (0 : Int) < (q : Int) := by have := (addE_nine h5 h9).2; have := HQ.out; omega
          have HE5 := Lib.hid (addE_nine h5 h9).1
          clear h5 h9
          go_wp2_with (first
            | (have hh := H10; clear hh; go_at_call 28; go_loud (refine (rtext_b (some ⟨w10.heap.size, 0, none⟩) 1 [y2] _ (sl_newX _ y2 _) (by simp) (by intro x hx; rw [List.mem_singleton.1 hx]; exact HY2.out)).mono ?_; rintro e w11 ⟨rfl, hb11⟩; have H11 := Lib.hid (show BdL B B n L F w11 ∧ Below w.heap.size w w11 ∧ Row w11 b (cX y2) 64 from ⟨(H10.out.1.keep (below_alloc _ _)).keep hb11, Below.step (Below.step H10.out.2.1 (below_alloc _ _)) hb11, (H10.out.2.2.keep (below_alloc _ _)).keep hb11⟩); obtain ⟨⟨x0, x1, -⟩, ⟨x3, x4⟩, x2⟩ := rowX H11.out.2.2; clear hb11 H10))
            | (have hh := H11; clear hh; go_at_call 26; refine (H11.out.1.add y2 HY3.out (by have := HT.out; omega)).mono ?_; rintro e w12 ⟨rfl, hbd12, hk12⟩; rw [HE5.out] at hbd12 ⊢; have H12 := Lib.hid (show BdL B B n (L) F w12 ∧ Below w.heap.size w w12 from ⟨hbd12, hk12.step H11.out.2.1 H6.out.2.2.2.2⟩); clear hbd12 hk12 H11)
            | (have hh := H12; clear hh; go_at_call 29; refine H12.out.1.len.mono ?_; rintro e w13 ⟨rfl, hb13⟩; rw [show ((L).length : Int) = (q : Int) from HQ.out]; have H13 := Lib.hid (show BdL B B n (L) F w13 ∧ Below w.heap.size w w13 from ⟨H12.out.1.keep hb13, Below.step H12.out.2 hb13⟩); clear hb13 H12)
            | (have hh := H13; clear hh; go_at_call 30; refine H13.out.1.room.mono ?_; rintro e w14 ⟨rfl, hb14⟩; rw [HRM.out]; have H14 := Lib.hid (Below.step H13.out.2 hb14); clear hb14 H13)
            | (have hh := H8; clear hh; go_at_call 29; refine H8.out.1.len.mono ?_; rintro e w9 ⟨rfl, hb9⟩; rw [HQ.out]; have H9 := Lib.hid (show BdL B B n L F w9 ∧ Below w.heap.size w w9 ∧ Row w9 b (cX y2) 64 from ⟨H8.out.1.keep hb9, Below.step H8.out.2.1 hb9, H8.out.2.2.keep hb9⟩); clear hb9 H8)
            | (have hh := H9; clear hh; go_at_call 30; refine H9.out.1.room.mono ?_; rintro e w10 ⟨rfl, hb10⟩; rw [HRM.out]; have H10 := Lib.hid (show BdL B B n L F w10 ∧ Below w.heap.size w w10 ∧ Row w10 b (cX y2) 64 from ⟨H9.out.1.keep hb10, Below.step H9.out.2.1 hb10, H9.out.2.2.keep hb10⟩); obtain ⟨⟨x0, x1, -⟩, ⟨x3, x4⟩, x2⟩ := rowX H10.out.2.2; clear hb10 H9))
          go_ret
          exact ⟨rfl, H14.out⟩
        · have hzn : ¬ n < (z : Int) := by rw [← hz]; exact h5
          have hqi : (q : Int) ≤ 10 := by have := HQ.out; have := HT.out; omega
          have hqw : IntKind.i64.wrap ((q : Int) + 1) = (q : Int) + 1 := IntWalk.i64_in _ (by omega)
          have HRL := Lib.hid (room_less (n := n) (l := L) (x := y2) (by have := HT.out; omega) h9)
          have HE5 := Lib.hid (addE_zero h5 h9)
          clear h5 h9
          go_wp2_with (first
            | (have hh := H10; clear hh; go_at_call 28; go_loud (refine (rtext_b (some ⟨w10.heap.size, 0, none⟩) 1 [y2] _ (sl_newX _ y2 _) (by simp) (by intro x hx; rw [List.mem_singleton.1 hx]; exact HY2.out)).mono ?_; rintro e w11 ⟨rfl, hb11⟩; have H11 := Lib.hid (show BdL B B n L F w11 ∧ Below w.heap.size w w11 ∧ Row w11 b (cX y2) 64 from ⟨(H10.out.1.keep (below_alloc _ _)).keep hb11, Below.step (Below.step H10.out.2.1 (below_alloc _ _)) hb11, (H10.out.2.2.keep (below_alloc _ _)).keep hb11⟩); obtain ⟨⟨x0, x1, -⟩, ⟨x3, x4⟩, x2⟩ := rowX H11.out.2.2; clear hb11 H10))
            | (have hh := H11; clear hh; go_at_call 26; refine (H11.out.1.add y2 HY3.out (by have := HT.out; omega)).mono ?_; rintro e w12 ⟨rfl, hbd12, hk12⟩; rw [HE5.out] at hbd12 ⊢; have H12 := Lib.hid (show BdL B B n (L ++ [y2]) F w12 ∧ Below w.heap.size w w12 from ⟨hbd12, hk12.step H11.out.2.1 H6.out.2.2.2.2⟩); clear hbd12 hk12 H11)
            | (have hh := H12; clear hh; go_at_call 29; refine H12.out.1.len.mono ?_; rintro e w13 ⟨rfl, hb13⟩; rw [show ((L ++ [y2]).length : Int) = (q : Int) + 1 from (by rw [List.length_append, List.length_singleton]; have := HQ.out; omega)]; have H13 := Lib.hid (show BdL B B n (L ++ [y2]) F w13 ∧ Below w.heap.size w w13 from ⟨H12.out.1.keep hb13, Below.step H12.out.2 hb13⟩); clear hb13 H12)
            | (have hh := H13; clear hh; go_at_call 30; refine H13.out.1.room.mono ?_; rintro e w14 ⟨rfl, hb14⟩; obtain ⟨R2, hR2⟩ : ∃ R2 : Int, max 0 (n - (sizeN (L ++ [y2]).length (sumN (L ++ [y2])) : Int)) = R2 := ⟨_, rfl⟩; have hlr : R2 < R := (by rw [← hR2, ← HRM.out]; exact HRL.out); rw [hR2]; clear hR2; have H14 := Lib.hid (Below.step H13.out.2 hb14); clear hb14 H13)
            | (have hh := H8; clear hh; go_at_call 29; refine H8.out.1.len.mono ?_; rintro e w9 ⟨rfl, hb9⟩; rw [HQ.out]; have H9 := Lib.hid (show BdL B B n L F w9 ∧ Below w.heap.size w w9 ∧ Row w9 b (cX y2) 64 from ⟨H8.out.1.keep hb9, Below.step H8.out.2.1 hb9, H8.out.2.2.keep hb9⟩); clear hb9 H8)
            | (have hh := H9; clear hh; go_at_call 30; refine H9.out.1.room.mono ?_; rintro e w10 ⟨rfl, hb10⟩; rw [HRM.out]; have H10 := Lib.hid (show BdL B B n L F w10 ∧ Below w.heap.size w w10 ∧ Row w10 b (cX y2) 64 from ⟨H9.out.1.keep hb10, Below.step H9.out.2.1 hb10, H9.out.2.2.keep hb10⟩); obtain ⟨⟨x0, x1, -⟩, ⟨x3, x4⟩, x2⟩ := rowX H10.out.2.2; clear hb10 H9))
          go_ret
          exact ⟨rfl, H14.out⟩
end Go.Proofs.YtecalodcbkljoaaGreatDoor
