/- transfer.Sender: Say, NewSender, Sent. -/
import Derived.Test.YtlelecnafdddhaaDoorAdd
namespace Go.Proofs.YtlelecnafdddhaaDoor
open Go.RowKit
theorem results_c1 {P : Program} {fn : Func} {tmps : Array Value} {w : World} {a : Tmp} {t : TypeId} {ad : Addr} {v : Value} (hres : fn.results = #[.cell a t]) (h1 : tmps[a]?.getD undef = .pointer (some ad)) (h2 : (loadVar t ad).run P w = .ok v w) :
    (results fn tmps).run P w = .ok v w := by
  simp [results, hres, h1, h2, asAddr]
theorem results_c2 {P : Program} {fn : Func} {tmps : Array Value} {w : World} {a p : Tmp} {t : TypeId} {ad : Addr} {v x : Value} (hres : fn.results = #[.cell a t, .tmp p]) (h1 : tmps[a]?.getD undef = .pointer (some ad)) (h2 : (loadVar t ad).run P w = .ok v w) (h3 : tmps[p]?.getD undef = x) :
    (results fn tmps).run P w = .ok (.tuple #[v, x]) w := by
  simp [results, hres, h1, h2, h3, asAddr]
theorem Row.rok {w : World} {b n : Nat} {cs : List Value} {t : TypeId} (h : Row w b cs t) (hn : cs.length = n) : rowOk w b n = true := by
  unfold Row at h
  simp only [rowOk, h]
  simpa using hn
theorem Row.setRow {w : World} {b : Nat} {cs ds : List Value} {t : TypeId} (h : Row w b cs t) : Row (w.setRow b ds.toArray) b ds t := setRow_heap w b cs.toArray ds.toArray t (0, 0) h
theorem heap_setRow_other (w : World) (b j : Nat) (c : Array Value) (h : j ≠ b) : (w.setRow b c).heap[j]? = w.heap[j]? := by
  simp only [World.setRow, Array.getElem?_modify]
  rw [if_neg (by omega)]
theorem load_C {w : World} {b : Nat} {c : Cm} (h : Row w b (cC c) 45) : (loadVar 45 ⟨b, 0, none⟩).run Tryd.prog w = .ok (vC c) w :=
  run_loadVar_at w ⟨b, 0, none⟩ 45 (cC c) _ (h.at_ (k := 0) (n := 39) (by rw [List.drop_zero, List.take_of_length_le (by rw [cC_length]; omega)])) Tryd.underlying45 rfl (by rw [cC_length]; exact size45)
theorem cT_hi (a : Art) (ch sent : Int) (e : Bool) (k : Nat) : (cT a ch sent e)[32 + k]? = [Value.string a.2, .int .i64 ch, .int .i64 sent, .bool e][k]? := by
  unfold cT cA
  rw [List.append_assoc, List.getElem?_append_right (by rw [cI_length]; omega), cI_length, show 32 + k - 32 = k by omega]
  rfl
theorem cT_32 (a : Art) (ch sent : Int) (e : Bool) : (cT a ch sent e)[32]? = some (.string a.2) := cT_hi a ch sent e 0
theorem cT_33 (a : Art) (ch sent : Int) (e : Bool) : (cT a ch sent e)[33]? = some (.int .i64 ch) := cT_hi a ch sent e 1
theorem cT_34 (a : Art) (ch sent : Int) (e : Bool) : (cT a ch sent e)[34]? = some (.int .i64 sent) := cT_hi a ch sent e 2
theorem cT_35 (a : Art) (ch sent : Int) (e : Bool) : (cT a ch sent e)[35]? = some (.bool e) := cT_hi a ch sent e 3
theorem set_hi (l r : List Value) (k : Nat) (v : Value) : (l ++ r).set (l.length + k) v = l ++ r.set k v := by
  rw [List.set_append_right _ _ (by omega), show l.length + k - l.length = k by omega]
theorem cT_set34 (a : Art) (ch sent n : Int) (e : Bool) : (cT a ch sent e).set 34 (.int .i64 n) = cT a ch n e := by
  unfold cT
  rw [show 34 = (cA a).length + 1 by rw [cA_length], set_hi]
  rfl
theorem cT_set35 (a : Art) (ch sent : Int) (e e' : Bool) : (cT a ch sent e).set 35 (.bool e') = cT a ch sent e' := by
  unfold cT
  rw [show 35 = (cA a).length + 2 by rw [cA_length], set_hi]
  rfl
theorem cT_id (a : Art) (ch sent : Int) (e : Bool) : ((cT a ch sent e).drop 0).take 32 = cI a.1 := by
  unfold cT cA
  rw [List.drop_zero, List.append_assoc, List.take_append_of_le_length (by rw [cI_length]; omega), List.take_of_length_le (by rw [cI_length]; omega)]
theorem Row.idT {w : World} {g : Nat} {a : Art} {ch sent : Int} {e : Bool} (h : Row w g (cT a ch sent e) 120) : okA w ⟨g, 0, none⟩ 32 = true ∧ rdA w ⟨g, 0, none⟩ 32 = vI a.1 := by
  have := h.at_ (cT_id a ch sent e)
  have h1 := this.ok
  have h2 := this.rd
  rw [cI_length] at h1 h2
  exact ⟨h1, h2⟩
/-- A call that touches, of the older blocks, none but g. -/
structure Only (g : Nat) (w w' : World) : Prop where
  os : w'.os = w.os
  tape : w'.tape = w.tape
  output : w'.output = w.output
  size : w.heap.size ≤ w'.heap.size
  out : ∀ k, k < w.heap.size → k ≠ g → w'.heap[k]? = w.heap[k]?
theorem Only.of_below {g : Nat} {w w' : World} (h : Below w.heap.size w w') : Only g w w' := ⟨h.os, h.tape, h.output, h.size, fun k hk _ => h.block k hk⟩
theorem Only.trans {g : Nat} {a b c : World} (h : Only g a b) (k : Only g b c) : Only g a c :=
  ⟨k.os.trans h.os, k.tape.trans h.tape, k.output.trans h.output, Nat.le_trans h.size k.size, fun j hj hg => (k.out j (Nat.lt_of_lt_of_le hj h.size) hg).trans (h.out j hj hg)⟩
theorem Only.setCell (g k : Nat) (w : World) (v : Value) : Only g w (w.setCell ⟨g, k, none⟩ v) := ⟨rfl, rfl, rfl, by simp [World.setCell], fun j _ hj => heap_set_other w g k v j hj⟩
/-- A store into a row that is newer than the first world. -/
theorem Only.setRow {g r : Nat} {w w' : World} (h : Only g w w') (hr : w.heap.size ≤ r) (c : Array Value) : Only g w (w'.setRow r c) :=
  ⟨h.os, h.tape, h.output, by have := h.size; simpa [World.setRow] using this, fun k hk hg => (heap_setRow_other w' r k c (by omega)).trans (h.out k hk hg)⟩
/-- What the sender of a text says next, and what it then knows. -/
def sayT (a : Art) (ch sent : Int) (ended : Bool) : Cm × Bool × Int × Bool :=
  if ended = true then (zC, false, sent, true)
  else if sent = (a.2.size : Int) then (⟨8, ⟨#[]⟩, a.1, 0, 0, 0, 0, ⟨#[]⟩⟩, true, sent, true)
  else (⟨7, ⟨#[]⟩, a.1, 0, sent, 0, 0, a.2.extract sent.toNat (min (sent + ch) (a.2.size : Int)).toNat⟩, true, min (sent + ch) (a.2.size : Int), false)
def SayP (g : Nat) (a : Art) (ch sent : Int) (ended : Bool) (w : World) (e : Ending) (w' : World) : Prop :=
  e = .returned (.tuple #[vC (sayT a ch sent ended).1, .bool (sayT a ch sent ended).2.1]) ∧ Row w' g (cT a ch (sayT a ch sent ended).2.2.1 (sayT a ch sent ended).2.2.2) 120 ∧ Only g w w'
set_option maxRecDepth 100000 in
set_option maxHeartbeats 800000 in
theorem say40_ended (g : Nat) (x : Id) (t : ByteArray) (ch sent : Int) (w : World) (h : Row w g (cT (x, t) ch sent true) 120) :
    Calls Tryd.prog 40 #[.pointer (some ⟨g, 0, none⟩)] w (SayP g (x, t) ch sent true w) := by
  have k35 := (h.cell 35).trans (cT_35 _ _ _ _)
  have hlt := h.lt
  have HR := Lib.hid h
  clear h
  go_enter Tryd.func40, Tryd.ntmps40
  go_wp2
  exact bodyPost_ret (v := .tuple #[vC zC, .bool false]) (results_c2 (ad := ⟨w.heap.size, 0, none⟩) rfl rfl (load_C (Row.new w (cC zC) 45)) rfl) rfl ⟨rfl, HR.out.keep (below_alloc _ _), Only.of_below (below_alloc _ _)⟩
set_option maxRecDepth 100000 in
set_option maxHeartbeats 800000 in
theorem say40_done (g : Nat) (x : Id) (t : ByteArray) (ch : Int) (w : World) (h : Row w g (cT (x, t) ch (t.size : Int) false) 120) (_hs : t.size ≤ 1000000) :
    Calls Tryd.prog 40 #[.pointer (some ⟨g, 0, none⟩)] w (SayP g (x, t) ch (t.size : Int) false w) := by
  have hsay : sayT (x, t) ch (t.size : Int) false = (⟨8, ⟨#[]⟩, x, 0, 0, 0, 0, ⟨#[]⟩⟩, true, (t.size : Int), true) := by unfold sayT; rw [if_neg (by simp), if_pos rfl]
  have HY := Lib.hid hsay
  have k35 := (h.cell 35).trans (cT_35 _ _ _ _)
  have k34 := (h.cell 34).trans (cT_34 _ _ _ _)
  have k32 := (h.cell 32).trans (cT_32 _ _ _ _)
  obtain ⟨k0, k0'⟩ := h.idT
  have hlt := h.lt
  have hf := h.fz 35
  have HR := Lib.hid h
  clear h hsay
  unfold SayP
  rw [HY.out]
  go_enter Tryd.func40, Tryd.ntmps40
  go_wp2
  go_quiet (fail)
  have hW : Below w.heap.size w ((w.alloc (.cells (aC zC) 45)).drewN nq) := Below.step (below_alloc w (.cells (aC zC) 45)) (below_drewN _ nq)
  have hrow := (HR.out.keep hW).set 35 (.bool true)
  rw [cT_set35] at hrow
  have hres : Row (((w.alloc (.cells (aC zC) 45)).drewN nq).setCell ⟨g, 35, none⟩ (.bool true)) w.heap.size (cC zC) 45 := ((Row.new w (cC zC) 45).keep (below_drewN _ nq)).same (heap_set_other _ g 35 _ _ (by omega))
  obtain ⟨r1, r2⟩ := hrow.idT
  have r3 := hres.rok (cC_length zC)
  have HE := Lib.hid (And.intro hrow (And.intro hres hW))
  clear hrow hres hW
  go_wp2
  exact bodyPost_ret (v := .tuple #[vC ⟨8, ⟨#[]⟩, x, 0, 0, 0, 0, ⟨#[]⟩⟩, .bool true]) (results_c2 (ad := ⟨w.heap.size, 0, none⟩) rfl rfl (load_C (HE.out.2.1.setRow (ds := cC ⟨8, ⟨#[]⟩, x, 0, 0, 0, 0, ⟨#[]⟩⟩))) rfl) rfl ⟨rfl, HE.out.1.same (heap_setRow_other _ _ _ _ (by omega)), ((Only.of_below HE.out.2.2).trans (Only.setCell g 35 _ _)).setRow (Nat.le_refl _) _⟩
set_option maxRecDepth 100000 in
set_option maxHeartbeats 1600000 in
theorem say40_data (g : Nat) (x : Id) (t : ByteArray) (ch sent : Int) (w : World) (h : Row w g (cT (x, t) ch sent false) 120) (hs : t.size ≤ 1000000) (h0 : 0 ≤ sent) (h1 : sent < (t.size : Int)) (h2 : 1 ≤ ch) (h3 : ch ≤ 4096) :
    Calls Tryd.prog 40 #[.pointer (some ⟨g, 0, none⟩)] w (SayP g (x, t) ch sent false w) := by
  obtain ⟨sn, hsn⟩ : ∃ sn : Nat, sent = (sn : Int) := ⟨sent.toNat, by omega⟩
  obtain ⟨nx, hnx⟩ : ∃ nx, min (sent + ch) (t.size : Int) = nx := ⟨_, rfl⟩
  obtain ⟨nn, hnn⟩ : ∃ nn : Nat, nx = (nn : Int) := ⟨nx.toNat, by omega⟩
  have hsay : sayT (x, t) ch sent false = (⟨7, ⟨#[]⟩, x, 0, sent, 0, 0, t.extract sn nn⟩, true, nx, false) := by
    unfold sayT
    rw [if_neg (by simp), if_neg (show ¬ sent = (t.size : Int) by omega), hnx, hsn, hnn]
    rfl
  have HY := Lib.hid hsay
  have k35 := (h.cell 35).trans (cT_35 _ _ _ _)
  have k34 := (h.cell 34).trans (cT_34 _ _ _ _)
  have k33 := (h.cell 33).trans (cT_33 _ _ _ _)
  have k32 := (h.cell 32).trans (cT_32 _ _ _ _)
  have hlt := h.lt
  have hne : (sent == (t.size : Int)) = false := beq_eq_false_iff_ne.2 (by omega)
  have q1 : sent ≤ nx := by omega
  have q2 : nx ≤ (t.size : Int) := by omega
  have HN := Lib.hid (And.intro hnx (And.intro hsn (And.intro hnn (And.intro q1 q2))))
  have HR0 := Lib.hid h
  clear h hsay hnx hsn hnn q1 q2
  unfold SayP
  rw [HY.out]
  go_enter Tryd.func40, Tryd.ntmps40
  go_wp2
  go_quiet (fail)
  have HW : Below w.heap.size w ((w.alloc (.cells (aC zC) 45)).drewN nq) := Below.step (below_alloc w (.cells (aC zC) 45)) (below_drewN _ nq)
  have k34b := cell_below k34 HW
  have hrow7 := HR0.out.keep HW
  have hres7 : Row ((w.alloc (.cells (aC zC) 45)).drewN nq) w.heap.size (cC zC) 45 := (Row.new w (cC zC) 45).keep (below_drewN _ nq)
  go_wp2
  generalize (w.alloc (.cells (aC zC) 45)).drewN nq = W7 at HW k34b hrow7 hres7 ⊢
  have j33 := (hrow7.cell 33).trans (cT_33 _ _ _ _)
  have j32 := (hrow7.cell 32).trans (cT_32 _ _ _ _)
  have HR := Lib.hid (And.intro hrow7 hres7)
  clear k35 k34 k33 k32 hrow7 hres7
  refine AnyO.wp_any_tail 13 (by kernel_rfl) (by kernel_rfl) (by kernel_rfl) (by kernel_rfl) (by kernel_rfl) (by kernel_rfl) (pstP [isV (.pointer (some ⟨g, 0, none⟩)), isV (.int .i64 sent), isV (.pointer (some ⟨g, 0, none⟩)), isV (.pointer (some ⟨g, 0, none⟩)), isV (.pointer (some ⟨g, 33, none⟩)), isV (.int .i64 ch), isV (.int .i64 (sent + ch)), isV (.pointer (some ⟨g, 0, none⟩)), isV (.pointer (some ⟨g, 0, none⟩)), isV (.pointer (some ⟨g, 32, none⟩)), isV (.string t), isV (.int .i64 (t.size : Int)), isV (.int .i64 nx)]) (MonoL.cons (Mono.v _) (MonoL.cons (Mono.v _) (MonoL.cons (Mono.v _) (MonoL.cons (Mono.v _) (MonoL.cons (Mono.v _) (MonoL.cons (Mono.v _) (MonoL.cons (Mono.v _) (MonoL.cons (Mono.v _) (MonoL.cons (Mono.v _) (MonoL.cons (Mono.v _) (MonoL.cons (Mono.v _) (MonoL.cons (Mono.v _) (MonoL.cons (Mono.v _) MonoL.nil))))))))))))) ?_ ?_
  · intro i hi
    have hi2 : i = 0 ∨ i = 1 ∨ i = 2 ∨ i = 3 ∨ i = 4 ∨ i = 5 ∨ i = 6 ∨ i = 7 ∨ i = 8 ∨ i = 9 ∨ i = 10 ∨ i = 11 ∨ i = 12 := by omega
    clear hi
    rcases hi2 with rfl | rfl | rfl | rfl | rfl | rfl | rfl | rfl | rfl | rfl | rfl | rfl | rfl
    · -- 0: Op.move (Operand.tmp 0)
      refine AnyO.Step.mk rfl [] (by kernel_rfl) ?_
      intro vs u hE hp ac hb K hK
      have s0 : ac.tmps[0]?.getD undef = .pointer (some ⟨g, 0, none⟩) := by rw [hb]; kernel_rfl
      rw [if_pos (AnyO.wanted_none rfl)]
      clear hb hp
      go_simp
      exact hK _ _ (Below.refl _ _) rfl
    · -- 1: Op.move (Operand.tmp 4)
      refine AnyO.Step.mk rfl [] (by kernel_rfl) ?_
      intro vs u hE hp ac hb K hK
      have s4 : ac.tmps[4]?.getD undef = .int .i64 sent := by rw [hb]; kernel_rfl
      rw [if_pos (AnyO.wanted_none rfl)]
      clear hb hp
      go_simp
      exact hK _ _ (Below.refl _ _) rfl
    · -- 2: Op.move (Operand.tmp 0)
      refine AnyO.Step.mk rfl [] (by kernel_rfl) ?_
      intro vs u hE hp ac hb K hK
      have s0 : ac.tmps[0]?.getD undef = .pointer (some ⟨g, 0, none⟩) := by rw [hb]; kernel_rfl
      rw [if_pos (AnyO.wanted_none rfl)]
      clear hb hp
      go_simp
      exact hK _ _ (Below.refl _ _) rfl
    · -- 3: Op.nilCheck (Operand.tmp 38)
      refine AnyO.Step.mk rfl [2] (by kernel_rfl) ?_
      intro vs u hE hp ac hb K hK
      have s38 : ac.tmps[38]?.getD undef = .pointer (some ⟨g, 0, none⟩) := by rw [hb]; exact (show _ = vs 2 by kernel_rfl).trans (hp 2 (by decide))
      rw [if_pos (AnyO.wanted_none rfl)]
      clear hb hp
      go_simp
      exact hK _ _ (Below.refl _ _) rfl
    · -- 4: Op.fieldAddr 120 (Operand.tmp 39) 2
      refine AnyO.Step.mk rfl [3] (by kernel_rfl) ?_
      intro vs u hE hp ac hb K hK
      have s39 : ac.tmps[39]?.getD undef = .pointer (some ⟨g, 0, none⟩) := by rw [hb]; exact (show _ = vs 3 by kernel_rfl).trans (hp 3 (by decide))
      rw [if_pos (AnyO.wanted_none rfl)]
      clear hb hp
      go_simp
      exact hK _ _ (Below.refl _ _) rfl
    · -- 5: Op.load 3 (Operand.tmp 40)
      refine AnyO.Step.mk rfl [4] (by kernel_rfl) ?_
      intro vs u hE hp ac hb K hK
      have s40 : ac.tmps[40]?.getD undef = .pointer (some ⟨g, 33, none⟩) := by rw [hb]; exact (show _ = vs 4 by kernel_rfl).trans (hp 4 (by decide))
      rw [if_pos (AnyO.wanted_none rfl)]
      clear hb hp
      have rr := cell_below j33 (Below.step (below_drew _) hE)
      go_simp
      exact hK _ _ (Below.refl _ _) rfl
    · -- 6: Op.binOp BinOp.add 3 (Operand.tmp 37) (Operand.tmp 41) 3
      refine AnyO.Step.mk rfl [1, 5] (by kernel_rfl) ?_
      intro vs u hE hp ac hb K hK
      have s37 : ac.tmps[37]?.getD undef = .int .i64 sent := by rw [hb]; exact (show _ = vs 1 by kernel_rfl).trans (hp 1 (by decide))
      have s41 : ac.tmps[41]?.getD undef = .int .i64 ch := by rw [hb]; exact (show _ = vs 5 by kernel_rfl).trans (hp 5 (by decide))
      rw [if_pos (AnyO.wanted_none rfl)]
      clear hb hp
      have rr : IntKind.i64.wrap (sent + ch) = sent + ch := IntWalk.i64_in _ (by omega)
      go_simp
      exact hK _ _ (Below.refl _ _) rfl
    · -- 7: Op.move (Operand.tmp 0)
      refine AnyO.Step.mk rfl [] (by kernel_rfl) ?_
      intro vs u hE hp ac hb K hK
      have s0 : ac.tmps[0]?.getD undef = .pointer (some ⟨g, 0, none⟩) := by rw [hb]; kernel_rfl
      rw [if_pos (AnyO.wanted_none rfl)]
      clear hb hp
      go_simp
      exact hK _ _ (Below.refl _ _) rfl
    · -- 8: Op.nilCheck (Operand.tmp 43)
      refine AnyO.Step.mk rfl [7] (by kernel_rfl) ?_
      intro vs u hE hp ac hb K hK
      have s43 : ac.tmps[43]?.getD undef = .pointer (some ⟨g, 0, none⟩) := by rw [hb]; exact (show _ = vs 7 by kernel_rfl).trans (hp 7 (by decide))
      rw [if_pos (AnyO.wanted_none rfl)]
      clear hb hp
      go_simp
      exact hK _ _ (Below.refl _ _) rfl
    · -- 9: Op.fieldAddr 120 (Operand.tmp 44) 1
      refine AnyO.Step.mk rfl [8] (by kernel_rfl) ?_
      intro vs u hE hp ac hb K hK
      have s44 : ac.tmps[44]?.getD undef = .pointer (some ⟨g, 0, none⟩) := by rw [hb]; exact (show _ = vs 8 by kernel_rfl).trans (hp 8 (by decide))
      rw [if_pos (AnyO.wanted_none rfl)]
      clear hb hp
      go_simp
      exact hK _ _ (Below.refl _ _) rfl
    · -- 10: Op.load 9 (Operand.tmp 45)
      refine AnyO.Step.mk rfl [9] (by kernel_rfl) ?_
      intro vs u hE hp ac hb K hK
      have s45 : ac.tmps[45]?.getD undef = .pointer (some ⟨g, 32, none⟩) := by rw [hb]; exact (show _ = vs 9 by kernel_rfl).trans (hp 9 (by decide))
      rw [if_pos (AnyO.wanted_none rfl)]
      clear hb hp
      have rr := cell_below j32 (Below.step (below_drew _) hE)
      go_simp
      exact hK _ _ (Below.refl _ _) rfl
    · -- 11: Op.call { callee := Callee.builtin Builtin.len, args := #[Op
      refine AnyO.Step.mk rfl [10] (by kernel_rfl) ?_
      intro vs u hE hp ac hb K hK
      have s46 : ac.tmps[46]?.getD undef = .string t := by rw [hb]; exact (show _ = vs 10 by kernel_rfl).trans (hp 10 (by decide))
      rw [if_pos (AnyO.wanted_none rfl)]
      clear hb hp
      go_simp
      exact hK _ _ (Below.refl _ _) rfl
    · -- 12: Op.call { callee := Callee.builtin Builtin.min, args := #[Op
      refine AnyO.Step.mk rfl [6, 11] (by kernel_rfl) ?_
      intro vs u hE hp ac hb K hK
      have s42 : ac.tmps[42]?.getD undef = .int .i64 (sent + ch) := by rw [hb]; exact (show _ = vs 6 by kernel_rfl).trans (hp 6 (by decide))
      have s47 : ac.tmps[47]?.getD undef = .int .i64 (t.size : Int) := by rw [hb]; exact (show _ = vs 11 by kernel_rfl).trans (hp 11 (by decide))
      rw [if_pos (AnyO.wanted_none rfl)]
      clear hb hp
      have rr := HN.out.1
      go_simp
      exact hK _ _ (Below.refl _ _) rfl
  · intro vs u hE hp
    have e0 : vs 0 = .pointer (some ⟨g, 0, none⟩) := hp 0 (by decide)
    have e1 : vs 1 = .int .i64 sent := hp 1 (by decide)
    have e2 : vs 2 = .pointer (some ⟨g, 0, none⟩) := hp 2 (by decide)
    have e3 : vs 3 = .pointer (some ⟨g, 0, none⟩) := hp 3 (by decide)
    have e4 : vs 4 = .pointer (some ⟨g, 33, none⟩) := hp 4 (by decide)
    have e5 : vs 5 = .int .i64 ch := hp 5 (by decide)
    have e6 : vs 6 = .int .i64 (sent + ch) := hp 6 (by decide)
    have e7 : vs 7 = .pointer (some ⟨g, 0, none⟩) := hp 7 (by decide)
    have e8 : vs 8 = .pointer (some ⟨g, 0, none⟩) := hp 8 (by decide)
    have e9 : vs 9 = .pointer (some ⟨g, 32, none⟩) := hp 9 (by decide)
    have e10 : vs 10 = .string t := hp 10 (by decide)
    have e11 : vs 11 = .int .i64 (t.size : Int) := hp 11 (by decide)
    have e12 : vs 12 = .int .i64 nx := hp 12 (by decide)
    clear hp
    have hu := hE
    clear hE
    rw [puts_range [some 36, some 37, some 38, some 39, some 40, some 41, some 42, some 43, some 44, some 45, some 46, some 47, some 48] (by kernel_rfl)]
    simp only [putL, Nat.reduceAdd, List.drop_succ_cons, List.drop_zero, e0, e1, e2, e3, e4, e5, e6, e7, e8, e9, e10, e11, e12]
    clear e0 e1 e2 e3 e4 e5 e6 e7 e8 e9 e10 e11 e12
    go_simp
    have hrowu := HR.out.1.keep hu
    have j34 := (hrowu.cell 34).trans (cT_34 _ _ _ _)
    have f34 := hrowu.fz 34
    have hrow8 := hrowu.set 34 (.int .i64 nx)
    rw [cT_set34] at hrow8
    have hres8 := (HR.out.2.keep hu).same (heap_set_other u g 34 (.int .i64 nx) w.heap.size (by omega))
    have HO8 := Lib.hid (((Only.of_below (g := g) HW).trans (Only.of_below hu)).trans (Only.setCell g 34 u (.int .i64 nx)))
    clear hrowu hu j32 j33
    go_wp2
    generalize u.setCell ⟨g, 34, none⟩ (.int .i64 nx) = W8 at hrow8 hres8 HO8 ⊢
    have l32 := (hrow8.cell 32).trans (cT_32 _ _ _ _)
    have l34 := (hrow8.cell 34).trans (cT_34 _ _ _ _)
    obtain ⟨l0, l0'⟩ := hrow8.idT
    have hlt8 := hrow8.lt
    have HR8 := Lib.hid (And.intro hrow8 hres8)
    clear hrow8 hres8 j34 f34 k34b HW
    refine AnyO.wp_any_tail 16 (by kernel_rfl) (by kernel_rfl) (by kernel_rfl) (by kernel_rfl) (by kernel_rfl) (by kernel_rfl) (pstP [isV (.pointer (some ⟨g, 0, none⟩)), isV (.pointer (some ⟨g, 0, none⟩)), isV (.pointer (some ⟨g, 0, none⟩)), isV (vI x), isV (.int .i64 sent), isV (.pointer (some ⟨g, 0, none⟩)), isV (.pointer (some ⟨g, 0, none⟩)), isV (.pointer (some ⟨g, 32, none⟩)), isV (.string t), isV (.int .i64 sent), isV (.pointer (some ⟨g, 0, none⟩)), isV (.pointer (some ⟨g, 0, none⟩)), isV (.pointer (some ⟨g, 34, none⟩)), isV (.int .i64 nx), isV (.string (t.extract sn nn)), isV (vC ⟨7, ⟨#[]⟩, x, 0, sent, 0, 0, t.extract sn nn⟩)]) (MonoL.cons (Mono.v _) (MonoL.cons (Mono.v _) (MonoL.cons (Mono.v _) (MonoL.cons (Mono.v _) (MonoL.cons (Mono.v _) (MonoL.cons (Mono.v _) (MonoL.cons (Mono.v _) (MonoL.cons (Mono.v _) (MonoL.cons (Mono.v _) (MonoL.cons (Mono.v _) (MonoL.cons (Mono.v _) (MonoL.cons (Mono.v _) (MonoL.cons (Mono.v _) (MonoL.cons (Mono.v _) (MonoL.cons (Mono.v _) (MonoL.cons (Mono.v _) MonoL.nil)))))))))))))))) ?_ ?_
    · intro i hi
      have hi2 : i = 0 ∨ i = 1 ∨ i = 2 ∨ i = 3 ∨ i = 4 ∨ i = 5 ∨ i = 6 ∨ i = 7 ∨ i = 8 ∨ i = 9 ∨ i = 10 ∨ i = 11 ∨ i = 12 ∨ i = 13 ∨ i = 14 ∨ i = 15 := by omega
      clear hi
      rcases hi2 with rfl | rfl | rfl | rfl | rfl | rfl | rfl | rfl | rfl | rfl | rfl | rfl | rfl | rfl | rfl | rfl
      · -- 0: Op.move (Operand.tmp 0)
        refine AnyO.Step.mk rfl [] (by kernel_rfl) ?_
        intro vs u hE hp ac hb K hK
        have s0 : ac.tmps[0]?.getD undef = .pointer (some ⟨g, 0, none⟩) := by rw [hb]; kernel_rfl
        rw [if_pos (AnyO.wanted_none rfl)]
        clear hb hp
        go_simp
        exact hK _ _ (Below.refl _ _) rfl
      · -- 1: Op.nilCheck (Operand.tmp 51)
        refine AnyO.Step.mk rfl [0] (by kernel_rfl) ?_
        intro vs u hE hp ac hb K hK
        have s51 : ac.tmps[51]?.getD undef = .pointer (some ⟨g, 0, none⟩) := by rw [hb]; exact (show _ = vs 0 by kernel_rfl).trans (hp 0 (by decide))
        rw [if_pos (AnyO.wanted_none rfl)]
        clear hb hp
        go_simp
        exact hK _ _ (Below.refl _ _) rfl
      · -- 2: Op.fieldAddr 120 (Operand.tmp 52) 0
        refine AnyO.Step.mk rfl [1] (by kernel_rfl) ?_
        intro vs u hE hp ac hb K hK
        have s52 : ac.tmps[52]?.getD undef = .pointer (some ⟨g, 0, none⟩) := by rw [hb]; exact (show _ = vs 1 by kernel_rfl).trans (hp 1 (by decide))
        rw [if_pos (AnyO.wanted_none rfl)]
        clear hb hp
        go_simp
        exact hK _ _ (Below.refl _ _) rfl
      · -- 3: Op.load 40 (Operand.tmp 53)
        refine AnyO.Step.mk rfl [2] (by kernel_rfl) ?_
        intro vs u hE hp ac hb K hK
        have s53 : ac.tmps[53]?.getD undef = .pointer (some ⟨g, 0, none⟩) := by rw [hb]; exact (show _ = vs 2 by kernel_rfl).trans (hp 2 (by decide))
        rw [if_pos (AnyO.wanted_none rfl)]
        clear hb hp
        have rr := okA_below l0 hlt8 (Below.step (below_drew _) hE)
        rw [l0'] at rr
        obtain ⟨rr1, rr2⟩ := rr
        go_simp
        exact hK _ _ (Below.refl _ _) rfl
      · -- 4: Op.move (Operand.tmp 4)
        refine AnyO.Step.mk rfl [] (by kernel_rfl) ?_
        intro vs u hE hp ac hb K hK
        have s4 : ac.tmps[4]?.getD undef = .int .i64 sent := by rw [hb]; kernel_rfl
        rw [if_pos (AnyO.wanted_none rfl)]
        clear hb hp
        go_simp
        exact hK _ _ (Below.refl _ _) rfl
      · -- 5: Op.move (Operand.tmp 0)
        refine AnyO.Step.mk rfl [] (by kernel_rfl) ?_
        intro vs u hE hp ac hb K hK
        have s0 : ac.tmps[0]?.getD undef = .pointer (some ⟨g, 0, none⟩) := by rw [hb]; kernel_rfl
        rw [if_pos (AnyO.wanted_none rfl)]
        clear hb hp
        go_simp
        exact hK _ _ (Below.refl _ _) rfl
      · -- 6: Op.nilCheck (Operand.tmp 56)
        refine AnyO.Step.mk rfl [5] (by kernel_rfl) ?_
        intro vs u hE hp ac hb K hK
        have s56 : ac.tmps[56]?.getD undef = .pointer (some ⟨g, 0, none⟩) := by rw [hb]; exact (show _ = vs 5 by kernel_rfl).trans (hp 5 (by decide))
        rw [if_pos (AnyO.wanted_none rfl)]
        clear hb hp
        go_simp
        exact hK _ _ (Below.refl _ _) rfl
      · -- 7: Op.fieldAddr 120 (Operand.tmp 57) 1
        refine AnyO.Step.mk rfl [6] (by kernel_rfl) ?_
        intro vs u hE hp ac hb K hK
        have s57 : ac.tmps[57]?.getD undef = .pointer (some ⟨g, 0, none⟩) := by rw [hb]; exact (show _ = vs 6 by kernel_rfl).trans (hp 6 (by decide))
        rw [if_pos (AnyO.wanted_none rfl)]
        clear hb hp
        go_simp
        exact hK _ _ (Below.refl _ _) rfl
      · -- 8: Op.load 9 (Operand.tmp 58)
        refine AnyO.Step.mk rfl [7] (by kernel_rfl) ?_
        intro vs u hE hp ac hb K hK
        have s58 : ac.tmps[58]?.getD undef = .pointer (some ⟨g, 32, none⟩) := by rw [hb]; exact (show _ = vs 7 by kernel_rfl).trans (hp 7 (by decide))
        rw [if_pos (AnyO.wanted_none rfl)]
        clear hb hp
        have rr := cell_below l32 (Below.step (below_drew _) hE)
        go_simp
        exact hK _ _ (Below.refl _ _) rfl
      · -- 9: Op.move (Operand.tmp 4)
        refine AnyO.Step.mk rfl [] (by kernel_rfl) ?_
        intro vs u hE hp ac hb K hK
        have s4 : ac.tmps[4]?.getD undef = .int .i64 sent := by rw [hb]; kernel_rfl
        rw [if_pos (AnyO.wanted_none rfl)]
        clear hb hp
        go_simp
        exact hK _ _ (Below.refl _ _) rfl
      · -- 10: Op.move (Operand.tmp 0)
        refine AnyO.Step.mk rfl [] (by kernel_rfl) ?_
        intro vs u hE hp ac hb K hK
        have s0 : ac.tmps[0]?.getD undef = .pointer (some ⟨g, 0, none⟩) := by rw [hb]; kernel_rfl
        rw [if_pos (AnyO.wanted_none rfl)]
        clear hb hp
        go_simp
        exact hK _ _ (Below.refl _ _) rfl
      · -- 11: Op.nilCheck (Operand.tmp 61)
        refine AnyO.Step.mk rfl [10] (by kernel_rfl) ?_
        intro vs u hE hp ac hb K hK
        have s61 : ac.tmps[61]?.getD undef = .pointer (some ⟨g, 0, none⟩) := by rw [hb]; exact (show _ = vs 10 by kernel_rfl).trans (hp 10 (by decide))
        rw [if_pos (AnyO.wanted_none rfl)]
        clear hb hp
        go_simp
        exact hK _ _ (Below.refl _ _) rfl
      · -- 12: Op.fieldAddr 120 (Operand.tmp 62) 3
        refine AnyO.Step.mk rfl [11] (by kernel_rfl) ?_
        intro vs u hE hp ac hb K hK
        have s62 : ac.tmps[62]?.getD undef = .pointer (some ⟨g, 0, none⟩) := by rw [hb]; exact (show _ = vs 11 by kernel_rfl).trans (hp 11 (by decide))
        rw [if_pos (AnyO.wanted_none rfl)]
        clear hb hp
        go_simp
        exact hK _ _ (Below.refl _ _) rfl
      · -- 13: Op.load 3 (Operand.tmp 63)
        refine AnyO.Step.mk rfl [12] (by kernel_rfl) ?_
        intro vs u hE hp ac hb K hK
        have s63 : ac.tmps[63]?.getD undef = .pointer (some ⟨g, 34, none⟩) := by rw [hb]; exact (show _ = vs 12 by kernel_rfl).trans (hp 12 (by decide))
        rw [if_pos (AnyO.wanted_none rfl)]
        clear hb hp
        have rr := cell_below l34 (Below.step (below_drew _) hE)
        go_simp
        exact hK _ _ (Below.refl _ _) rfl
      · -- 14: Op.slice 9 (Operand.tmp 59) (some (Operand.tmp 60)) (some (O
        refine AnyO.Step.mk rfl [8, 9, 13] (by kernel_rfl) ?_
        intro vs u hE hp ac hb K hK
        have s59 : ac.tmps[59]?.getD undef = .string t := by rw [hb]; exact (show _ = vs 8 by kernel_rfl).trans (hp 8 (by decide))
        have s60 : ac.tmps[60]?.getD undef = .int .i64 sent := by rw [hb]; exact (show _ = vs 9 by kernel_rfl).trans (hp 9 (by decide))
        have s64 : ac.tmps[64]?.getD undef = .int .i64 nx := by rw [hb]; exact (show _ = vs 13 by kernel_rfl).trans (hp 13 (by decide))
        rw [if_pos (AnyO.wanted_none rfl)]
        clear hb hp
        have rr1 := HN.out.2.2.2.1
        have rr2 := HN.out.2.2.2.2
        have rr3 : sent.toNat = sn := by have := HN.out.2.1; omega
        have rr4 : nx.toNat = nn := by have := HN.out.2.2.1; omega
        go_simp
        exact hK _ _ (Below.refl _ _) rfl
      · -- 15: Op.build 45 #[(0, Operand.const (Value.int IntKind.i64 7)), 
        refine AnyO.Step.mk rfl [3, 4, 14] (by kernel_rfl) ?_
        intro vs u hE hp ac hb K hK
        have s54 : ac.tmps[54]?.getD undef = vI x := by rw [hb]; exact (show _ = vs 3 by kernel_rfl).trans (hp 3 (by decide))
        have s55 : ac.tmps[55]?.getD undef = .int .i64 sent := by rw [hb]; exact (show _ = vs 4 by kernel_rfl).trans (hp 4 (by decide))
        have s65 : ac.tmps[65]?.getD undef = .string (t.extract sn nn) := by rw [hb]; exact (show _ = vs 14 by kernel_rfl).trans (hp 14 (by decide))
        rw [if_pos (AnyO.wanted_none rfl)]
        clear hb hp
        go_simp
        exact hK _ _ (Below.refl _ _) rfl
    · intro vs u hE hp
      have e0 : vs 0 = .pointer (some ⟨g, 0, none⟩) := hp 0 (by decide)
      have e1 : vs 1 = .pointer (some ⟨g, 0, none⟩) := hp 1 (by decide)
      have e2 : vs 2 = .pointer (some ⟨g, 0, none⟩) := hp 2 (by decide)
      have e3 : vs 3 = vI x := hp 3 (by decide)
      have e4 : vs 4 = .int .i64 sent := hp 4 (by decide)
      have e5 : vs 5 = .pointer (some ⟨g, 0, none⟩) := hp 5 (by decide)
      have e6 : vs 6 = .pointer (some ⟨g, 0, none⟩) := hp 6 (by decide)
      have e7 : vs 7 = .pointer (some ⟨g, 32, none⟩) := hp 7 (by decide)
      have e8 : vs 8 = .string t := hp 8 (by decide)
      have e9 : vs 9 = .int .i64 sent := hp 9 (by decide)
      have e10 : vs 10 = .pointer (some ⟨g, 0, none⟩) := hp 10 (by decide)
      have e11 : vs 11 = .pointer (some ⟨g, 0, none⟩) := hp 11 (by decide)
      have e12 : vs 12 = .pointer (some ⟨g, 34, none⟩) := hp 12 (by decide)
      have e13 : vs 13 = .int .i64 nx := hp 13 (by decide)
      have e14 : vs 14 = .string (t.extract sn nn) := hp 14 (by decide)
      have e15 : vs 15 = vC ⟨7, ⟨#[]⟩, x, 0, sent, 0, 0, t.extract sn nn⟩ := hp 15 (by decide)
      clear hp
      have hu := hE
      clear hE
      rw [puts_range [some 51, some 52, some 53, some 54, some 55, some 56, some 57, some 58, some 59, some 60, some 61, some 62, some 63, some 64, some 65, some 66] (by kernel_rfl)]
      simp only [putL, Nat.reduceAdd, List.drop_succ_cons, List.drop_zero, e0, e1, e2, e3, e4, e5, e6, e7, e8, e9, e10, e11, e12, e13, e14, e15]
      clear e0 e1 e2 e3 e4 e5 e6 e7 e8 e9 e10 e11 e12 e13 e14 e15
      go_simp
      have hrow9 := HR8.out.1.keep hu
      have hres9 := HR8.out.2.keep hu
      have r3 := hres9.rok (cC_length zC)
      have HE := Lib.hid (And.intro hrow9 (And.intro hres9 (HO8.out.trans (Only.of_below hu))))
      clear hrow9 hres9 hu l32 l34 l0 l0'
      go_wp2
      exact bodyPost_ret (v := .tuple #[vC ⟨7, ⟨#[]⟩, x, 0, sent, 0, 0, t.extract sn nn⟩, .bool true]) (results_c2 (ad := ⟨w.heap.size, 0, none⟩) rfl rfl (load_C (HE.out.2.1.setRow (ds := cC ⟨7, ⟨#[]⟩, x, 0, sent, 0, 0, t.extract sn nn⟩))) rfl) rfl ⟨rfl, HE.out.1.same (heap_setRow_other _ _ _ _ (by omega)), HE.out.2.2.setRow (Nat.le_refl _) _⟩
end Go.Proofs.YtlelecnafdddhaaDoor
