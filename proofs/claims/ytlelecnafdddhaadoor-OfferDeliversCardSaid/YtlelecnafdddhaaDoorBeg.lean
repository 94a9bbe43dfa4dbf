/- begin and cut of bulletinlaw33. -/
import Derived.Test.YtlelecnafdddhaaDoorOps
namespace Go.Proofs.YtlelecnafdddhaaDoor
open Go.RowKit
def cutS (t : ByteArray) : ByteArray := cutN t 300
theorem cutS_size (t : ByteArray) : (cutS t).size ≤ 300 := by
  unfold cutS cutN
  rw [ByteArray.size_extract]
  omega
set_option maxRecDepth 100000 in
set_option maxHeartbeats 400000 in
theorem cut16 (t : ByteArray) (w : World) : Calls Tryd.prog 16 #[.string t] w fun e w' => e = .returned (.string (cutS t)) ∧ w' = w := by
  have hq : cutS t = t.extract 0 (min t.size 300) := rfl
  generalize cutS t = q at hq
  by_cases h : (t.size : Int) < 300
  · have h1 : ¬ (300 : Int) < (t.size : Int) := by omega
    have h2 : min (t.size : Int) 300 = (t.size : Int) := by omega
    have h3 : min t.size 300 = t.size := by omega
    rw [h3] at hq
    subst hq
    go_enter Tryd.func16, Tryd.ntmps16
    go_wp2
    go_ret
    simp
  · have h1 : (300 : Int) ≤ (t.size : Int) := by omega
    have h2 : min (t.size : Int) 300 = 300 := by omega
    have h3 : min t.size 300 = 300 := by omega
    have h4 : ¬ (t.size : Int) < 300 := h
    rw [h3] at hq
    subst hq
    go_enter Tryd.func16, Tryd.ntmps16
    go_wp2
    go_ret
    simp
theorem results_t2c {P : Program} {fn : Func} {tmps : Array Value} {w : World} {a p : Tmp} {t : TypeId} {ad : Addr} {v x : Value} (hres : fn.results = #[.tmp p, .cell a t]) (h1 : tmps[a]?.getD undef = .pointer (some ad)) (h2 : (loadVar t ad).run P w = .ok v w) (h3 : tmps[p]?.getD undef = x) :
    (results fn tmps).run P w = .ok (.tuple #[x, v]) w := by
  simp [results, hres, h1, h2, h3, asAddr]
/-- A sender that has just been made, beside rows that lie already. -/
theorem Inv.start {w0 w w' : World} {b : Nat} {ch : Int} {L : List (Nat × List Value × TypeId)} (hb : Below w0.heap.size w0 w) (hL : ∀ x ∈ L, Row w x.1 x.2.1 x.2.2) (hlb : w.heap.size ≤ b) (hr : Rep b ch St.zero [b] w') (hbl : Below w.heap.size w w') : Inv w0 b ch St.zero L w' :=
  ⟨⟨hbl.os.trans hb.os, hbl.tape.trans hb.tape, hbl.output.trans hb.output, Nat.le_trans hb.size hbl.size, fun k hk => (hbl.block k (Nat.lt_of_lt_of_le hk hb.size)).trans (hb.block k hk)⟩, [b], hr, fun k hk => by rw [List.mem_singleton.1 hk]; exact ⟨Nat.le_trans hb.size hlb, hr.lt⟩, fun x hx => ⟨(hL x hx).keep hbl, fun hm => by have h1 := (hL x hx).lt; rw [List.mem_singleton.1 hm] at h1; omega⟩⟩
theorem RefAt.zero {F : List Nat} {ch : Int} {r : Rs} {w : World} (h : RefAt F ch St.zero r w) (F' : List Nat) (w' : World) : RefAt F' ch St.zero r w' :=
  ⟨h.ch, h.st, h.cur, h.at_, ⟨h.ws.1, h.ws.2.1, fun hx => absurd rfl hx, fun _ _ hx => absurd rfl hx⟩, ⟨h.os.1, h.os.2.1, fun hx => absurd rfl hx, fun _ _ hx => absurd rfl hx⟩⟩
def chunkN (c : UInt8) : Int := 1 + ((c.toNat % 64 : Nat) : Int)
theorem chunkN_lo (c : UInt8) : 1 ≤ chunkN c := by unfold chunkN; omega
theorem chunkN_hi (c : UInt8) : chunkN c ≤ 64 := by unfold chunkN; omega
theorem byte_all {p : UInt8 → Prop} (h : ∀ n : Fin 256, p (UInt8.ofNat n.val)) (c : UInt8) : p c := by
  have := h ⟨c.toNat, UInt8.toNat_lt c⟩
  simpa using this
theorem chunk_tmod (c : UInt8) : (c.toNat : Int).tmod 64 = ((c.toNat % 64 : Nat) : Int) := by
  rw [Int.tmod_eq_emod_of_nonneg (by omega)]
  omega
set_option maxRecDepth 100000 in
set_option maxHeartbeats 1600000 in
theorem begin17 (c : UInt8) (w : World) : Calls Tryd.prog 17 #[.int .u8 (c.toNat : Int)] w fun e w' => ∃ b r, e = .returned (.tuple #[.pointer (some ⟨b, 0, none⟩), vR r]) ∧ w.heap.size ≤ b ∧ Rep b (chunkN c) St.zero [b] w' ∧ RefAt [b] (chunkN c) St.zero r w' ∧ Below w.heap.size w w' := by
  have e1 := chunk_tmod c
  obtain ⟨ch, hch⟩ : ∃ ch, chunkN c = ch := ⟨_, rfl⟩
  have e2 : (1 : Int) + ((c.toNat % 64 : Nat) : Int) = ch := hch
  have l1 := chunkN_lo c
  have l2 := chunkN_hi c
  rw [hch] at l1 l2 ⊢
  have e3 : IntKind.i64.wrap ((c.toNat % 64 : Nat) : Int) = ((c.toNat % 64 : Nat) : Int) := IntWalk.i64_in _ (by omega)
  have e4 : IntKind.i64.wrap ch = ch := IntWalk.i64_in _ (by omega)
  have e5 : IntKind.i64.wrap (c.toNat : Int) = (c.toNat : Int) := IntWalk.i64_in _ (by have := UInt8.toNat_lt c; omega)
  obtain ⟨cn, hcn⟩ : ∃ cn : Nat, c.toNat % 64 = cn := ⟨_, rfl⟩
  rw [hcn] at e1 e2 e3
  have H := Lib.hid (And.intro l1 l2)
  clear l1 l2 hch hcn
  have T0 : True := trivial
  go_enter Tryd.func17, Tryd.ntmps17
  go_wp2_with (first
    | (have hh := T0; clear hh T0; go_at_call 11; refine (new11_ok ch H.out.1 (by have := H.out.2; omega) _).mono ?_; rintro e w1 ⟨rfl, hr, hb⟩; have H1 := Lib.hid (And.intro hr hb); clear hr hb; have T1 : True := trivial)
    | (have hh := T1; clear hh T1; go_at_call 12; refine (refNew12_ok [w.heap.size + 1] ch H.out.1 (by have := H.out.2; omega) _).mono ?_; rintro e w2 ⟨r, rfl, hr, hb⟩; have H2 := Lib.hid (And.intro hr hb); clear hr hb))
  have HR : Row w2 w.heap.size (cR zR) 32 := (((Row.new w (cR zR) 32).keep H1.out.2).keep H2.out.2)
  have hb1 : Below w.heap.size w w2 := Below.step (Below.step (below_alloc w _) H1.out.2) H2.out.2
  have n1 : w.heap.size < w2.heap.size := HR.lt
  have f1 : rowOk (w2.alloc (.cells (aR r) 32)) w.heap.size 38 = true := (HR.keep (below_alloc w2 _)).rok (cR_length zR)
  have f2 : okA (w2.alloc (.cells (aR r) 32)) ⟨w2.heap.size, 0, none⟩ 38 = true := okA_n32 w2 r 32 _ rfl
  have f3 : rdA (w2.alloc (.cells (aR r) 32)) ⟨w2.heap.size, 0, none⟩ 38 = vR r := rdA_n32 w2 r 32 _ rfl
  have HZ := Lib.hid (And.intro hb1 trivial)
  have HK := Lib.hid HR
  clear hb1 HR
  go_region
  all_goals (try go_wp2)
  all_goals
    have HS : Row (w2.setRow w.heap.size (aR r)) w.heap.size (cR r) 32 := (HK.out).setRow
    have ho : ∀ k, k ≠ w.heap.size → (w2.setRow w.heap.size (aR r)).heap[k]? = w2.heap[k]? := fun k hk => by simp only [World.setRow, Array.getElem?_modify]; rw [if_neg (fun e => hk e.symm)]
    have hrep : Rep (w.heap.size + 1) ch St.zero [w.heap.size + 1] (w2.setRow w.heap.size (aR r)) := by
      have h1 := H1.out.1
      rw [show (w.alloc (Obj.cells (aR zR) 32)).heap.size = w.heap.size + 1 by simp] at h1
      obtain ⟨vw, vo, q, h2⟩ := h1.keep H2.out.2
      exact ⟨vw, vo, q, h2.same fun k hk => by rw [List.mem_singleton.1 hk]; exact ho _ (by omega)⟩
    have hbl : Below w.heap.size w (w2.setRow w.heap.size (aR r)) := Below.setRow' HZ.out.1 (Nat.le_refl _) _
    exact bodyPost_ret (v := .tuple #[.pointer (some ⟨w.heap.size + 1, 0, none⟩), vR r]) (results_t2c (ad := ⟨w.heap.size, 0, none⟩) rfl rfl (load_R (HS.keep (Below.step (below_alloc _ _) (below_drew _)))) rfl) rfl
      ⟨w.heap.size + 1, r, rfl, Nat.le_succ _, hrep.keep (Below.step (below_alloc _ _) (below_drew _)), H2.out.1.zero _ _, (Below.step hbl (below_alloc _ _)).drew⟩
end Go.Proofs.YtlelecnafdddhaaDoor
