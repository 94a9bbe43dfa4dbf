/- A taker in memory: what its blocks hold, and how stores turn them; New, Open, IsOpen. -/
import Derived.Test.YtgojaelkdpabkaaGreatDoorDl
namespace Go.Proofs.YtgojaelkdpabkaaGreatDoor
open Go.RowKit
def slV (v : SlV) : Value := .slice v.1 v.2.1 v.2.2
def blkL (v : SlV) : List Nat := match v.1 with | some ad => [ad.block] | none => []
theorem blk_of {v : SlV} {k : Nat} (h : (Value.slice v.1 v.2.1 v.2.2).ownBlock = some k) : ∃ ad, v.1 = some ad ∧ ad.block = k := by
  obtain ⟨A, n, c⟩ := v
  cases A with
  | none => simp [Value.ownBlock] at h
  | some ad => exact ⟨ad, rfl, by simpa [Value.ownBlock] using h⟩
theorem of_blk {v : SlV} {ad : Addr} (h : v.1 = some ad) : (Value.slice v.1 v.2.1 v.2.2).ownBlock = some ad.block := by rw [h]; rfl
structure TkR (b : Nat) (s : Tk) (F : List Nat) (va vk : SlV) (w : World) : Prop where
  row : Row w b (cT ⟨s.win, s.opn, va, vk⟩) 80
  oa : Own w 0 86 35 cA (.slice va.1 va.2.1 va.2.2) s.act
  ok : Own w 0 86 35 cA (.slice vk.1 vk.2.1 vk.2.2) s.kept
  bF : b ∈ F
  aF : ∀ ad, va.1 = some ad → ad.block ∈ F ∧ ad.block ≠ b ∧ ∀ ad', vk.1 = some ad' → ad'.block ≠ ad.block
  kF : ∀ ad, vk.1 = some ad → ad.block ∈ F ∧ ad.block ≠ b
def TkAt (b : Nat) (s : Tk) (F : List Nat) (w : World) : Prop := ∃ va vk, TkR b s F va vk w
section
variable {b : Nat} {s : Tk} {F : List Nat} {va vk : SlV} {w w' : World}
theorem TkR.c0 (h : TkR b s F va vk w) : w.cell? ⟨b, 0, none⟩ = some (.int .i64 s.win) := h.row.cell 0
theorem TkR.c1 (h : TkR b s F va vk w) : w.cell? ⟨b, 1, none⟩ = some (.bool s.opn) := h.row.cell 1
theorem TkR.c2 (h : TkR b s F va vk w) : w.cell? ⟨b, 2, none⟩ = some (.slice va.1 va.2.1 va.2.2) := h.row.cell 2
theorem TkR.c3 (h : TkR b s F va vk w) : w.cell? ⟨b, 3, none⟩ = some (.slice vk.1 vk.2.1 vk.2.2) := h.row.cell 3
theorem TkR.la (h : TkR b s F va vk w) : va.2.1 = s.act.length := by
  obtain ⟨A, c, e, _⟩ := Own.sl h.oa
  exact (Value.slice.inj e).2.1
theorem TkR.lk (h : TkR b s F va vk w) : vk.2.1 = s.kept.length := by
  obtain ⟨A, c, e, _⟩ := Own.sl h.ok
  exact (Value.slice.inj e).2.1
theorem TkR.ca (h : TkR b s F va vk w) : s.act.length ≤ va.2.2 := by
  obtain ⟨A, c, e, hc, _⟩ := Own.sl h.oa
  rw [(Value.slice.inj e).2.2]
  exact hc
theorem TkR.ck (h : TkR b s F va vk w) : s.kept.length ≤ vk.2.2 := by
  obtain ⟨A, c, e, hc, _⟩ := Own.sl h.ok
  rw [(Value.slice.inj e).2.2]
  exact hc
theorem TkR.same (h : TkR b s F va vk w) (hk : ∀ k ∈ F, w'.heap[k]? = w.heap[k]?) : TkR b s F va vk w' :=
  ⟨h.row.same (hk b h.bF), h.oa.same (fun k e => by obtain ⟨ad, h1, rfl⟩ := blk_of e; exact hk _ (h.aF ad h1).1), h.ok.same (fun k e => by obtain ⟨ad, h1, rfl⟩ := blk_of e; exact hk _ (h.kF ad h1).1), h.bF, h.aF, h.kF⟩
theorem TkR.keep (h : TkR b s F va vk w) (hb : Below w.heap.size w w') : TkR b s F va vk w' := ⟨h.row.keep hb, h.oa.keep hb, h.ok.keep hb, h.bF, h.aF, h.kF⟩
theorem TkAt.keep (h : TkAt b s F w) (hb : Below w.heap.size w w') : TkAt b s F w' := by
  obtain ⟨va, vk, h⟩ := h
  exact ⟨va, vk, h.keep hb⟩
theorem TkR.blt (h : TkR b s F va vk w) : b < w.heap.size := h.row.lt
theorem TkR.alt (h : TkR b s F va vk w) {ad : Addr} (e : va.1 = some ad) : ad.block < w.heap.size := (Own.lt h.oa _ (of_blk e)).2
theorem TkR.klt (h : TkR b s F va vk w) {ad : Addr} (e : vk.1 = some ad) : ad.block < w.heap.size := (Own.lt h.ok _ (of_blk e)).2
theorem mem_blk {v : SlV} {ad : Addr} (h : v.1 = some ad) : ad.block ∈ blkL v := by unfold blkL; rw [h]; exact List.mem_singleton.2 rfl
theorem of_mem_blk {v : SlV} {k : Nat} (h : k ∈ blkL v) : ∃ ad, v.1 = some ad ∧ ad.block = k := by
  unfold blkL at h
  split at h
  · rename_i ad e
    exact ⟨ad, e, (List.mem_singleton.1 h).symm⟩
  · cases h
/-- Only a taker's own block turns. -/
theorem Kp.one {g : Nat} (h : One g w w') (hg : g ∈ F) : Kp F F w w' := ⟨h.os, h.tape, h.output, h.size, fun k hk hF => ⟨hF, h.out k hk (fun e => hF (e ▸ hg))⟩⟩
/-- The list of the kept parts turns in memory of its own, and then the taker's field. -/
theorem TkR.setK (h : TkR b s F va vk w) {vk' : SlV} {l' : List Pt} (hg : w.grownBy w' (Value.slice vk.1 vk.2.1 vk.2.2).ownBlock) (ho : Own w' 0 86 35 cA (.slice vk'.1 vk'.2.1 vk'.2.2) l')
    (hat : ∀ ad, vk'.1 = some ad → (∃ ad0, vk.1 = some ad0 ∧ ad0.block = ad.block) ∨ w.heap.size ≤ ad.block) :
    TkR b { s with kept := l' } (blkL vk' ++ F) va vk' (w'.setCell ⟨b, 3, none⟩ (.slice vk'.1 vk'.2.1 vk'.2.2)) ∧ Kp F (blkL vk' ++ F) w (w'.setCell ⟨b, 3, none⟩ (.slice vk'.1 vk'.2.1 vk'.2.2)) := by
  have hb := h.blt
  have hkb : ∀ ad, vk'.1 = some ad → ad.block ≠ b := fun ad e => by
    rcases hat ad e with ⟨ad0, e0, e1⟩ | h1
    · rw [← e1]; exact (h.kF ad0 e0).2
    · omega
  have hrow : Row w' b (cT ⟨s.win, s.opn, va, vk⟩) 80 := h.row.same (hg.block b hb (fun e => by
    obtain ⟨ad, h1, h2⟩ := blk_of e.symm
    exact (h.kF ad h1).2 h2))
  have h1 : One b w' (w'.setCell ⟨b, 3, none⟩ (.slice vk'.1 vk'.2.1 vk'.2.2)) := One.set 3 _
  have hoa : Own w' 0 86 35 cA (.slice va.1 va.2.1 va.2.2) s.act := h.oa.same fun k e => by
    obtain ⟨ad, e1, rfl⟩ := blk_of e
    exact hg.block _ (h.alt e1) (fun e2 => by
      obtain ⟨ad', e3, e4⟩ := blk_of e2.symm
      exact (h.aF ad e1).2.2 ad' e3 e4)
  refine ⟨⟨hrow.set 3 _, ?_, ?_, List.mem_append_right _ h.bF, fun ad e => ⟨List.mem_append_right _ (h.aF ad e).1, (h.aF ad e).2.1, fun ad' e' => ?_⟩, fun ad e => ⟨List.mem_append_left _ (mem_blk e), hkb ad e⟩⟩, ?_⟩
  · exact hoa.same fun k e => heap_set_other w' b 3 _ k (fun e2 => by
      obtain ⟨ad, e1, e3⟩ := blk_of e
      exact (h.aF ad e1).2.1 (e3.trans e2))
  · exact ho.same fun k e => heap_set_other w' b 3 _ k (fun e2 => by
      obtain ⟨ad, e1, e3⟩ := blk_of e
      exact hkb ad e1 (e3.trans e2))
  · rcases hat ad' e' with ⟨ad0, e0, e1⟩ | h2
    · rw [← e1]; exact (h.aF ad e).2.2 ad0 e0
    · have := h.alt e; omega
  · refine ⟨hg.os, hg.tape, hg.output, by have := hg.size; simpa [World.setCell] using this, fun k hk hF => ⟨fun hm => ?_, ?_⟩⟩
    · rcases List.mem_append.1 hm with hm | hm
      · obtain ⟨ad, e, rfl⟩ := of_mem_blk hm
        rcases hat ad e with ⟨ad0, e0, e1⟩ | h2
        · exact hF (e1 ▸ (h.kF ad0 e0).1)
        · omega
      · exact hF hm
    · rw [heap_set_other w' b 3 _ k (fun e => hF (e ▸ h.bF))]
      exact hg.block k hk (fun e => by
        obtain ⟨ad, e1, e2⟩ := blk_of e.symm
        exact hF (e2 ▸ (h.kF ad e1).1))
/-- The same of the active parts. -/
theorem TkR.setA (h : TkR b s F va vk w) {va' : SlV} {l' : List Pt} (hg : w.grownBy w' (Value.slice va.1 va.2.1 va.2.2).ownBlock) (ho : Own w' 0 86 35 cA (.slice va'.1 va'.2.1 va'.2.2) l')
    (hat : ∀ ad, va'.1 = some ad → (∃ ad0, va.1 = some ad0 ∧ ad0.block = ad.block) ∨ w.heap.size ≤ ad.block) :
    TkR b { s with act := l' } (blkL va' ++ F) va' vk (w'.setCell ⟨b, 2, none⟩ (.slice va'.1 va'.2.1 va'.2.2)) ∧ Kp F (blkL va' ++ F) w (w'.setCell ⟨b, 2, none⟩ (.slice va'.1 va'.2.1 va'.2.2)) := by
  have hb := h.blt
  have hkb : ∀ ad, va'.1 = some ad → ad.block ≠ b := fun ad e => by
    rcases hat ad e with ⟨ad0, e0, e1⟩ | h1
    · rw [← e1]; exact (h.aF ad0 e0).2.1
    · omega
  have hrow : Row w' b (cT ⟨s.win, s.opn, va, vk⟩) 80 := h.row.same (hg.block b hb (fun e => by
    obtain ⟨ad, h1, h2⟩ := blk_of e.symm
    exact (h.aF ad h1).2.1 h2))
  have hok : Own w' 0 86 35 cA (.slice vk.1 vk.2.1 vk.2.2) s.kept := h.ok.same fun k e => by
    obtain ⟨ad, e1, rfl⟩ := blk_of e
    exact hg.block _ (h.klt e1) (fun e2 => by
      obtain ⟨ad', e3, e4⟩ := blk_of e2.symm
      exact (h.aF ad' e3).2.2 ad e1 e4.symm)
  refine ⟨⟨hrow.set 2 _, ?_, ?_, List.mem_append_right _ h.bF, fun ad e => ⟨List.mem_append_left _ (mem_blk e), hkb ad e, fun ad' e' => ?_⟩, fun ad e => ⟨List.mem_append_right _ (h.kF ad e).1, (h.kF ad e).2⟩⟩, ?_⟩
  · exact ho.same fun k e => heap_set_other w' b 2 _ k (fun e2 => by
      obtain ⟨ad, e1, e3⟩ := blk_of e
      exact hkb ad e1 (e3.trans e2))
  · exact hok.same fun k e => heap_set_other w' b 2 _ k (fun e2 => by
      obtain ⟨ad, e1, e3⟩ := blk_of e
      exact (h.kF ad e1).2 (e3.trans e2))
  · rcases hat ad e with ⟨ad0, e0, e1⟩ | h2
    · rw [← e1]; exact (h.aF ad0 e0).2.2 ad' e'
    · have := h.klt e'; omega
  · refine ⟨hg.os, hg.tape, hg.output, by have := hg.size; simpa [World.setCell] using this, fun k hk hF => ⟨fun hm => ?_, ?_⟩⟩
    · rcases List.mem_append.1 hm with hm | hm
      · obtain ⟨ad, e, rfl⟩ := of_mem_blk hm
        rcases hat ad e with ⟨ad0, e0, e1⟩ | h2
        · exact hF (e1 ▸ (h.aF ad0 e0).1)
        · omega
      · exact hF hm
    · rw [heap_set_other w' b 2 _ k (fun e => hF (e ▸ h.bF))]
      exact hg.block k hk (fun e => by
        obtain ⟨ad, e1, e2⟩ := blk_of e.symm
        exact hF (e2 ▸ (h.aF ad e1).1))
theorem TkR.setO (h : TkR b s F va vk w) (o : Bool) : TkR b { s with opn := o } F va vk (w.setCell ⟨b, 1, none⟩ (.bool o)) ∧ Kp F F w (w.setCell ⟨b, 1, none⟩ (.bool o)) :=
  ⟨⟨h.row.set 1 _, h.oa.same (fun k e => heap_set_other w b 1 _ k (fun e2 => by obtain ⟨ad, e1, e3⟩ := blk_of e; exact (h.aF ad e1).2.1 (e3.trans e2))), h.ok.same (fun k e => heap_set_other w b 1 _ k (fun e2 => by obtain ⟨ad, e1, e3⟩ := blk_of e; exact (h.kF ad e1).2 (e3.trans e2))), h.bF, h.aF, h.kF⟩, Kp.one (One.set 1 _) h.bF⟩
end
def Tk.new (n : Int) : Tk := ⟨n, false, [], []⟩
theorem new_tk (w : World) (n : Int) : TkAt w.heap.size (Tk.new n) [w.heap.size] (w.alloc (.cells (aT ⟨n, false, (none, 0, 0), (none, 0, 0)⟩) 80)) :=
  ⟨(none, 0, 0), (none, 0, 0), Row.new w _ _, Own.nil _ _ _ _ _, Own.nil _ _ _ _ _, List.mem_singleton.2 rfl, fun ad h => (by cases h), fun ad h => (by cases h)⟩
theorem new13_ok (n : Int) (h1 : 1 ≤ n) (h2 : n ≤ 64) (w : World) : Calls Tryz.prog 13 #[.int .i64 n] w fun e w' => e = .returned (.tuple #[.pointer (some ⟨w.heap.size, 0, none⟩), .int .i64 0]) ∧ TkAt w.heap.size (Tk.new n) [w.heap.size] w' ∧ Below w.heap.size w w' := by
  have q1 : ¬ n < 1 := by omega
  have q2 : ¬ 64 < n := by omega
  go_enter Tryz.func13, Tryz.ntmps13
  go_wp2
  go_ret2
  exact ⟨rfl, new_tk w n, below_alloc _ _⟩
theorem new13_no (n : Int) (h : n < 1 ∨ 64 < n) (w : World) : Calls Tryz.prog 13 #[.int .i64 n] w fun e w' => e = .returned (.tuple #[.pointer none, .int .i64 2]) ∧ Below w.heap.size w w' := by
  rcases h with h | h
  · go_enter Tryz.func13, Tryz.ntmps13
    go_wp2
    go_ret2
    exact ⟨rfl, Below.refl _ _⟩
  · have h2 : ¬ n < 1 := by omega
    go_enter Tryz.func13, Tryz.ntmps13
    go_wp2
    go_ret2
    exact ⟨rfl, Below.refl _ _⟩
/-- Open. -/
def openT (s : Tk) : Tk × Int := if s.opn = true then (s, 10) else ({ s with opn := true }, 0)
theorem open17 (b : Nat) (s : Tk) (F : List Nat) (w : World) (h : TkAt b s F w) : Calls Tryz.prog 17 #[.pointer (some ⟨b, 0, none⟩)] w fun e w' => e = .returned (.int .i64 (openT s).2) ∧ ∃ F', TkAt b (openT s).1 F' w' ∧ Kp F F' w w' := by
  obtain ⟨va, vk, h⟩ := h
  have c1 := h.c1
  have f1 := h.row.fz 1
  have HR := Lib.hid h
  clear h
  cases ho : s.opn with
  | true =>
    rw [ho] at c1
    have HO := Lib.hid ho
    clear ho
    have e : openT s = (s, 10) := by unfold openT; rw [if_pos HO.out]
    rw [e]
    go_enter Tryz.func17, Tryz.ntmps17
    go_wp2
    go_ret
    exact ⟨rfl, F, ⟨va, vk, HR.out⟩, Kp.refl _ _⟩
  | false =>
    rw [ho] at c1
    have HO := Lib.hid ho
    clear ho
    have e : openT s = ({ s with opn := true }, 0) := by unfold openT; rw [if_neg (by rw [HO.out]; decide)]
    rw [e]
    go_enter Tryz.func17, Tryz.ntmps17
    go_wp2
    go_ret
    exact ⟨rfl, F, ⟨va, vk, (HR.out.setO true).1⟩, (HR.out.setO true).2⟩
theorem open17_nil (w : World) : Calls Tryz.prog 17 #[.pointer none] w fun e w' => e = .returned (.int .i64 1) ∧ Below w.heap.size w w' := by
  go_enter Tryz.func17, Tryz.ntmps17
  go_wp2
  go_ret
  exact ⟨rfl, Below.refl _ _⟩
theorem isOpen21 (b : Nat) (s : Tk) (F : List Nat) (w : World) (h : TkAt b s F w) : Calls Tryz.prog 21 #[.pointer (some ⟨b, 0, none⟩)] w fun e w' => e = .returned (.bool s.opn) ∧ Below w.heap.size w w' := by
  obtain ⟨va, vk, h⟩ := h
  have c1 := h.c1
  clear h
  go_enter Tryz.func21, Tryz.ntmps21
  go_wp2
  go_ret
  exact ⟨rfl, Below.refl _ _⟩
theorem isOpen21_nil (w : World) : Calls Tryz.prog 21 #[.pointer none] w fun e w' => e = .returned (.bool false) ∧ Below w.heap.size w w' := by
  go_enter Tryz.func21, Tryz.ntmps21
  go_wp2
  go_ret
  exact ⟨rfl, Below.refl _ _⟩
end Go.Proofs.YtgojaelkdpabkaaGreatDoor
