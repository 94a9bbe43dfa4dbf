/- The methods of a nil taker. -/
import Derived.Test.YtgojaelkdpabkaaGreatDoorMAnw
namespace Go.Proofs.YtgojaelkdpabkaaGreatDoor
open Go.RowKit
theorem run_field_st (w:World) (x:Pt):(Instr.field 86 (vA x) 2).run Tryz.prog w=.ok (.int .i64 x.state) w:=by
 have h:=part_c w 3 (aA x) 33 _ _ Tryz.underlying3 rfl (aA_33 x)
 unfold Instr.field
 simp only[Sem.run_bind,run_underlying Tryz.underlying86,Result.andThen]
 exact h
theorem run_field_sz (w:World) (x:Pt):(Instr.field 86 (vA x) 1).run Tryz.prog w=.ok (.int .i64 x.size) w:=by
 have h:=part_c w 3 (aA x) 32 _ _ Tryz.underlying3 rfl (aA_32 x)
 unfold Instr.field
 simp only[Sem.run_bind,run_underlying Tryz.underlying86,Result.andThen]
 exact h
theorem ld_setRowP (a:Pt) {w:World} {b:Nat} (h:rowOk w b 35=true):(loadVar 86 ⟨b,0,none⟩).run Tryz.prog (w.setRow b (aA a))=.ok (vA a) (w.setRow b (aA a)) :=
 run_loadVar_at _ ⟨b,0,none⟩ 86 (cA a) _ (at_setRow (cA a) h) Tryz.underlying86 rfl (by rw[cA_length];exact sizePA)
theorem zero_part (w2:World) (p:Pt):∃ r5 W3,w2.heap.size=r5∧rowOk (w2.alloc (.cells (aA zA) 86)) r5 35=true∧(w2.alloc (.cells (aA zA) 86)).setRow r5 (aA p)=W3∧W3.cell? ⟨r5,33,none⟩=some (.int .i64 p.state)∧W3.cell? ⟨r5,34,none⟩=some (.string p.bytes)∧Below w2.heap.size w2 W3:=by
 have ro:rowOk (w2.alloc (.cells (aA zA) 86)) w2.heap.size 35=true:=Row.rowOk (Row.new w2 (cA zA) _) (cA_length zA)
 have hat:=at_setRow (cA p) ro
 exact⟨_,_,rfl,ro,rfl,hat.2 33 _ (cA_at (aA_33 p)),hat.2 34 _ (cA_at (aA_34 p)),Below.setRow' (below_alloc _ _) (Nat.le_refl _) (aA p)⟩
end Go.Proofs.YtgojaelkdpabkaaGreatDoor
