/- Numbers in decimal: the value of digits, and the digits of a value. Commands compared; the laws' Own. A command's line, printed and parsed: plain laws. A valid command: its canonical form; its line parses as it. A valid command's bytes, and their beginnings, decoded: plain laws. -/
import Derived.Test.YtgojaelkdpabkaaGreatDoorMMsA
import Derived.Lib.ItoaNum
import Derived.Test.YtgojaelkdpabkaaGreatDoorMEnA
import Derived.Laws.StructEq
import Derived.Test.YtgojaelkdpabkaaGreatDoorMRow
import Derived.Test.YtgojaelkdpabkaaGreatDoorMKnQ
namespace Go.Proofs.YtgojaelkdpabkaaGreatDoor
section
open Go.RowKit
deriving instance DecidableEq for Cm
section
variable {P : Program} (w : World)
theorem part_c (t:TypeId) (cs:Array Value) (i:Nat) (v:Value) (d:TypeDesc) (hu:P.underlying t=some d) (hd:(match d with|.struct _|.array _ _=>false|_=>true)=true) (hv:cs[i]? = some v):(part t cs i).run P w=.ok v w:=by
 cases d <;> first|(simp[part,isAgg,run_underlying hu,hv];done)|cases hd
theorem part_a (t e:TypeId) (cs:Array Value) (i n:Nat) (hu:P.underlying t=some (.array n e)) (hs:(P.info? t).map (·.size)=some n):(part t cs i).run P w=.ok (.agg (cs.extract i (i+n))) w:=by
 cases hq:P.info? t with
 | none=>rw[hq] at hs;cases hs
 | some x =>
  rw[hq] at hs
  have hx:x.size=n:=by simpa using hs
  simp[part,isAgg,run_underlying hu,sizeOf,typeInfo,run_program,hq,hx]
theorem eqF_nil (d:Nat) (xs ys:Array Value):(Op.eqFields d xs ys []).run P w=.ok true w:=by simp[Op.eqFields]
theorem eqF_cons {d:Nat} {xs ys:Array Value} {f:Field} {fs:List Field} {a b:Value} {r q:Bool} (hn:f.name≠"_") (h1:(part f.type xs f.offset).run P w=.ok a w) (h2:(part f.type ys f.offset).run P w=.ok b w) (h3:(Op.equalIn d f.type a b).run P w=.ok r w)
  (h4:(Op.eqFields d xs ys fs).run P w=.ok q w):(Op.eqFields d xs ys (f :: fs)).run P w=.ok (r && q) w:=by
 cases r <;> simp[Op.eqFields,hn,h1,h2,h3,h4]
end
theorem list_ext (l:List Value) (i n:Nat) (r:List Value) (h:(l.drop i).take n=r):l.toArray.extract i (i+n)=r.toArray:=by
 rw[← h]
 apply Array.ext'
 simp[List.take_drop]
theorem beqL (a b:ByteArray):(a.toList==b.toList)=decide (a=b):=by
 by_cases h:a=b
 ·subst h;simp
 ·have h2:¬ a.toList=b.toList:=fun e=>h (by
   rw[ByteArray.toList_eq,ByteArray.toList_eq] at e
   exact ByteArray.ext (Array.ext' e))
  simp[h,h2]
section
variable (w : World)
theorem eqidC (d:Nat) (a b:Id):(Op.equalIn (d+2) 30 (vI a) (vI b)).run Tryz.prog w=.ok (decide (a=b)) w:=by
 obtain⟨i,h1,h2⟩:=info5
 unfold vI cI
 rw[run_equalIn_bytes w d 32 30 5 i a.1 b.1 Tryz.underlying30 Tryz.underlying5 h1 h2 a.2 b.2]
 simp[Subtype.ext_iff]
theorem idpartC (l:List Value) (i:Nat) (x:Id) (h:(l.drop i).take 32=cI x):(part 30 l.toArray i).run Tryz.prog w=.ok (vI x) w:=by
 rw[part_a w 30 5 _ i 32 Tryz.underlying30 size30,list_ext l i 32 _ h]
 rfl
theorem eqsC (a b:Cm):(Op.eqFields 9999 (cC a).toArray (cC b).toArray (Tryz.prog.fieldsOf 32).toList).run Tryz.prog w=.ok (decide (a=b)) w:=by
 simp only[Program.fieldsOf,Tryz.underlying32]
 refine Eq.trans (eqF_cons w (by decide) (part_c w 3 _ 0 _ _ Tryz.underlying3 rfl (aC_0 a)) (part_c w 3 _ 0 _ _ Tryz.underlying3 rfl (aC_0 b)) (run_equalIn_int w 9998 3 .i64 .i64 _ _ Tryz.underlying3) (eqF_cons w (by decide) (part_c w 9 _ 1 _ _ Tryz.underlying9 rfl (aC_1 a)) (part_c w 9 _ 1 _ _ Tryz.underlying9 rfl (aC_1 b)) (run_equalIn_string w 9998 9 _ _ Tryz.underlying9) (eqF_cons w (by decide) (idpartC w _ 2 a.id (cC_id a)) (idpartC w _ 2 b.id (cC_id b)) (eqidC w 9997 _ _) (eqF_cons w (by decide) (part_c w 3 _ 34 _ _ Tryz.underlying3 rfl (aC_34 a)) (part_c w 3 _ 34 _ _ Tryz.underlying3 rfl (aC_34 b)) (run_equalIn_int w 9998 3 .i64 .i64 _ _ Tryz.underlying3) (eqF_cons w (by decide) (part_c w 3 _ 35 _ _ Tryz.underlying3 rfl (aC_35 a)) (part_c w 3 _ 35 _ _ Tryz.underlying3 rfl (aC_35 b)) (run_equalIn_int w 9998 3 .i64 .i64 _ _ Tryz.underlying3) (eqF_cons w (by decide) (part_c w 3 _ 36 _ _ Tryz.underlying3 rfl (aC_36 a)) (part_c w 3 _ 36 _ _ Tryz.underlying3 rfl (aC_36 b)) (run_equalIn_int w 9998 3 .i64 .i64 _ _ Tryz.underlying3) (eqF_cons w (by decide) (part_c w 26 _ 37 _ _ Tryz.underlying26 rfl (aC_37 a)) (part_c w 26 _ 37 _ _ Tryz.underlying26 rfl (aC_37 b)) (run_equalIn_int w 9998 26 .i64 .i64 _ _ Tryz.underlying26) (eqF_cons w (by decide) (part_c w 9 _ 38 _ _ Tryz.underlying9 rfl (aC_38 a)) (part_c w 9 _ 38 _ _ Tryz.underlying9 rfl (aC_38 b)) (run_equalIn_string w 9998 9 _ _ Tryz.underlying9) (eqF_nil w 9999 _ _))))))))) ?_
 congr 1
 rw[Bool.eq_iff_iff]
 simp only[Bool.and_eq_true,beq_iff_eq,decide_eq_true_eq,beqL,and_true]
 cases a;cases b;simp[Cm.mk.injEq]
theorem prelC:Tryz.prog.underlying 32=some (.struct (Tryz.prog.fieldsOf 32)):=by rw[Program.fieldsOf,Tryz.underlying32]
theorem heldC:Tryz.prog.stoodInHeld 32=false:=by kernel_rfl
theorem guardC:Tryz.prog.eqGuardType Tryz.prog.depth 32=false:=by kernel_rfl
@[go_sem] theorem eqGuardC (op:BinOp) (x y:Operand) (a b:Cm):(eqGuard op 32 x y (vC a) (vC b)).run Tryz.prog w=.ok () w:=run_eqGuard_agg w op 32 x y _ _ guardC
@[go_sem] theorem eqlC (a b:Cm):(binOp .eql 32 (vC a) (vC b)).run Tryz.prog w=.ok (.bool (decide (a=b))) w:=by
 unfold vC
 rw[run_eql_struct,run_equalIn_struct w 9999 32 _ _ prelC heldC,eqsC]
 rfl
@[go_sem] theorem neqC (a b:Cm):(binOp .neq 32 (vC a) (vC b)).run Tryz.prog w=.ok (.bool (!decide (a=b))) w:=by
 unfold vC
 rw[run_neq_struct,run_equalIn_struct w 9999 32 _ _ prelC heldC,eqsC]
 rfl
theorem eqidR (d:Nat) (a b:Id):(Op.equalIn (d+2) 29 (vI a) (vI b)).run Tryz.prog w=.ok (decide (a=b)) w:=by
 obtain⟨i,h1,h2⟩:=info5
 unfold vI cI
 rw[run_equalIn_bytes w d 32 29 5 i a.1 b.1 Tryz.underlying29 Tryz.underlying5 h1 h2 a.2 b.2]
 simp[Subtype.ext_iff]
theorem idpartR (l:List Value) (i:Nat) (x:Id) (h:(l.drop i).take 32=cI x):(part 29 l.toArray i).run Tryz.prog w=.ok (vI x) w:=by
 rw[part_a w 29 5 _ i 32 Tryz.underlying29 size29,list_ext l i 32 _ h]
 rfl
theorem eqsR (a b:Cm):(Op.eqFields 9999 (cC a).toArray (cC b).toArray (Tryz.prog.fieldsOf 35).toList).run Tryz.prog w=.ok (decide (a=b)) w:=by
 simp only[Program.fieldsOf,Tryz.underlying35]
 refine Eq.trans (eqF_cons w (by decide) (part_c w 3 _ 0 _ _ Tryz.underlying3 rfl (aC_0 a)) (part_c w 3 _ 0 _ _ Tryz.underlying3 rfl (aC_0 b)) (run_equalIn_int w 9998 3 .i64 .i64 _ _ Tryz.underlying3) (eqF_cons w (by decide) (part_c w 9 _ 1 _ _ Tryz.underlying9 rfl (aC_1 a)) (part_c w 9 _ 1 _ _ Tryz.underlying9 rfl (aC_1 b)) (run_equalIn_string w 9998 9 _ _ Tryz.underlying9) (eqF_cons w (by decide) (idpartR w _ 2 a.id (cC_id a)) (idpartR w _ 2 b.id (cC_id b)) (eqidR w 9997 _ _) (eqF_cons w (by decide) (part_c w 3 _ 34 _ _ Tryz.underlying3 rfl (aC_34 a)) (part_c w 3 _ 34 _ _ Tryz.underlying3 rfl (aC_34 b)) (run_equalIn_int w 9998 3 .i64 .i64 _ _ Tryz.underlying3) (eqF_cons w (by decide) (part_c w 3 _ 35 _ _ Tryz.underlying3 rfl (aC_35 a)) (part_c w 3 _ 35 _ _ Tryz.underlying3 rfl (aC_35 b)) (run_equalIn_int w 9998 3 .i64 .i64 _ _ Tryz.underlying3) (eqF_cons w (by decide) (part_c w 3 _ 36 _ _ Tryz.underlying3 rfl (aC_36 a)) (part_c w 3 _ 36 _ _ Tryz.underlying3 rfl (aC_36 b)) (run_equalIn_int w 9998 3 .i64 .i64 _ _ Tryz.underlying3) (eqF_cons w (by decide) (part_c w 3 _ 37 _ _ Tryz.underlying3 rfl (aC_37 a)) (part_c w 3 _ 37 _ _ Tryz.underlying3 rfl (aC_37 b)) (run_equalIn_int w 9998 3 .i64 .i64 _ _ Tryz.underlying3) (eqF_cons w (by decide) (part_c w 9 _ 38 _ _ Tryz.underlying9 rfl (aC_38 a)) (part_c w 9 _ 38 _ _ Tryz.underlying9 rfl (aC_38 b)) (run_equalIn_string w 9998 9 _ _ Tryz.underlying9) (eqF_nil w 9999 _ _))))))))) ?_
 congr 1
 rw[Bool.eq_iff_iff]
 simp only[Bool.and_eq_true,beq_iff_eq,decide_eq_true_eq,beqL,and_true]
 cases a;cases b;simp[Cm.mk.injEq]
theorem prelR:Tryz.prog.underlying 35=some (.struct (Tryz.prog.fieldsOf 35)):=by rw[Program.fieldsOf,Tryz.underlying35]
theorem heldR:Tryz.prog.stoodInHeld 35=false:=by kernel_rfl
theorem guardR:Tryz.prog.eqGuardType Tryz.prog.depth 35=false:=by kernel_rfl
@[go_sem] theorem eqGuardR (op:BinOp) (x y:Operand) (a b:Cm):(eqGuard op 35 x y (vC a) (vC b)).run Tryz.prog w=.ok () w:=run_eqGuard_agg w op 35 x y _ _ guardR
@[go_sem] theorem eqlR (a b:Cm):(binOp .eql 35 (vC a) (vC b)).run Tryz.prog w=.ok (.bool (decide (a=b))) w:=by
 unfold vC
 rw[run_eql_struct,run_equalIn_struct w 9999 35 _ _ prelR heldR,eqsR]
 rfl
@[go_sem] theorem neqR (a b:Cm):(binOp .neq 35 (vC a) (vC b)).run Tryz.prog w=.ok (.bool (!decide (a=b))) w:=by
 unfold vC
 rw[run_neq_struct,run_equalIn_struct w 9999 35 _ _ prelR heldR,eqsR]
 rfl
end
theorem Row.rowOk' {w:World} {b n:Nat} {cs:List Value} {t:TypeId} (h:Row w b cs t) (hn:cs.length=n):Go.Proofs.YtgojaelkdpabkaaGreatDoor.rowOk w b n=true:=by
 unfold Row at h
 unfold Go.Proofs.YtgojaelkdpabkaaGreatDoor.rowOk
 rw[h]
 simpa using hn
theorem ld_row (c:Cm) {w:World} {b:Nat} (h:Row w b (cC c) 32):(loadVar 32 ⟨b,0,none⟩).run Tryz.prog w=.ok (vC c) w :=
 run_loadVar_at _ ⟨b,0,none⟩ 32 (cC c) _ (h.at_ (k:=0) (n:=39) (by rw[List.drop_zero,List.take_of_length_le (by rw[cC_length];exact Nat.le_refl _)])) Tryz.underlying32 rfl (by rw[cC_length];exact size32)
set_option maxRecDepth 100000 in
set_option maxHeartbeats 1600000 in
theorem own14 (c:Cm) (w:World):Calls Tryz.prog 14 #[vC c] w fun e w'=>e=.returned (vC c)∧Below w.heap.size w w':=by
 obtain⟨b,hb⟩:∃ b,w.heap.size=b:=⟨_,rfl⟩
 have HR1:=Lib.hid (show Row (w.alloc (.cells (aC c) 35)) b (cC c) 35 by rw[← hb];exact Row.new w (cC c) 35)
 have h2:=HR1.out.keep (below_alloc _ (.cells (aC zC) 32))
 have HB:=Lib.hid (Below.step (below_alloc w (.cells (aC c) 35)) (below_alloc _ (.cells (aC zC) 32)))
 have k0:((w.alloc (.cells (aC c) 35)).alloc (.cells (aC zC) 32)).cell? ⟨b,0,none⟩=some (.int .i64 c.verb):=h2.cell 0
 go_enter Tryz.func14,Tryz.ntmps14
 have hr4:Row ((w.alloc (.cells (aC c) 35)).alloc (.cells (aC c) 32)) (b+1) (cC c) 32:=by
  have h:=Row.new (w.alloc (.cells (aC c) 35)) (cC c) 32
  rwa[show (w.alloc (.cells (aC c) 35)).heap.size=b+1 by rw[← hb];simp] at h
 have HB2:=Lib.hid (Below.step (below_alloc w (.cells (aC c) 35)) (below_alloc _ (.cells (aC c) 32)))
 have H4:=Lib.hid hr4
 clear hr4 h2
 go_wp2
 exact bodyPost_ret (v:=vC c) (results_c1 (ad:=⟨b+1,0,none⟩) rfl rfl (ld_row c H4.out)) rfl ⟨rfl,HB2.out⟩
end
section
open Go.RowKit
def flagsL:List Int:=[17,6,10,2,34,74,64,0]
def useB (fl a:Int) (b:Bool):Bool:=!b || (bits BinOp.and .i64 fl a != 0)
theorem all_bool (p:Bool→Bool) (h:[true,false].all p=true) (b:Bool):p b=true:=by
 simp only[List.all_cons,List.all_nil,Bool.and_true,Bool.and_eq_true] at h
 cases b
 ·exact h.2
 ·exact h.1
theorem empty_of (s:ByteArray) (h:s.toList.isEmpty=true):s=⟨#[]⟩:=by
 rw[isE,decide_eq_true_eq] at h
 exact bl_inj (List.length_eq_zero_iff.1 (by rw[bl_length];exact h))
end
end Go.Proofs.YtgojaelkdpabkaaGreatDoor
