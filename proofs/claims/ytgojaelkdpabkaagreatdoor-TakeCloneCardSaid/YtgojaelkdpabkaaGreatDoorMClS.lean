/- Taker's Clone, and Equal of takers that say the same. -/
import Derived.Test.YtgojaelkdpabkaaGreatDoorMRun
import Derived.BigQuiet
namespace Go.Proofs.YtgojaelkdpabkaaGreatDoor
open Go.RowKit
instance instDecPt:DecidableEq Pt:=fun a b=>decidable_of_iff (a.id=b.id∧a.size=b.size∧a.state=b.state∧a.bytes=b.bytes) (by cases a;cases b;simp[Pt.mk.injEq])
theorem eql_nil34 {P:Program} (w:World) (t e:TypeId) (a:Option Addr) (n c:Nat) (h:P.underlying t=some (.slice e)):(binOp .eql t (.slice a n c) (.slice none 0 0)).run P w=.ok (.bool a.isNone) w:=by
 simp only[binOp]
 simp[Op.equal,Op.maxDepth,Lib.run_equalIn_slice_nil w 9999 t e a n c 0 0 h]
@[go_sem] theorem eqlPA_nil (w:World) (a:Option Addr) (n c:Nat):(binOp .eql 78 (.slice a n c) (.slice none 0 0)).run Tryz.prog w=.ok (.bool a.isNone) w:=eql_nil34 w 78 86 a n c underPAs
section
variable (w : World)
theorem eqsEPA (a b:Pt):(Op.eqFields 9999 (cA a).toArray (cA b).toArray (Tryz.prog.fieldsOf 86).toList).run Tryz.prog w=.ok (decide (a=b)) w:=by
 simp only[Program.fieldsOf,Tryz.underlying86]
 refine Eq.trans (eqF_cons w (by decide) (idpartC w _ 0 a.id (cA_id a)) (idpartC w _ 0 b.id (cA_id b)) (eqidC w 9997 _ _) (eqF_cons w (by decide) (part_c w 3 _ 32 _ _ Tryz.underlying3 rfl (aA_32 a)) (part_c w 3 _ 32 _ _ Tryz.underlying3 rfl (aA_32 b)) (run_equalIn_int w 9998 3 .i64 .i64 _ _ Tryz.underlying3) (eqF_cons w (by decide) (part_c w 3 _ 33 _ _ Tryz.underlying3 rfl (aA_33 a)) (part_c w 3 _ 33 _ _ Tryz.underlying3 rfl (aA_33 b)) (run_equalIn_int w 9998 3 .i64 .i64 _ _ Tryz.underlying3) (eqF_cons w (by decide) (part_c w 9 _ 34 _ _ Tryz.underlying9 rfl (aA_34 a)) (part_c w 9 _ 34 _ _ Tryz.underlying9 rfl (aA_34 b)) (run_equalIn_string w 9998 9 _ _ Tryz.underlying9) (eqF_nil w 9999 _ _))))) ?_
 congr 1
 rw[Bool.eq_iff_iff]
 simp only[Bool.and_eq_true,beq_iff_eq,decide_eq_true_eq,beqL,and_true]
 cases a;cases b;simp[Pt.mk.injEq]
theorem prelEPA:Tryz.prog.underlying 86=some (.struct (Tryz.prog.fieldsOf 86)):=by rw[Program.fieldsOf,Tryz.underlying86]
theorem heldEPA:Tryz.prog.stoodInHeld 86=false:=by kernel_rfl
theorem guardEPA:Tryz.prog.eqGuardType Tryz.prog.depth 86=false:=by kernel_rfl
@[go_sem] theorem eqGuardEPA (op:BinOp) (x y:Operand) (a b:Pt):(eqGuard op 86 x y (vA a) (vA b)).run Tryz.prog w=.ok () w:=run_eqGuard_agg w op 86 x y _ _ guardEPA
@[go_sem] theorem neqEPA (a b:Pt):(binOp .neq 86 (vA a) (vA b)).run Tryz.prog w=.ok (.bool (!decide (a=b))) w:=by
 unfold vA
 rw[run_neq_struct,run_equalIn_struct w 9999 86 _ _ prelEPA heldEPA,eqsEPA]
 rfl
theorem eqsERA (a b:Pt):(Op.eqFields 9999 (cA a).toArray (cA b).toArray (Tryz.prog.fieldsOf 98).toList).run Tryz.prog w=.ok (decide (a=b)) w:=by
 simp only[Program.fieldsOf,Tryz.underlying98]
 refine Eq.trans (eqF_cons w (by decide) (idpartR w _ 0 a.id (cA_id a)) (idpartR w _ 0 b.id (cA_id b)) (eqidR w 9997 _ _) (eqF_cons w (by decide) (part_c w 3 _ 32 _ _ Tryz.underlying3 rfl (aA_32 a)) (part_c w 3 _ 32 _ _ Tryz.underlying3 rfl (aA_32 b)) (run_equalIn_int w 9998 3 .i64 .i64 _ _ Tryz.underlying3) (eqF_cons w (by decide) (part_c w 3 _ 33 _ _ Tryz.underlying3 rfl (aA_33 a)) (part_c w 3 _ 33 _ _ Tryz.underlying3 rfl (aA_33 b)) (run_equalIn_int w 9998 3 .i64 .i64 _ _ Tryz.underlying3) (eqF_cons w (by decide) (part_c w 9 _ 34 _ _ Tryz.underlying9 rfl (aA_34 a)) (part_c w 9 _ 34 _ _ Tryz.underlying9 rfl (aA_34 b)) (run_equalIn_string w 9998 9 _ _ Tryz.underlying9) (eqF_nil w 9999 _ _))))) ?_
 congr 1
 rw[Bool.eq_iff_iff]
 simp only[Bool.and_eq_true,beq_iff_eq,decide_eq_true_eq,beqL,and_true]
 cases a;cases b;simp[Pt.mk.injEq]
theorem prelERA:Tryz.prog.underlying 98=some (.struct (Tryz.prog.fieldsOf 98)):=by rw[Program.fieldsOf,Tryz.underlying98]
theorem heldERA:Tryz.prog.stoodInHeld 98=false:=by kernel_rfl
theorem guardERA:Tryz.prog.eqGuardType Tryz.prog.depth 98=false:=by kernel_rfl
@[go_sem] theorem eqGuardERA (op:BinOp) (x y:Operand) (a b:Pt):(eqGuard op 98 x y (vA a) (vA b)).run Tryz.prog w=.ok () w:=run_eqGuard_agg w op 98 x y _ _ guardERA
@[go_sem] theorem neqERA (a b:Pt):(binOp .neq 98 (vA a) (vA b)).run Tryz.prog w=.ok (.bool (!decide (a=b))) w:=by
 unfold vA
 rw[run_neq_struct,run_equalIn_struct w 9999 98 _ _ prelERA heldERA,eqsERA]
 rfl
end
section
set_option maxRecDepth 100000
set_option maxHeartbeats 1600000
theorem equal48 (A B:Option Addr) (n m c d:Nat) (xs ys:List Pt) (w:World) (hx:xs.length=n) (hy:ys.length=m) (sx:Sl w cA A xs) (sy:Sl w cA B ys) (hn:n≤100000):Calls Tryz.prog 48 #[.slice A n c,.slice B m d] w fun e w'=>e=.returned (.bool (decide (xs=ys)))∧Below w.heap.size w w':=by
 have HX:=Lib.hid (And.intro hx (And.intro hy (And.intro sx (And.intro sy hn))))
 clear sx sy hx hy
 by_cases hnm:n=m
 case neg =>
  have hne:¬ ((n:Int)=(m:Int)):=by omega
  have hd:decide (xs=ys)=false:=decide_eq_false fun e=>hnm (by rw[← HX.out.1,← HX.out.2.1,e])
  rw[hd]
  go_enter Tryz.func48,Tryz.ntmps48
  go_wp2
  go_ret
  exact⟨rfl,Below.refl _ _⟩
 subst hnm
 obtain⟨q,hq⟩:∃ q,decide (xs=ys)=q:=⟨_,rfl⟩
 rw[hq]
 have HQ:=Lib.hid hq
 clear hq
 go_enter Tryz.func48,Tryz.ntmps48
 go_wp2
 go_loopw [13] (fun i wr=>∃ (k:Nat),k≤n∧i=.int .i64 (k:Int)∧Below w.heap.size w wr∧xs.take k=ys.take k) (fun i _=>n - (intOf i).toNat)
 case atStart=>exact⟨0,Nat.zero_le _,rfl,Below.refl _ _,rfl⟩
 case round =>
  obtain⟨k,hk,rfl,hb,ht⟩:=hrel
  have HT:=Lib.hid (And.intro hb ht)
  clear ht
  by_cases hlt:k<n
  ·have hlk:(k:Int)<(n:Int):=by omega
   have hl1:k<xs.length:=by rw[HX.out.1];exact hlt
   have hl2:k<ys.length:=by rw[HX.out.2.1];exact hlt
   obtain⟨ad1,rfl,o1,d1, -⟩:=Sl.pt (HX.out.2.2.1.keep hb) hl1
   obtain⟨ad2,rfl,o2,d2, -⟩:=Sl.pt (HX.out.2.2.2.1.keep hb) hl2
   have HS:=Lib.hid (And.intro (List.take_succ_eq_append_getElem hl1) (List.take_succ_eq_append_getElem hl2))
   generalize (xs[k]'hl1)=x at d1 HS
   generalize (ys[k]'hl2)=y at d2 HS
   clear hb
   by_cases hxy:x=y
   ·subst hxy
    go_wp2
    go_quiet (fail)
    go_wp2
    go_roundw
    case rel=>exact⟨k+1,hlt,by go_num,Below.step HT.out.1 (below_drewN _ _),by rw[HS.out.1,HS.out.2,HT.out.2]⟩
    case measure=>simp[intOf] <;> omega
   ·have hqf:q=false:=by
     rw[← HQ.out]
     refine decide_eq_false fun e=>hxy ?_
     have h1:=HS.out.1
     have h2:=HS.out.2
     rw[e] at h1
     have h3:=h1.symm.trans h2
     simpa using h3
    subst hqf
    have hxy2:(!decide (x=y))=true:=by simp[hxy]
    go_wp2
    go_quiet (fail)
    go_wp2
    go_ret
    exact⟨rfl,Below.step HT.out.1 (below_drewN _ _)⟩
  ·have hkn:k=n:=by omega
   subst hkn
   have hqt:q=true:=by
    rw[← HQ.out]
    refine decide_eq_true ?_
    have h:=HT.out.2
    rwa[List.take_of_length_le (by rw[HX.out.1];exact Nat.le_refl _),List.take_of_length_le (by rw[HX.out.2.1];exact Nat.le_refl _)] at h
   subst hqt
   clear hb
   go_wp2
   go_ret
   exact⟨rfl,HT.out.1⟩
theorem clone47 (A:Option Addr) (n c:Nat) (xs:List Pt) (w:World) (hx:xs.length=n) (sx:Sl w cA A xs) (hn:n≤100000):Calls Tryz.prog 47 #[.slice A n c] w fun e w'=>∃ A' c',e=.returned (.slice A' n c')∧Own w' w.heap.size 86 35 cA (.slice A' n c') xs∧Below w.heap.size w w':=by
 cases A with
 | none =>
  have he:xs=[]:=by
   cases xs with
   | nil=>rfl
   | cons a r =>
    obtain⟨ad,h,_⟩:=sx (by simp)
    cases h
  subst he
  obtain rfl:n=0:=hx.symm
  go_enter Tryz.func47,Tryz.ntmps47
  go_wp2
  go_ret
  exact⟨none,0,rfl,Own.nil _ _ _ _ _,Below.refl _ _⟩
 | some ad =>
  have HX:=Lib.hid (And.intro hx (And.intro sx hn))
  clear hx sx
  have hnew:=Own.new0 (α:=Pt) w w.heap.size 86 35 cA cA_length (Nat.le_refl _)
  have HL:=Lib.hid hnew
  clear hnew
  go_enter Tryz.func47,Tryz.ntmps47
  go_wp2_with (at_builtin;refine wpList_append_sl _ rfl (.tmp 5) (.tmp 6) 78 rfl w.heap.size 86 35 64 cA underPAs rowPA (by decide) cA_length cA_one (.slice (some ⟨w.heap.size,0,none⟩) 0 0) [] rfl HL.out (some ad) n c xs HX.out.1 rfl (HX.out.2.1.keep (below_alloc w _)) (by have:=HX.out.2.2;simp;omega) (by have:=HX.out.2.2;simp;omega) (below_alloc w _).size ?_)
  intro v2 w2 ho2 hg
  have hb2:=Own.grew HL.out hg (below_alloc w _) (Nat.le_refl _) (below_alloc w _).size
  have ho3:Own w2 w.heap.size 86 35 cA v2 xs:=by simpa using ho2
  obtain⟨A2,c2,rfl,_,_⟩:=ho3.sl
  rw[HX.out.1] at ho3 ⊢
  have HO:=Lib.hid (And.intro ho3 hb2)
  clear ho2 ho3 hg hb2
  go_wp2
  go_ret
  exact⟨A2,c2,rfl,HO.out.1,HO.out.2⟩
end
def isOwnS {α:Type} (B:Nat) (e:TypeId) (s:Nat) (enc:α→List Value) (n:Nat) (xs:List α):Value→World→Prop:=fun v w=>∃ A c,v=.slice A n c∧Own w B e s enc (.slice A n c) xs
theorem Mono.ownS {α:Type} (B:Nat) (e:TypeId) (s:Nat) (enc:α→List Value) (n:Nat) (xs:List α):Mono (isOwnS B e s enc n xs):=fun _ _ _ hb ⟨A,c,h1,h2⟩=>⟨A,c,h1,Own.keep h2 hb⟩
theorem clone_at {w w4 w9:World} {k:Nat} {s:Tk} {va vk:SlV} {A B:Option Addr} {ca cb:Nat} (hk:Row w9 k (cT ⟨s.win,s.opn,va,vk⟩) 80) (hk4:k<w4.heap.size) (hwk:w.heap.size≤k) (ha:Own w9 (k+1) 86 35 cA (.slice A s.act.length ca) s.act) (hal:∀ ad,A=some ad→ad.block<w4.heap.size) (hb:Own w9 w4.heap.size 86 35 cA (.slice B s.kept.length cb) s.kept) (hbw:Below w.heap.size w w9) :
  w9.frozen? ⟨k,2,none⟩=false∧w9.cell? ⟨k,2,none⟩=some (.slice va.1 va.2.1 va.2.2)∧(w9.setCell ⟨k,2,none⟩ (.slice A s.act.length ca)).frozen? ⟨k,3,none⟩=false∧(w9.setCell ⟨k,2,none⟩ (.slice A s.act.length ca)).cell? ⟨k,3,none⟩=some (.slice vk.1 vk.2.1 vk.2.2)∧∃ F2,TkAt k s F2 ((w9.setCell ⟨k,2,none⟩ (.slice A s.act.length ca)).setCell ⟨k,3,none⟩ (.slice B s.kept.length cb))∧(∀ j∈F2,w.heap.size≤j∧j<((w9.setCell ⟨k,2,none⟩ (.slice A s.act.length ca)).setCell ⟨k,3,none⟩ (.slice B s.kept.length cb)).heap.size)∧Below w.heap.size w ((w9.setCell ⟨k,2,none⟩ (.slice A s.act.length ca)).setCell ⟨k,3,none⟩ (.slice B s.kept.length cb)):=by
 have o1:One k w9 (w9.setCell ⟨k,2,none⟩ (.slice A s.act.length ca)):=One.set 2 _
 have r1:Row (w9.setCell ⟨k,2,none⟩ (.slice A s.act.length ca)) k (cT ⟨s.win,s.opn,(A,s.act.length,ca),vk⟩) 80:=hk.set 2 _
 have o2:One k (w9.setCell ⟨k,2,none⟩ (.slice A s.act.length ca)) ((w9.setCell ⟨k,2,none⟩ (.slice A s.act.length ca)).setCell ⟨k,3,none⟩ (.slice B s.kept.length cb)):=One.set 3 _
 have r2:Row ((w9.setCell ⟨k,2,none⟩ (.slice A s.act.length ca)).setCell ⟨k,3,none⟩ (.slice B s.kept.length cb)) k (cT ⟨s.win,s.opn,(A,s.act.length,ca),(B,s.kept.length,cb)⟩) 80:=r1.set 3 _
 have o:=o1.trans o2
 have h1:∀ ad,A=some ad→k<ad.block∧ad.block<w9.heap.size∧ad.block<w4.heap.size:=fun ad e=>by
  have:=Own.lt ha ad.block (by rw[e];rfl)
  exact⟨by omega,this.2,hal ad e⟩
 have h2:∀ ad,B=some ad→w4.heap.size≤ad.block∧ad.block<w9.heap.size:=fun ad e=>Own.lt hb ad.block (by rw[e];rfl)
 refine⟨hk.fz 2,hk.cell 2,r1.fz 3,r1.cell 3,k :: (blkL (A,s.act.length,ca)++blkL (B,s.kept.length,cb)),⟨(A,s.act.length,ca),(B,s.kept.length,cb),r2,?_,?_,List.mem_cons_self,fun ad e=>⟨List.mem_cons_of_mem _ (List.mem_append_left _ (mem_blk e)),?_,fun ad' e'=>?_⟩,fun ad e=>⟨List.mem_cons_of_mem _ (List.mem_append_right _ (mem_blk e)),?_⟩⟩,fun j hj=>?_,?_⟩
 ·refine (ha.mono (Nat.zero_le _)).same fun j e=>?_
  obtain⟨ad,e1,rfl⟩:=blk_of (v:=(A,s.act.length,ca)) e
  exact o.out _ (h1 ad e1).2.1 (by have:=(h1 ad e1).1;omega)
 ·refine (hb.mono (Nat.zero_le _)).same fun j e=>?_
  obtain⟨ad,e1,rfl⟩:=blk_of (v:=(B,s.kept.length,cb)) e
  exact o.out _ (h2 ad e1).2 (by have:=(h2 ad e1).1;omega)
 ·have:=(h1 ad e).1;omega
 ·have:=(h1 ad e).2.2;have:=(h2 ad' e').1;omega
 ·have:=(h2 ad e).1;omega
 ·have hsz:=o.size
  have hkl:=hk.lt
  rcases List.mem_cons.1 hj with rfl|hj
  ·exact⟨hwk,by omega⟩
  ·rcases List.mem_append.1 hj with hj|hj
   ·obtain⟨ad,e,rfl⟩:=of_mem_blk hj
    have:=h1 ad e
    exact⟨by omega,by omega⟩
   ·obtain⟨ad,e,rfl⟩:=of_mem_blk hj
    have:=h2 ad e
    exact⟨by omega,by omega⟩
 ·exact Below.trans hbw (o.below hwk hbw.size)

set_option maxRecDepth 100000 in
set_option maxHeartbeats 1600000 in
theorem clone27 (b:Nat) (s:Tk) (F:List Nat) (w:World) (h:TkAt b s F w) (ha:s.act.length≤100) (hk:s.kept.length≤100):Calls Tryz.prog 27 #[.pointer (some ⟨b,0,none⟩)] w fun e w'=>∃ k F2,e=.returned (.pointer (some ⟨k,0,none⟩))∧TkAt k s F2 w'∧(∀ j∈F2,w.heap.size≤j∧j<w'.heap.size)∧Below w.heap.size w w':=by
 obtain⟨va,vk,h⟩:=h
 obtain⟨k,W1,W2,hk0,hW1,rok,hW2,hrow,hb, -⟩:=row_made (ds:=cT ⟨s.win,s.opn,va,vk⟩) (t:=80) w (cT_length zT)
 rw[show w.alloc (.cells (cT zT).toArray 80)=w.alloc (.cells (aT zT) 80) from rfl] at hW1
 rw[show W1.setRow k (cT ⟨s.win,s.opn,va,vk⟩).toArray=W1.setRow k (aT ⟨s.win,s.opn,va,vk⟩) from rfl] at hW2
 have lk:=Row.okw h.row (cT_length _)
 have rr1:=lk.1
 have rr2:rdA w ⟨b,0,none⟩ 4=vT ⟨s.win,s.opn,va,vk⟩:=lk.2
 obtain⟨na,hna⟩:∃ na,s.act.length=na:=⟨_,rfl⟩
 obtain⟨nk,hnk⟩:∃ nk,s.kept.length=nk:=⟨_,rfl⟩
 have HN:=Lib.hid (And.intro (h.la.trans hna) (And.intro (h.lk.trans hnk) (And.intro hna (And.intro hnk (And.intro (show na≤100 by omega) (show nk≤100 by omega))))))
 have HT:=Lib.hid (And.intro h trivial)
 have HB2:=Lib.hid (And.intro hrow hb)
 have HK0:=Lib.hid (show w.heap.size≤k by omega)
 obtain⟨rv,hrv⟩:∃ rv:Rt,(⟨s.win,s.opn,va,vk⟩:Rt)=rv:=⟨_,rfl⟩
 rw[hrv] at rr2 hW2
 clear h hrow hb lk hna hnk ha hk hrv
 go_enter Tryz.func27,Tryz.ntmps27
 go_wp2
 refine AnyO.wp_any_tail 9 (by kernel_rfl) (by kernel_rfl) (by kernel_rfl) (by kernel_rfl) (by kernel_rfl) (by kernel_rfl) (pstP [isV (.pointer (some ⟨b,0,none⟩)),isV (.pointer (some ⟨b,0,none⟩)),isV (.pointer (some ⟨b,2,none⟩)),isV (.slice va.1 na va.2.2),isOwnS (k+1) 86 35 cA na s.act,isV (.pointer (some ⟨b,0,none⟩)),isV (.pointer (some ⟨b,0,none⟩)),isV (.pointer (some ⟨b,3,none⟩)),isV (.slice vk.1 nk vk.2.2)]) (MonoL.cons (Mono.v _) (MonoL.cons (Mono.v _) (MonoL.cons (Mono.v _) (MonoL.cons (Mono.v _) (MonoL.cons (Mono.ownS _ _ _ _ _ _) (MonoL.cons (Mono.v _) (MonoL.cons (Mono.v _) (MonoL.cons (Mono.v _) (MonoL.cons (Mono.v _) MonoL.nil))))))))) ?_ ?_
 ·intro i hi
  have hi2:i=4∨i=0∨i=1∨i=2∨i=3∨i=5∨i=6∨i=7∨i=8:=by omega
  clear hi
  rcases hi2 with rfl|rfl|rfl|rfl|rfl|rfl|rfl|rfl|rfl
  ·refine AnyO.S rfl [3] ?_;intro vs u hE hp ac hb K hK
   have s12:_=_:=AnyO.sw 12 3 hb hp
   go_simp
   go_at_call 47
   refine (clone47 va.1 na va.2.2 s.act u HN.out.2.2.1 (HT.out.1.keep (Below.step HB2.out.2 (Below.step (below_drew _) hE))).oa.slOf (by have:=HN.out.2.2.2.2.1;omega)).mono ?_
   rintro e w2 ⟨A',c',rfl,ho',hb'⟩
   exact hK _ _ hb' ⟨A',c',rfl,ho'.mono (Nat.le_trans HB2.out.1.lt hE.size)⟩
  all_goals
   refine AnyO.T rfl ?_;intro vs u hE hp ac hb K hK
   try have s0:ac.tmps[0]?.getD undef=.pointer (some ⟨b,0,none⟩):=by rw[hb.out];kernel_rfl
   try have s9:_=_:=AnyO.sw 9 0 hb hp
   try have s10:_=_:=AnyO.sw 10 1 hb hp
   try have s11:_=_:=AnyO.sw 11 2 hb hp
   try have s14:_=_:=AnyO.sw 14 5 hb hp
   try have s15:_=_:=AnyO.sw 15 6 hb hp
   try have s16:_=_:=AnyO.sw 16 7 hb hp
   have rr_0:=(HT.out.1.keep (Below.step HB2.out.2 (Below.step (below_drew _) hE))).c2
   rw[HN.out.1] at rr_0
   have rr_1:=(HT.out.1.keep (Below.step HB2.out.2 (Below.step (below_drew _) hE))).c3
   rw[HN.out.2.1] at rr_1
   go_simp
   exact hK _ _ (Below.refl _ _) rfl
 ·intro vs u hE hp
  have e0:_=_:=hp 0 (by decide)
  have e1:_=_:=hp 1 (by decide)
  have e2:_=_:=hp 2 (by decide)
  have e3:_=_:=hp 3 (by decide)
  obtain⟨A_4,c_4,e4,h_4⟩:=show isOwnS (k+1) 86 35 cA na s.act (vs 4) u from hp 4 (by decide)
  have e5:_=_:=hp 5 (by decide)
  have e6:_=_:=hp 6 (by decide)
  have e7:_=_:=hp 7 (by decide)
  have e8:_=_:=hp 8 (by decide)
  clear hp
  have HF:=Lib.hid (And.intro h_4 hE)
  clear h_4 hE
  rw[puts_range [some 9,some 10,some 11,some 12,some 13,some 14,some 15,some 16,some 17] (by kernel_rfl)]
  simp only[putL,Nat.reduceAdd,List.drop_succ_cons,List.drop_zero,e0,e1,e2,e3,e4,e5,e6,e7,e8]
  clear e0 e1 e2 e3 e4 e5 e6 e7 e8
  go_simp
  have hal:∀ ad,A_4=some ad→ad.block<u.heap.size:=fun ad e=>(Own.lt HF.out.1 ad.block (by rw[e];rfl)).2
  have HAL:=Lib.hid hal
  clear hal
  go_wp2_with (go_at_call 47;refine (clone47 vk.1 nk vk.2.2 s.kept u HN.out.2.2.2.1 (HT.out.1.keep (Below.step HB2.out.2 HF.out.2)).ok.slOf (by have:=HN.out.2.2.2.2.2;omega)).mono ?_;rintro e w9 ⟨B9,c9,rfl,ho9,hb9⟩;have hrow9:=(HB2.out.1.keep HF.out.2).keep hb9;have ho4:=HF.out.1.keep hb9;have hbw9:=Below.step (Below.step HB2.out.2 HF.out.2) hb9;have CA:=clone_at (s:=s) (va:=va) (vk:=vk) (A:=A_4) (B:=B9) (ca:=c_4) (cb:=c9) hrow9 (Nat.lt_of_lt_of_le HB2.out.1.lt HF.out.2.size) HK0.out (by rw[HN.out.2.2.1];exact ho4) HAL.out (by rw[HN.out.2.2.2.1];exact ho9) hbw9;rw[HN.out.2.2.1,HN.out.2.2.2.1] at CA;obtain⟨z2,k2,z3,k3,F2,hT2,hF2,hbF⟩:=CA;rw[HN.out.1] at k2;obtain⟨W10,hW10⟩:∃ W10,w9.setCell ⟨k,2,none⟩ (.slice A_4 na c_4)=W10:=⟨_,rfl⟩;rw[hW10] at z3 k3 hT2 hF2 hbF;rw[HN.out.2.1] at k3;have HFIN:=Lib.hid (And.intro hT2 (And.intro hF2 hbF));clear hrow9 ho4 hbw9 ho9 hb9 hT2 hF2 hbF)
  go_ret
  exact⟨k,F2,rfl,HFIN.out.1,HFIN.out.2.1,HFIN.out.2.2⟩
end Go.Proofs.YtgojaelkdpabkaaGreatDoor
