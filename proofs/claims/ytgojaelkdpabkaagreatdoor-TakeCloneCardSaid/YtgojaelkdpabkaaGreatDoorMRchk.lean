/- The reference's Check. -/
import Derived.Test.YtgojaelkdpabkaaGreatDoorMOnA
import Derived.Test.YtgojaelkdpabkaaGreatDoorMLaw304
namespace Go.Proofs.YtgojaelkdpabkaaGreatDoor
open Go.RowKit
def RchkP (c:Cm) (w:World):Ending→World→Prop:=fun e w'=>e=.returned (.int .i64 (chk c))∧Below w.heap.size w w'
section
set_option maxRecDepth 100000
set_option maxHeartbeats 3200000
theorem refCheck_out (c:Cm) (h:c.verb<1∨11<c.verb) (w:World):Calls Tryz.prog 72 #[vC c] w (RchkP c w):=by
 obtain⟨b,hb⟩:∃ b,w.heap.size=b:=⟨_,rfl⟩
 have HB1:=Lib.hid (below_alloc w (.cells (aC c) 35))
 have HR1:=Lib.hid (show Row (w.alloc (.cells (aC c) 35)) b (cC c) 35 by rw[← hb];exact Row.new w (cC c) 35)
 obtain⟨W1,hW1⟩:∃ W1,w.alloc (.cells (aC c) 35)=W1:=⟨_,rfl⟩
 rw[hW1] at HB1 HR1
 have hbx:(bxA 35 (vC c)).run Tryz.prog w=.ok (.pointer (some ⟨b,0,none⟩)) W1:=by rw[run_bx35,hW1,hb]
 have HC:=Lib.hid (show chk c=11 by unfold chk;rw[if_pos h])
 have c0:W1.cell? ⟨b,0,none⟩=some (.int .i64 c.verb):=HR1.out.cell 0
 have h':c.verb<1∨(¬ c.verb<1∧11<c.verb):=by omega
 clear h
 rcases h' with h1|⟨h1,h2⟩
 all_goals
  go_enter Tryz.func72,Tryz.ntmps72
  go_wp2
  go_ret
  exact⟨by rw[HC.out];rfl,HB1.out⟩
theorem refCheck_ne (c:Cm) (h1:1≤c.verb) (h2:c.verb≤11) (hne:c≠onlyC c) (w:World):Calls Tryz.prog 72 #[vC c] w (RchkP c w):=by
 obtain⟨b,hb⟩:∃ b,w.heap.size=b:=⟨_,rfl⟩
 have HB1:=Lib.hid (below_alloc w (.cells (aC c) 35))
 have HR1:=Lib.hid (show Row (w.alloc (.cells (aC c) 35)) b (cC c) 35 by rw[← hb];exact Row.new w (cC c) 35)
 obtain⟨W1,hW1⟩:∃ W1,w.alloc (.cells (aC c) 35)=W1:=⟨_,rfl⟩
 rw[hW1] at HB1 HR1
 have hbx:(bxA 35 (vC c)).run Tryz.prog w=.ok (.pointer (some ⟨b,0,none⟩)) W1:=by rw[run_bx35,hW1,hb]
 have HC:=Lib.hid (show chk c=3 by rw[chk_only c h1 h2,if_neg hne])
 have HEQ:=Lib.hid (show decide (c=onlyC c)=false from decide_eq_false hne)
 have HV:=Lib.hid (And.intro h1 h2)
 have c0:W1.cell? ⟨b,0,none⟩=some (.int .i64 c.verb):=HR1.out.cell 0
 have r1:¬ c.verb<1:=by omega
 have r2:¬ 11<c.verb:=by omega
 clear h1 h2 hne
 go_enter Tryz.func72,Tryz.ntmps72
 go_wp2
 refine AnyO.wp_any (by kernel_rfl) (by kernel_rfl) (pstP [isV (vC c),isV (vC c),isV (vC (onlyC c)),isV (.bool true)]) (MonoL.cons (Mono.v _) (MonoL.cons (Mono.v _) (MonoL.cons (Mono.v _) (MonoL.cons (Mono.v _) MonoL.nil)))) ?_ ?_
 ·intro i hi
  have hi2:i=2∨i=0∨i=1∨i=3:=by simp only[List.size_toArray,List.length_cons,List.length_nil] at hi;omega
  clear hi
  rcases hi2 with rfl|rfl|rfl|rfl
  ·refine AnyO.S rfl [1] ?_;intro vs u hE hp ac hb K hK
   have s15:_=_:=AnyO.sw 15 1 hb hp
   go_simp
   go_at_call 81
   refine (only50 c HV.out.1 HV.out.2 u).mono ?_
   rintro e w2 ⟨rfl,hb2⟩
   exact hK _ _ hb2 rfl
  all_goals
   refine AnyO.T rfl ?_;intro vs u hE hp ac hb K hK
   try have s1:ac.tmps[1]?.getD undef=.pointer (some ⟨b,0,none⟩):=by rw[hb.out];kernel_rfl
   try have s14:_=_:=AnyO.sw 14 0 hb hp
   try have s16:_=_:=AnyO.sw 16 2 hb hp
   have rr1_0:=okC (HR1.out.keep (Below.step (below_drew _) hE))
   have rr2_0:=rdC (HR1.out.keep (Below.step (below_drew _) hE))
   have rr_1:=HEQ.out
   go_simp;exact hK _ _ (Below.refl _ _) rfl
 ·intro vs u hE hp
  have e0:_=_:=hp 0 (by decide)
  have e1:_=_:=hp 1 (by decide)
  have e2:_=_:=hp 2 (by decide)
  have e3:_=_:=hp 3 (by decide)
  clear hp
  have HE:=Lib.hid hE
  clear hE
  rw[puts_range [some 14,some 15,some 16,some 17] (by kernel_rfl)]
  simp only[putL,Nat.reduceAdd,e0,e1,e2,e3]
  clear e0 e1 e2 e3
  go_simp
  go_wp2
  go_ret
  exact⟨by rw[HC.out];rfl,Below.trans HB1.out (HE.out.mono HB1.out.size)⟩
theorem refCheck_v1 (c:Cm) (hv:c.verb=1) (ho:c=onlyC c) (hn:c.name.size≤1000000) (ht:c.text.size≤1000000) (w:World):Calls Tryz.prog 72 #[vC c] w (RchkP c w):=by
 obtain⟨b,hb⟩:∃ b,w.heap.size=b:=⟨_,rfl⟩
 have HB1:=Lib.hid (below_alloc w (.cells (aC c) 35))
 have HR1:=Lib.hid (show Row (w.alloc (.cells (aC c) 35)) b (cC c) 35 by rw[← hb];exact Row.new w (cC c) 35)
 obtain⟨W1,hW1⟩:∃ W1,w.alloc (.cells (aC c) 35)=W1:=⟨_,rfl⟩
 rw[hW1] at HB1 HR1
 have hbx:(bxA 35 (vC c)).run Tryz.prog w=.ok (.pointer (some ⟨b,0,none⟩)) W1:=by rw[run_bx35,hW1,hb]
 have HCV:=Lib.hid (chk_v1 c hv ho)
 have HEQ:=Lib.hid (show decide (c=onlyC c)=true from decide_eq_true ho)
 have HV:=Lib.hid (show 1≤c.verb∧c.verb≤11 by omega)
 have HV2:=Lib.hid hv
 have HO:=Lib.hid ho
 have c0:W1.cell? ⟨b,0,none⟩=some (.int .i64 1):=by rw[← hv];exact HR1.out.cell 0
 have HN:=Lib.hid (And.intro hn ht)
 clear hv ho hn ht
 go_enter Tryz.func72,Tryz.ntmps72
 go_wp2
 refine AnyO.wp_any (by kernel_rfl) (by kernel_rfl) (pstP [isV (vC c),isV (vC c),isV (vC (onlyC c)),isV (.bool false)]) (MonoL.cons (Mono.v _) (MonoL.cons (Mono.v _) (MonoL.cons (Mono.v _) (MonoL.cons (Mono.v _) MonoL.nil)))) ?_ ?_
 ·intro i hi
  have hi2:i=2∨i=0∨i=1∨i=3:=by simp only[List.size_toArray,List.length_cons,List.length_nil] at hi;omega
  clear hi
  rcases hi2 with rfl|rfl|rfl|rfl
  ·refine AnyO.S rfl [1] ?_;intro vs u hE hp ac hb K hK
   have s15:_=_:=AnyO.sw 15 1 hb hp
   go_simp
   go_at_call 81
   refine (only50 c HV.out.1 HV.out.2 u).mono ?_
   rintro e w2 ⟨rfl,hb2⟩
   exact hK _ _ hb2 rfl
  all_goals
   refine AnyO.T rfl ?_;intro vs u hE hp ac hb K hK
   try have s1:ac.tmps[1]?.getD undef=.pointer (some ⟨b,0,none⟩):=by rw[hb.out];kernel_rfl
   try have s14:_=_:=AnyO.sw 14 0 hb hp
   try have s16:_=_:=AnyO.sw 16 2 hb hp
   have rr1_0:=okC (HR1.out.keep (Below.step (below_drew _) hE))
   have rr2_0:=rdC (HR1.out.keep (Below.step (below_drew _) hE))
   have rr_1:=HEQ.out
   go_simp;exact hK _ _ (Below.refl _ _) rfl
 ·intro vs u hE hp
  have e0:_=_:=hp 0 (by decide)
  have e1:_=_:=hp 1 (by decide)
  have e2:_=_:=hp 2 (by decide)
  have e3:_=_:=hp 3 (by decide)
  clear hp
  have HE:=Lib.hid hE
  clear hE
  rw[puts_range [some 14,some 15,some 16,some 17] (by kernel_rfl)]
  simp only[putL,Nat.reduceAdd,e0,e1,e2,e3]
  clear e0 e1 e2 e3
  go_simp
  have HRU:=Lib.hid (HR1.out.keep HE.out)
  have HBU:=Lib.hid (show Below w.heap.size w u from Below.trans HB1.out (HE.out.mono HB1.out.size))
  clear c0 hbx hW1
  have k0:u.cell? ⟨b,0,none⟩=some (.int .i64 1):=by rw[← HV2.out];exact HRU.out.cell 0
  have k1:u.cell? ⟨b,1,none⟩=some (.string c.name):=HRU.out.cell 1
  have k36:u.cell? ⟨b,36,none⟩=some (.int .i64 c.count):=(HRU.out.cell 36).trans (cC_at (aC_36 c))
  have H51:=Lib.hid (fun w1=>refSite51 c.name w1 HN.out.1)
  by_cases h0:siteB (bl c.name)=false
  ·have HC:=Lib.hid (show chk c=12 by rw[HCV.out,if_pos h0])
   have HS:=Lib.hid h0
   clear h0
   go_wp2_with (go_at_call 82;refine (H51.out _).mono ?_;rintro e w2 ⟨a,n,rfl,hn,rfl⟩;rw[HS.out] at hn;have hn2:(n != 0)=true:=(by simpa using hn);clear hn)
   go_ret
   exact⟨by rw[HC.out];rfl,HBU.out⟩
  have HS:=Lib.hid (show siteB (bl c.name)=true by simpa using h0)
  by_cases h1:c.count<1
  ·have HC:=Lib.hid (show chk c=2 by rw[HCV.out,if_neg h0,if_pos (Or.inl h1)])
   go_wp2_with (go_at_call 82;refine (H51.out _).mono ?_;rintro e w2 ⟨a,n,rfl,hn,rfl⟩;rw[HS.out] at hn;have hn2:(n != 0)=false:=(by simpa using hn);clear hn)
   go_ret
   exact⟨by rw[HC.out];rfl,HBU.out⟩
  by_cases h2:1000<c.count
  ·have HC:=Lib.hid (show chk c=2 by rw[HCV.out,if_neg h0,if_pos (Or.inr h2)])
   go_wp2_with (go_at_call 82;refine (H51.out _).mono ?_;rintro e w2 ⟨a,n,rfl,hn,rfl⟩;rw[HS.out] at hn;have hn2:(n != 0)=false:=(by simpa using hn);clear hn)
   go_ret
   exact⟨by rw[HC.out];rfl,HBU.out⟩
  have HC:=Lib.hid (show chk c=0 by rw[HCV.out,if_neg h0,if_neg (by omega)])
  clear h0
  go_wp2_with (go_at_call 82;refine (H51.out _).mono ?_;rintro e w2 ⟨a,n,rfl,hn,rfl⟩;rw[HS.out] at hn;have hn2:(n != 0)=false:=(by simpa using hn);clear hn)
  go_ret
  exact⟨by rw[HC.out];rfl,HBU.out⟩
theorem refCheck_v2 (c:Cm) (hv:c.verb=2) (ho:c=onlyC c) (hn:c.name.size≤1000000) (ht:c.text.size≤1000000) (w:World):Calls Tryz.prog 72 #[vC c] w (RchkP c w):=by
 obtain⟨b,hb⟩:∃ b,w.heap.size=b:=⟨_,rfl⟩
 have HB1:=Lib.hid (below_alloc w (.cells (aC c) 35))
 have HR1:=Lib.hid (show Row (w.alloc (.cells (aC c) 35)) b (cC c) 35 by rw[← hb];exact Row.new w (cC c) 35)
 obtain⟨W1,hW1⟩:∃ W1,w.alloc (.cells (aC c) 35)=W1:=⟨_,rfl⟩
 rw[hW1] at HB1 HR1
 have hbx:(bxA 35 (vC c)).run Tryz.prog w=.ok (.pointer (some ⟨b,0,none⟩)) W1:=by rw[run_bx35,hW1,hb]
 have HCV:=Lib.hid (chk_v2 c hv ho)
 have HEQ:=Lib.hid (show decide (c=onlyC c)=true from decide_eq_true ho)
 have HV:=Lib.hid (show 1≤c.verb∧c.verb≤11 by omega)
 have HV2:=Lib.hid hv
 have HO:=Lib.hid ho
 have c0:W1.cell? ⟨b,0,none⟩=some (.int .i64 2):=by rw[← hv];exact HR1.out.cell 0
 have HN:=Lib.hid (And.intro hn ht)
 clear hv ho hn ht
 go_enter Tryz.func72,Tryz.ntmps72
 go_wp2
 refine AnyO.wp_any (by kernel_rfl) (by kernel_rfl) (pstP [isV (vC c),isV (vC c),isV (vC (onlyC c)),isV (.bool false)]) (MonoL.cons (Mono.v _) (MonoL.cons (Mono.v _) (MonoL.cons (Mono.v _) (MonoL.cons (Mono.v _) MonoL.nil)))) ?_ ?_
 ·intro i hi
  have hi2:i=2∨i=0∨i=1∨i=3:=by simp only[List.size_toArray,List.length_cons,List.length_nil] at hi;omega
  clear hi
  rcases hi2 with rfl|rfl|rfl|rfl
  ·refine AnyO.S rfl [1] ?_;intro vs u hE hp ac hb K hK
   have s15:_=_:=AnyO.sw 15 1 hb hp
   go_simp
   go_at_call 81
   refine (only50 c HV.out.1 HV.out.2 u).mono ?_
   rintro e w2 ⟨rfl,hb2⟩
   exact hK _ _ hb2 rfl
  all_goals
   refine AnyO.T rfl ?_;intro vs u hE hp ac hb K hK
   try have s1:ac.tmps[1]?.getD undef=.pointer (some ⟨b,0,none⟩):=by rw[hb.out];kernel_rfl
   try have s14:_=_:=AnyO.sw 14 0 hb hp
   try have s16:_=_:=AnyO.sw 16 2 hb hp
   have rr1_0:=okC (HR1.out.keep (Below.step (below_drew _) hE))
   have rr2_0:=rdC (HR1.out.keep (Below.step (below_drew _) hE))
   have rr_1:=HEQ.out
   go_simp;exact hK _ _ (Below.refl _ _) rfl
 ·intro vs u hE hp
  have e0:_=_:=hp 0 (by decide)
  have e1:_=_:=hp 1 (by decide)
  have e2:_=_:=hp 2 (by decide)
  have e3:_=_:=hp 3 (by decide)
  clear hp
  have HE:=Lib.hid hE
  clear hE
  rw[puts_range [some 14,some 15,some 16,some 17] (by kernel_rfl)]
  simp only[putL,Nat.reduceAdd,e0,e1,e2,e3]
  clear e0 e1 e2 e3
  go_simp
  have HRU:=Lib.hid (HR1.out.keep HE.out)
  have HBU:=Lib.hid (show Below w.heap.size w u from Below.trans HB1.out (HE.out.mono HB1.out.size))
  clear c0 hbx hW1
  have k0:u.cell? ⟨b,0,none⟩=some (.int .i64 2):=by rw[← HV2.out];exact HRU.out.cell 0
  obtain⟨i1,i2⟩:=HRU.out.idC
  have k34:u.cell? ⟨b,34,none⟩=some (.int .i64 c.size):=(HRU.out.cell 34).trans (cC_at (aC_34 c))
  have k35:u.cell? ⟨b,35,none⟩=some (.int .i64 0):=((HRU.out.cell 35).trans (cC_at (aC_35 c))).trans (by have h:=congrArg Cm.from_ HO.out;unfold onlyC at h;simp only[HV2.out] at h;rw[h];rfl)
  by_cases h0:c.id=zI
  ·have HC:=Lib.hid (show chk c=1 by rw[HCV.out,if_pos h0])
   have q0:decide (c.id=zI)=true:=decide_eq_true h0
   go_wp2
   go_ret
   exact⟨by rw[HC.out];rfl,HBU.out⟩
  have q0:decide (c.id=zI)=false:=decide_eq_false h0
  by_cases h1:c.size<1
  ·have HC:=Lib.hid (show chk c=2 by rw[HCV.out,if_neg h0,if_pos (Or.inl h1)])
   go_wp2
   go_ret
   exact⟨by rw[HC.out];rfl,HBU.out⟩
  by_cases h2:65536<c.size
  ·have HC:=Lib.hid (show chk c=2 by rw[HCV.out,if_neg h0,if_pos (Or.inr h2)])
   go_wp2
   go_ret
   exact⟨by rw[HC.out];rfl,HBU.out⟩
  have HC:=Lib.hid (show chk c=0 by rw[HCV.out,if_neg h0,if_neg (by omega)])
  go_wp2
  go_ret
  exact⟨by rw[HC.out];rfl,HBU.out⟩
theorem refCheck_v3 (c:Cm) (hv:c.verb=3) (ho:c=onlyC c) (hn:c.name.size≤1000000) (ht:c.text.size≤1000000) (w:World):Calls Tryz.prog 72 #[vC c] w (RchkP c w):=by
 obtain⟨b,hb⟩:∃ b,w.heap.size=b:=⟨_,rfl⟩
 have HB1:=Lib.hid (below_alloc w (.cells (aC c) 35))
 have HR1:=Lib.hid (show Row (w.alloc (.cells (aC c) 35)) b (cC c) 35 by rw[← hb];exact Row.new w (cC c) 35)
 obtain⟨W1,hW1⟩:∃ W1,w.alloc (.cells (aC c) 35)=W1:=⟨_,rfl⟩
 rw[hW1] at HB1 HR1
 have hbx:(bxA 35 (vC c)).run Tryz.prog w=.ok (.pointer (some ⟨b,0,none⟩)) W1:=by rw[run_bx35,hW1,hb]
 have HCV:=Lib.hid (chk_v3 c hv ho)
 have HEQ:=Lib.hid (show decide (c=onlyC c)=true from decide_eq_true ho)
 have HV:=Lib.hid (show 1≤c.verb∧c.verb≤11 by omega)
 have HV2:=Lib.hid hv
 have HO:=Lib.hid ho
 have c0:W1.cell? ⟨b,0,none⟩=some (.int .i64 3):=by rw[← hv];exact HR1.out.cell 0
 have HN:=Lib.hid (And.intro hn ht)
 clear hv ho hn ht
 go_enter Tryz.func72,Tryz.ntmps72
 go_wp2
 refine AnyO.wp_any (by kernel_rfl) (by kernel_rfl) (pstP [isV (vC c),isV (vC c),isV (vC (onlyC c)),isV (.bool false)]) (MonoL.cons (Mono.v _) (MonoL.cons (Mono.v _) (MonoL.cons (Mono.v _) (MonoL.cons (Mono.v _) MonoL.nil)))) ?_ ?_
 ·intro i hi
  have hi2:i=2∨i=0∨i=1∨i=3:=by simp only[List.size_toArray,List.length_cons,List.length_nil] at hi;omega
  clear hi
  rcases hi2 with rfl|rfl|rfl|rfl
  ·refine AnyO.S rfl [1] ?_;intro vs u hE hp ac hb K hK
   have s15:_=_:=AnyO.sw 15 1 hb hp
   go_simp
   go_at_call 81
   refine (only50 c HV.out.1 HV.out.2 u).mono ?_
   rintro e w2 ⟨rfl,hb2⟩
   exact hK _ _ hb2 rfl
  all_goals
   refine AnyO.T rfl ?_;intro vs u hE hp ac hb K hK
   try have s1:ac.tmps[1]?.getD undef=.pointer (some ⟨b,0,none⟩):=by rw[hb.out];kernel_rfl
   try have s14:_=_:=AnyO.sw 14 0 hb hp
   try have s16:_=_:=AnyO.sw 16 2 hb hp
   have rr1_0:=okC (HR1.out.keep (Below.step (below_drew _) hE))
   have rr2_0:=rdC (HR1.out.keep (Below.step (below_drew _) hE))
   have rr_1:=HEQ.out
   go_simp;exact hK _ _ (Below.refl _ _) rfl
 ·intro vs u hE hp
  have e0:_=_:=hp 0 (by decide)
  have e1:_=_:=hp 1 (by decide)
  have e2:_=_:=hp 2 (by decide)
  have e3:_=_:=hp 3 (by decide)
  clear hp
  have HE:=Lib.hid hE
  clear hE
  rw[puts_range [some 14,some 15,some 16,some 17] (by kernel_rfl)]
  simp only[putL,Nat.reduceAdd,e0,e1,e2,e3]
  clear e0 e1 e2 e3
  go_simp
  have HRU:=Lib.hid (HR1.out.keep HE.out)
  have HBU:=Lib.hid (show Below w.heap.size w u from Below.trans HB1.out (HE.out.mono HB1.out.size))
  clear c0 hbx hW1
  have k0:u.cell? ⟨b,0,none⟩=some (.int .i64 3):=by rw[← HV2.out];exact HRU.out.cell 0
  obtain⟨i1,i2⟩:=HRU.out.idC
  have k35:u.cell? ⟨b,35,none⟩=some (.int .i64 c.from_):=(HRU.out.cell 35).trans (cC_at (aC_35 c))
  by_cases h0:c.id=zI
  ·have HC:=Lib.hid (show chk c=1 by rw[HCV.out,if_pos h0])
   have q0:decide (c.id=zI)=true:=decide_eq_true h0
   go_wp2
   go_ret
   exact⟨by rw[HC.out];rfl,HBU.out⟩
  have q0:decide (c.id=zI)=false:=decide_eq_false h0
  by_cases h1:c.from_<0
  ·have HC:=Lib.hid (show chk c=2 by rw[HCV.out,if_neg h0,if_pos (Or.inl h1)])
   go_wp2
   go_ret
   exact⟨by rw[HC.out];rfl,HBU.out⟩
  by_cases h2:65536<c.from_
  ·have HC:=Lib.hid (show chk c=2 by rw[HCV.out,if_neg h0,if_pos (Or.inr h2)])
   go_wp2
   go_ret
   exact⟨by rw[HC.out];rfl,HBU.out⟩
  have HC:=Lib.hid (show chk c=0 by rw[HCV.out,if_neg h0,if_neg (by omega)])
  go_wp2
  go_ret
  exact⟨by rw[HC.out];rfl,HBU.out⟩
theorem refCheck_v4 (c:Cm) (hv:c.verb=4) (ho:c=onlyC c) (hn:c.name.size≤1000000) (ht:c.text.size≤1000000) (w:World):Calls Tryz.prog 72 #[vC c] w (RchkP c w):=by
 obtain⟨b,hb⟩:∃ b,w.heap.size=b:=⟨_,rfl⟩
 have HB1:=Lib.hid (below_alloc w (.cells (aC c) 35))
 have HR1:=Lib.hid (show Row (w.alloc (.cells (aC c) 35)) b (cC c) 35 by rw[← hb];exact Row.new w (cC c) 35)
 obtain⟨W1,hW1⟩:∃ W1,w.alloc (.cells (aC c) 35)=W1:=⟨_,rfl⟩
 rw[hW1] at HB1 HR1
 have hbx:(bxA 35 (vC c)).run Tryz.prog w=.ok (.pointer (some ⟨b,0,none⟩)) W1:=by rw[run_bx35,hW1,hb]
 have HCV:=Lib.hid (chk_v4 c hv ho)
 have HEQ:=Lib.hid (show decide (c=onlyC c)=true from decide_eq_true ho)
 have HV:=Lib.hid (show 1≤c.verb∧c.verb≤11 by omega)
 have HV2:=Lib.hid hv
 have HO:=Lib.hid ho
 have c0:W1.cell? ⟨b,0,none⟩=some (.int .i64 4):=by rw[← hv];exact HR1.out.cell 0
 have HN:=Lib.hid (And.intro hn ht)
 clear hv ho hn ht
 go_enter Tryz.func72,Tryz.ntmps72
 go_wp2
 refine AnyO.wp_any (by kernel_rfl) (by kernel_rfl) (pstP [isV (vC c),isV (vC c),isV (vC (onlyC c)),isV (.bool false)]) (MonoL.cons (Mono.v _) (MonoL.cons (Mono.v _) (MonoL.cons (Mono.v _) (MonoL.cons (Mono.v _) MonoL.nil)))) ?_ ?_
 ·intro i hi
  have hi2:i=2∨i=0∨i=1∨i=3:=by simp only[List.size_toArray,List.length_cons,List.length_nil] at hi;omega
  clear hi
  rcases hi2 with rfl|rfl|rfl|rfl
  ·refine AnyO.S rfl [1] ?_;intro vs u hE hp ac hb K hK
   have s15:_=_:=AnyO.sw 15 1 hb hp
   go_simp
   go_at_call 81
   refine (only50 c HV.out.1 HV.out.2 u).mono ?_
   rintro e w2 ⟨rfl,hb2⟩
   exact hK _ _ hb2 rfl
  all_goals
   refine AnyO.T rfl ?_;intro vs u hE hp ac hb K hK
   try have s1:ac.tmps[1]?.getD undef=.pointer (some ⟨b,0,none⟩):=by rw[hb.out];kernel_rfl
   try have s14:_=_:=AnyO.sw 14 0 hb hp
   try have s16:_=_:=AnyO.sw 16 2 hb hp
   have rr1_0:=okC (HR1.out.keep (Below.step (below_drew _) hE))
   have rr2_0:=rdC (HR1.out.keep (Below.step (below_drew _) hE))
   have rr_1:=HEQ.out
   go_simp;exact hK _ _ (Below.refl _ _) rfl
 ·intro vs u hE hp
  have e0:_=_:=hp 0 (by decide)
  have e1:_=_:=hp 1 (by decide)
  have e2:_=_:=hp 2 (by decide)
  have e3:_=_:=hp 3 (by decide)
  clear hp
  have HE:=Lib.hid hE
  clear hE
  rw[puts_range [some 14,some 15,some 16,some 17] (by kernel_rfl)]
  simp only[putL,Nat.reduceAdd,e0,e1,e2,e3]
  clear e0 e1 e2 e3
  go_simp
  have HRU:=Lib.hid (HR1.out.keep HE.out)
  have HBU:=Lib.hid (show Below w.heap.size w u from Below.trans HB1.out (HE.out.mono HB1.out.size))
  clear c0 hbx hW1
  have k0:u.cell? ⟨b,0,none⟩=some (.int .i64 4):=by rw[← HV2.out];exact HRU.out.cell 0
  obtain⟨i1,i2⟩:=HRU.out.idC
  have k35:u.cell? ⟨b,35,none⟩=some (.int .i64 0):=((HRU.out.cell 35).trans (cC_at (aC_35 c))).trans (by have h:=congrArg Cm.from_ HO.out;unfold onlyC at h;simp only[HV2.out] at h;rw[h];rfl)
  by_cases h0:c.id=zI
  ·have HC:=Lib.hid (show chk c=1 by rw[HCV.out,if_pos h0])
   have q0:decide (c.id=zI)=true:=decide_eq_true h0
   go_wp2
   go_ret
   exact⟨by rw[HC.out];rfl,HBU.out⟩
  have q0:decide (c.id=zI)=false:=decide_eq_false h0
  have HC:=Lib.hid (show chk c=0 by rw[HCV.out,if_neg h0])
  go_wp2
  go_ret
  exact⟨by rw[HC.out];rfl,HBU.out⟩
theorem refCheck_v5 (c:Cm) (hv:c.verb=5) (ho:c=onlyC c) (hn:c.name.size≤1000000) (ht:c.text.size≤1000000) (w:World):Calls Tryz.prog 72 #[vC c] w (RchkP c w):=by
 obtain⟨b,hb⟩:∃ b,w.heap.size=b:=⟨_,rfl⟩
 have HB1:=Lib.hid (below_alloc w (.cells (aC c) 35))
 have HR1:=Lib.hid (show Row (w.alloc (.cells (aC c) 35)) b (cC c) 35 by rw[← hb];exact Row.new w (cC c) 35)
 obtain⟨W1,hW1⟩:∃ W1,w.alloc (.cells (aC c) 35)=W1:=⟨_,rfl⟩
 rw[hW1] at HB1 HR1
 have hbx:(bxA 35 (vC c)).run Tryz.prog w=.ok (.pointer (some ⟨b,0,none⟩)) W1:=by rw[run_bx35,hW1,hb]
 have HCV:=Lib.hid (chk_v5 c hv ho)
 have HEQ:=Lib.hid (show decide (c=onlyC c)=true from decide_eq_true ho)
 have HV:=Lib.hid (show 1≤c.verb∧c.verb≤11 by omega)
 have HV2:=Lib.hid hv
 have HO:=Lib.hid ho
 have c0:W1.cell? ⟨b,0,none⟩=some (.int .i64 5):=by rw[← hv];exact HR1.out.cell 0
 have HN:=Lib.hid (And.intro hn ht)
 clear hv ho hn ht
 go_enter Tryz.func72,Tryz.ntmps72
 go_wp2
 refine AnyO.wp_any (by kernel_rfl) (by kernel_rfl) (pstP [isV (vC c),isV (vC c),isV (vC (onlyC c)),isV (.bool false)]) (MonoL.cons (Mono.v _) (MonoL.cons (Mono.v _) (MonoL.cons (Mono.v _) (MonoL.cons (Mono.v _) MonoL.nil)))) ?_ ?_
 ·intro i hi
  have hi2:i=2∨i=0∨i=1∨i=3:=by simp only[List.size_toArray,List.length_cons,List.length_nil] at hi;omega
  clear hi
  rcases hi2 with rfl|rfl|rfl|rfl
  ·refine AnyO.S rfl [1] ?_;intro vs u hE hp ac hb K hK
   have s15:_=_:=AnyO.sw 15 1 hb hp
   go_simp
   go_at_call 81
   refine (only50 c HV.out.1 HV.out.2 u).mono ?_
   rintro e w2 ⟨rfl,hb2⟩
   exact hK _ _ hb2 rfl
  all_goals
   refine AnyO.T rfl ?_;intro vs u hE hp ac hb K hK
   try have s1:ac.tmps[1]?.getD undef=.pointer (some ⟨b,0,none⟩):=by rw[hb.out];kernel_rfl
   try have s14:_=_:=AnyO.sw 14 0 hb hp
   try have s16:_=_:=AnyO.sw 16 2 hb hp
   have rr1_0:=okC (HR1.out.keep (Below.step (below_drew _) hE))
   have rr2_0:=rdC (HR1.out.keep (Below.step (below_drew _) hE))
   have rr_1:=HEQ.out
   go_simp;exact hK _ _ (Below.refl _ _) rfl
 ·intro vs u hE hp
  have e0:_=_:=hp 0 (by decide)
  have e1:_=_:=hp 1 (by decide)
  have e2:_=_:=hp 2 (by decide)
  have e3:_=_:=hp 3 (by decide)
  clear hp
  have HE:=Lib.hid hE
  clear hE
  rw[puts_range [some 14,some 15,some 16,some 17] (by kernel_rfl)]
  simp only[putL,Nat.reduceAdd,e0,e1,e2,e3]
  clear e0 e1 e2 e3
  go_simp
  have HRU:=Lib.hid (HR1.out.keep HE.out)
  have HBU:=Lib.hid (show Below w.heap.size w u from Below.trans HB1.out (HE.out.mono HB1.out.size))
  clear c0 hbx hW1
  have k0:u.cell? ⟨b,0,none⟩=some (.int .i64 5):=by rw[← HV2.out];exact HRU.out.cell 0
  obtain⟨i1,i2⟩:=HRU.out.idC
  have k35:u.cell? ⟨b,35,none⟩=some (.int .i64 0):=((HRU.out.cell 35).trans (cC_at (aC_35 c))).trans (by have h:=congrArg Cm.from_ HO.out;unfold onlyC at h;simp only[HV2.out] at h;rw[h];rfl)
  by_cases h0:c.id=zI
  ·have HC:=Lib.hid (show chk c=1 by rw[HCV.out,if_pos h0])
   have q0:decide (c.id=zI)=true:=decide_eq_true h0
   go_wp2
   go_ret
   exact⟨by rw[HC.out];rfl,HBU.out⟩
  have q0:decide (c.id=zI)=false:=decide_eq_false h0
  have HC:=Lib.hid (show chk c=0 by rw[HCV.out,if_neg h0])
  go_wp2
  go_ret
  exact⟨by rw[HC.out];rfl,HBU.out⟩
theorem refCheck_v6 (c:Cm) (hv:c.verb=6) (ho:c=onlyC c) (hn:c.name.size≤1000000) (ht:c.text.size≤1000000) (w:World):Calls Tryz.prog 72 #[vC c] w (RchkP c w):=by
 obtain⟨b,hb⟩:∃ b,w.heap.size=b:=⟨_,rfl⟩
 have HB1:=Lib.hid (below_alloc w (.cells (aC c) 35))
 have HR1:=Lib.hid (show Row (w.alloc (.cells (aC c) 35)) b (cC c) 35 by rw[← hb];exact Row.new w (cC c) 35)
 obtain⟨W1,hW1⟩:∃ W1,w.alloc (.cells (aC c) 35)=W1:=⟨_,rfl⟩
 rw[hW1] at HB1 HR1
 have hbx:(bxA 35 (vC c)).run Tryz.prog w=.ok (.pointer (some ⟨b,0,none⟩)) W1:=by rw[run_bx35,hW1,hb]
 have HCV:=Lib.hid (chk_v6 c hv ho)
 have HEQ:=Lib.hid (show decide (c=onlyC c)=true from decide_eq_true ho)
 have HV:=Lib.hid (show 1≤c.verb∧c.verb≤11 by omega)
 have HV2:=Lib.hid hv
 have HO:=Lib.hid ho
 have c0:W1.cell? ⟨b,0,none⟩=some (.int .i64 6):=by rw[← hv];exact HR1.out.cell 0
 have HN:=Lib.hid (And.intro hn ht)
 clear hv ho hn ht
 go_enter Tryz.func72,Tryz.ntmps72
 go_wp2
 refine AnyO.wp_any (by kernel_rfl) (by kernel_rfl) (pstP [isV (vC c),isV (vC c),isV (vC (onlyC c)),isV (.bool false)]) (MonoL.cons (Mono.v _) (MonoL.cons (Mono.v _) (MonoL.cons (Mono.v _) (MonoL.cons (Mono.v _) MonoL.nil)))) ?_ ?_
 ·intro i hi
  have hi2:i=2∨i=0∨i=1∨i=3:=by simp only[List.size_toArray,List.length_cons,List.length_nil] at hi;omega
  clear hi
  rcases hi2 with rfl|rfl|rfl|rfl
  ·refine AnyO.S rfl [1] ?_;intro vs u hE hp ac hb K hK
   have s15:_=_:=AnyO.sw 15 1 hb hp
   go_simp
   go_at_call 81
   refine (only50 c HV.out.1 HV.out.2 u).mono ?_
   rintro e w2 ⟨rfl,hb2⟩
   exact hK _ _ hb2 rfl
  all_goals
   refine AnyO.T rfl ?_;intro vs u hE hp ac hb K hK
   try have s1:ac.tmps[1]?.getD undef=.pointer (some ⟨b,0,none⟩):=by rw[hb.out];kernel_rfl
   try have s14:_=_:=AnyO.sw 14 0 hb hp
   try have s16:_=_:=AnyO.sw 16 2 hb hp
   have rr1_0:=okC (HR1.out.keep (Below.step (below_drew _) hE))
   have rr2_0:=rdC (HR1.out.keep (Below.step (below_drew _) hE))
   have rr_1:=HEQ.out
   go_simp;exact hK _ _ (Below.refl _ _) rfl
 ·intro vs u hE hp
  have e0:_=_:=hp 0 (by decide)
  have e1:_=_:=hp 1 (by decide)
  have e2:_=_:=hp 2 (by decide)
  have e3:_=_:=hp 3 (by decide)
  clear hp
  have HE:=Lib.hid hE
  clear hE
  rw[puts_range [some 14,some 15,some 16,some 17] (by kernel_rfl)]
  simp only[putL,Nat.reduceAdd,e0,e1,e2,e3]
  clear e0 e1 e2 e3
  go_simp
  have HRU:=Lib.hid (HR1.out.keep HE.out)
  have HBU:=Lib.hid (show Below w.heap.size w u from Below.trans HB1.out (HE.out.mono HB1.out.size))
  clear c0 hbx hW1
  have k0:u.cell? ⟨b,0,none⟩=some (.int .i64 6):=by rw[← HV2.out];exact HRU.out.cell 0
  obtain⟨i1,i2⟩:=HRU.out.idC
  have k37:u.cell? ⟨b,37,none⟩=some (.int .i64 c.code):=(HRU.out.cell 37).trans (cC_at (aC_37 c))
  have k35:u.cell? ⟨b,35,none⟩=some (.int .i64 0):=((HRU.out.cell 35).trans (cC_at (aC_35 c))).trans (by have h:=congrArg Cm.from_ HO.out;unfold onlyC at h;simp only[HV2.out] at h;rw[h];rfl)
  by_cases h0:c.id=zI
  ·have HC:=Lib.hid (show chk c=1 by rw[HCV.out,if_pos h0])
   have q0:decide (c.id=zI)=true:=decide_eq_true h0
   go_wp2
   go_ret
   exact⟨by rw[HC.out];rfl,HBU.out⟩
  have q0:decide (c.id=zI)=false:=decide_eq_false h0
  by_cases h1:c.code<1
  ·have HC:=Lib.hid (show chk c=2 by rw[HCV.out,if_neg h0,if_pos (Or.inl h1)])
   go_wp2
   go_ret
   exact⟨by rw[HC.out];rfl,HBU.out⟩
  by_cases h2:99<c.code
  ·have HC:=Lib.hid (show chk c=2 by rw[HCV.out,if_neg h0,if_pos (Or.inr h2)])
   go_wp2
   go_ret
   exact⟨by rw[HC.out];rfl,HBU.out⟩
  have HC:=Lib.hid (show chk c=0 by rw[HCV.out,if_neg h0,if_neg (by omega)])
  go_wp2
  go_ret
  exact⟨by rw[HC.out];rfl,HBU.out⟩
theorem refCheck_v7 (c:Cm) (hv:c.verb=7) (ho:c=onlyC c) (hn:c.name.size≤1000000) (ht:c.text.size≤1000000) (w:World):Calls Tryz.prog 72 #[vC c] w (RchkP c w):=by
 obtain⟨b,hb⟩:∃ b,w.heap.size=b:=⟨_,rfl⟩
 have HB1:=Lib.hid (below_alloc w (.cells (aC c) 35))
 have HR1:=Lib.hid (show Row (w.alloc (.cells (aC c) 35)) b (cC c) 35 by rw[← hb];exact Row.new w (cC c) 35)
 obtain⟨W1,hW1⟩:∃ W1,w.alloc (.cells (aC c) 35)=W1:=⟨_,rfl⟩
 rw[hW1] at HB1 HR1
 have hbx:(bxA 35 (vC c)).run Tryz.prog w=.ok (.pointer (some ⟨b,0,none⟩)) W1:=by rw[run_bx35,hW1,hb]
 have HCV:=Lib.hid (chk_v7 c hv ho)
 have HEQ:=Lib.hid (show decide (c=onlyC c)=true from decide_eq_true ho)
 have HV:=Lib.hid (show 1≤c.verb∧c.verb≤11 by omega)
 have HV2:=Lib.hid hv
 have HO:=Lib.hid ho
 have c0:W1.cell? ⟨b,0,none⟩=some (.int .i64 7):=by rw[← hv];exact HR1.out.cell 0
 have HN:=Lib.hid (And.intro hn ht)
 clear hv ho hn ht
 go_enter Tryz.func72,Tryz.ntmps72
 go_wp2
 refine AnyO.wp_any (by kernel_rfl) (by kernel_rfl) (pstP [isV (vC c),isV (vC c),isV (vC (onlyC c)),isV (.bool false)]) (MonoL.cons (Mono.v _) (MonoL.cons (Mono.v _) (MonoL.cons (Mono.v _) (MonoL.cons (Mono.v _) MonoL.nil)))) ?_ ?_
 ·intro i hi
  have hi2:i=2∨i=0∨i=1∨i=3:=by simp only[List.size_toArray,List.length_cons,List.length_nil] at hi;omega
  clear hi
  rcases hi2 with rfl|rfl|rfl|rfl
  ·refine AnyO.S rfl [1] ?_;intro vs u hE hp ac hb K hK
   have s15:_=_:=AnyO.sw 15 1 hb hp
   go_simp
   go_at_call 81
   refine (only50 c HV.out.1 HV.out.2 u).mono ?_
   rintro e w2 ⟨rfl,hb2⟩
   exact hK _ _ hb2 rfl
  all_goals
   refine AnyO.T rfl ?_;intro vs u hE hp ac hb K hK
   try have s1:ac.tmps[1]?.getD undef=.pointer (some ⟨b,0,none⟩):=by rw[hb.out];kernel_rfl
   try have s14:_=_:=AnyO.sw 14 0 hb hp
   try have s16:_=_:=AnyO.sw 16 2 hb hp
   have rr1_0:=okC (HR1.out.keep (Below.step (below_drew _) hE))
   have rr2_0:=rdC (HR1.out.keep (Below.step (below_drew _) hE))
   have rr_1:=HEQ.out
   go_simp;exact hK _ _ (Below.refl _ _) rfl
 ·intro vs u hE hp
  have e0:_=_:=hp 0 (by decide)
  have e1:_=_:=hp 1 (by decide)
  have e2:_=_:=hp 2 (by decide)
  have e3:_=_:=hp 3 (by decide)
  clear hp
  have HE:=Lib.hid hE
  clear hE
  rw[puts_range [some 14,some 15,some 16,some 17] (by kernel_rfl)]
  simp only[putL,Nat.reduceAdd,e0,e1,e2,e3]
  clear e0 e1 e2 e3
  go_simp
  have HRU:=Lib.hid (HR1.out.keep HE.out)
  have HBU:=Lib.hid (show Below w.heap.size w u from Below.trans HB1.out (HE.out.mono HB1.out.size))
  clear c0 hbx hW1
  have k0:u.cell? ⟨b,0,none⟩=some (.int .i64 7):=by rw[← HV2.out];exact HRU.out.cell 0
  obtain⟨i1,i2⟩:=HRU.out.idC
  have k35:u.cell? ⟨b,35,none⟩=some (.int .i64 c.from_):=(HRU.out.cell 35).trans (cC_at (aC_35 c))
  have k38:u.cell? ⟨b,38,none⟩=some (.string c.text):=(HRU.out.cell 38).trans (cC_at (aC_38 c))
  have H45:=Lib.hid (fun w1=>(has45 c.text 13 w1 (by have:=HN.out.2;omega)))
  rw[show (((13:UInt8).toNat:Nat):Int)=13 from rfl] at H45
  by_cases h0:c.id=zI
  ·have HC:=Lib.hid (show chk c=1 by rw[HCV.out,if_pos h0])
   have q0:decide (c.id=zI)=true:=decide_eq_true h0
   go_wp2
   go_ret
   exact⟨by rw[HC.out];rfl,HBU.out⟩
  have q0:decide (c.id=zI)=false:=decide_eq_false h0
  by_cases h1:c.from_<0
  ·have HC:=Lib.hid (show chk c=2 by rw[HCV.out,if_neg h0,if_pos (Or.inl h1)])
   go_wp2
   go_ret
   exact⟨by rw[HC.out];rfl,HBU.out⟩
  by_cases h2:65536<c.from_
  ·have HC:=Lib.hid (show chk c=2 by rw[HCV.out,if_neg h0,if_pos (Or.inr h2)])
   go_wp2
   go_ret
   exact⟨by rw[HC.out];rfl,HBU.out⟩
  by_cases h3:c.text=⟨#[]⟩
  ·have HC:=Lib.hid (show chk c=1 by rw[HCV.out,if_neg h0,if_neg (by omega),if_pos h3])
   have q1:c.text.toList.isEmpty=true:=by rw[isEd,decide_eq_true h3]
   go_wp2
   go_ret
   exact⟨by rw[HC.out];rfl,HBU.out⟩
  have q1:c.text.toList.isEmpty=false:=by rw[isEd,decide_eq_false h3]
  by_cases h4:4096<c.text.size
  ·have HC:=Lib.hid (show chk c=5 by rw[HCV.out,if_neg h0,if_neg (by omega),if_neg h3,if_pos h4])
   have q2:(4096:Int)<(c.text.size:Int):=by omega
   go_wp2
   go_ret
   exact⟨by rw[HC.out];rfl,HBU.out⟩
  have q2:¬ (4096:Int)<(c.text.size:Int):=by omega
  by_cases h5:hasB c.text 13=true
  ·have HC:=Lib.hid (show chk c=6 by rw[HCV.out,if_neg h0,if_neg (by omega),if_neg h3,if_neg h4,if_pos h5])
   have q3:=h5
   go_wp2_with (go_at_call 83;refine (H45.out _).mono ?_;rintro e w2 ⟨rfl,rfl⟩)
   go_ret
   exact⟨by rw[HC.out];rfl,HBU.out⟩
  have q3:hasB c.text 13=false:=Bool.eq_false_iff.2 h5
  have HC:=Lib.hid (show chk c=0 by rw[HCV.out,if_neg h0,if_neg (by omega),if_neg h3,if_neg h4,if_neg h5])
  go_wp2_with (go_at_call 83;refine (H45.out _).mono ?_;rintro e w2 ⟨rfl,rfl⟩)
  go_ret
  exact⟨by rw[HC.out];rfl,HBU.out⟩
theorem refCheck_v8 (c:Cm) (hv:c.verb=8) (ho:c=onlyC c) (hn:c.name.size≤1000000) (ht:c.text.size≤1000000) (w:World):Calls Tryz.prog 72 #[vC c] w (RchkP c w):=by
 obtain⟨b,hb⟩:∃ b,w.heap.size=b:=⟨_,rfl⟩
 have HB1:=Lib.hid (below_alloc w (.cells (aC c) 35))
 have HR1:=Lib.hid (show Row (w.alloc (.cells (aC c) 35)) b (cC c) 35 by rw[← hb];exact Row.new w (cC c) 35)
 obtain⟨W1,hW1⟩:∃ W1,w.alloc (.cells (aC c) 35)=W1:=⟨_,rfl⟩
 rw[hW1] at HB1 HR1
 have hbx:(bxA 35 (vC c)).run Tryz.prog w=.ok (.pointer (some ⟨b,0,none⟩)) W1:=by rw[run_bx35,hW1,hb]
 have HCV:=Lib.hid (chk_v8 c hv ho)
 have HEQ:=Lib.hid (show decide (c=onlyC c)=true from decide_eq_true ho)
 have HV:=Lib.hid (show 1≤c.verb∧c.verb≤11 by omega)
 have HV2:=Lib.hid hv
 have HO:=Lib.hid ho
 have c0:W1.cell? ⟨b,0,none⟩=some (.int .i64 8):=by rw[← hv];exact HR1.out.cell 0
 have HN:=Lib.hid (And.intro hn ht)
 clear hv ho hn ht
 go_enter Tryz.func72,Tryz.ntmps72
 go_wp2
 refine AnyO.wp_any (by kernel_rfl) (by kernel_rfl) (pstP [isV (vC c),isV (vC c),isV (vC (onlyC c)),isV (.bool false)]) (MonoL.cons (Mono.v _) (MonoL.cons (Mono.v _) (MonoL.cons (Mono.v _) (MonoL.cons (Mono.v _) MonoL.nil)))) ?_ ?_
 ·intro i hi
  have hi2:i=2∨i=0∨i=1∨i=3:=by simp only[List.size_toArray,List.length_cons,List.length_nil] at hi;omega
  clear hi
  rcases hi2 with rfl|rfl|rfl|rfl
  ·refine AnyO.S rfl [1] ?_;intro vs u hE hp ac hb K hK
   have s15:_=_:=AnyO.sw 15 1 hb hp
   go_simp
   go_at_call 81
   refine (only50 c HV.out.1 HV.out.2 u).mono ?_
   rintro e w2 ⟨rfl,hb2⟩
   exact hK _ _ hb2 rfl
  all_goals
   refine AnyO.T rfl ?_;intro vs u hE hp ac hb K hK
   try have s1:ac.tmps[1]?.getD undef=.pointer (some ⟨b,0,none⟩):=by rw[hb.out];kernel_rfl
   try have s14:_=_:=AnyO.sw 14 0 hb hp
   try have s16:_=_:=AnyO.sw 16 2 hb hp
   have rr1_0:=okC (HR1.out.keep (Below.step (below_drew _) hE))
   have rr2_0:=rdC (HR1.out.keep (Below.step (below_drew _) hE))
   have rr_1:=HEQ.out
   go_simp;exact hK _ _ (Below.refl _ _) rfl
 ·intro vs u hE hp
  have e0:_=_:=hp 0 (by decide)
  have e1:_=_:=hp 1 (by decide)
  have e2:_=_:=hp 2 (by decide)
  have e3:_=_:=hp 3 (by decide)
  clear hp
  have HE:=Lib.hid hE
  clear hE
  rw[puts_range [some 14,some 15,some 16,some 17] (by kernel_rfl)]
  simp only[putL,Nat.reduceAdd,e0,e1,e2,e3]
  clear e0 e1 e2 e3
  go_simp
  have HRU:=Lib.hid (HR1.out.keep HE.out)
  have HBU:=Lib.hid (show Below w.heap.size w u from Below.trans HB1.out (HE.out.mono HB1.out.size))
  clear c0 hbx hW1
  have k0:u.cell? ⟨b,0,none⟩=some (.int .i64 8):=by rw[← HV2.out];exact HRU.out.cell 0
  obtain⟨i1,i2⟩:=HRU.out.idC
  have k35:u.cell? ⟨b,35,none⟩=some (.int .i64 0):=((HRU.out.cell 35).trans (cC_at (aC_35 c))).trans (by have h:=congrArg Cm.from_ HO.out;unfold onlyC at h;simp only[HV2.out] at h;rw[h];rfl)
  by_cases h0:c.id=zI
  ·have HC:=Lib.hid (show chk c=1 by rw[HCV.out,if_pos h0])
   have q0:decide (c.id=zI)=true:=decide_eq_true h0
   go_wp2
   go_ret
   exact⟨by rw[HC.out];rfl,HBU.out⟩
  have q0:decide (c.id=zI)=false:=decide_eq_false h0
  have HC:=Lib.hid (show chk c=0 by rw[HCV.out,if_neg h0])
  go_wp2
  go_ret
  exact⟨by rw[HC.out];rfl,HBU.out⟩
theorem refCheck_v9 (c:Cm) (hv:c.verb=9) (ho:c=onlyC c) (hn:c.name.size≤1000000) (ht:c.text.size≤1000000) (w:World):Calls Tryz.prog 72 #[vC c] w (RchkP c w):=by
 obtain⟨b,hb⟩:∃ b,w.heap.size=b:=⟨_,rfl⟩
 have HB1:=Lib.hid (below_alloc w (.cells (aC c) 35))
 have HR1:=Lib.hid (show Row (w.alloc (.cells (aC c) 35)) b (cC c) 35 by rw[← hb];exact Row.new w (cC c) 35)
 obtain⟨W1,hW1⟩:∃ W1,w.alloc (.cells (aC c) 35)=W1:=⟨_,rfl⟩
 rw[hW1] at HB1 HR1
 have hbx:(bxA 35 (vC c)).run Tryz.prog w=.ok (.pointer (some ⟨b,0,none⟩)) W1:=by rw[run_bx35,hW1,hb]
 have HCV:=Lib.hid (chk_v9 c hv ho)
 have HEQ:=Lib.hid (show decide (c=onlyC c)=true from decide_eq_true ho)
 have HV:=Lib.hid (show 1≤c.verb∧c.verb≤11 by omega)
 have HV2:=Lib.hid hv
 have HO:=Lib.hid ho
 have c0:W1.cell? ⟨b,0,none⟩=some (.int .i64 9):=by rw[← hv];exact HR1.out.cell 0
 have HN:=Lib.hid (And.intro hn ht)
 clear hv ho hn ht
 go_enter Tryz.func72,Tryz.ntmps72
 go_wp2
 refine AnyO.wp_any (by kernel_rfl) (by kernel_rfl) (pstP [isV (vC c),isV (vC c),isV (vC (onlyC c)),isV (.bool false)]) (MonoL.cons (Mono.v _) (MonoL.cons (Mono.v _) (MonoL.cons (Mono.v _) (MonoL.cons (Mono.v _) MonoL.nil)))) ?_ ?_
 ·intro i hi
  have hi2:i=2∨i=0∨i=1∨i=3:=by simp only[List.size_toArray,List.length_cons,List.length_nil] at hi;omega
  clear hi
  rcases hi2 with rfl|rfl|rfl|rfl
  ·refine AnyO.S rfl [1] ?_;intro vs u hE hp ac hb K hK
   have s15:_=_:=AnyO.sw 15 1 hb hp
   go_simp
   go_at_call 81
   refine (only50 c HV.out.1 HV.out.2 u).mono ?_
   rintro e w2 ⟨rfl,hb2⟩
   exact hK _ _ hb2 rfl
  all_goals
   refine AnyO.T rfl ?_;intro vs u hE hp ac hb K hK
   try have s1:ac.tmps[1]?.getD undef=.pointer (some ⟨b,0,none⟩):=by rw[hb.out];kernel_rfl
   try have s14:_=_:=AnyO.sw 14 0 hb hp
   try have s16:_=_:=AnyO.sw 16 2 hb hp
   have rr1_0:=okC (HR1.out.keep (Below.step (below_drew _) hE))
   have rr2_0:=rdC (HR1.out.keep (Below.step (below_drew _) hE))
   have rr_1:=HEQ.out
   go_simp;exact hK _ _ (Below.refl _ _) rfl
 ·intro vs u hE hp
  have e0:_=_:=hp 0 (by decide)
  have e1:_=_:=hp 1 (by decide)
  have e2:_=_:=hp 2 (by decide)
  have e3:_=_:=hp 3 (by decide)
  clear hp
  have HE:=Lib.hid hE
  clear hE
  rw[puts_range [some 14,some 15,some 16,some 17] (by kernel_rfl)]
  simp only[putL,Nat.reduceAdd,e0,e1,e2,e3]
  clear e0 e1 e2 e3
  go_simp
  have HRU:=Lib.hid (HR1.out.keep HE.out)
  have HBU:=Lib.hid (show Below w.heap.size w u from Below.trans HB1.out (HE.out.mono HB1.out.size))
  clear c0 hbx hW1
  have k0:u.cell? ⟨b,0,none⟩=some (.int .i64 9):=by rw[← HV2.out];exact HRU.out.cell 0
  obtain⟨i1,i2⟩:=HRU.out.idC
  have k35:u.cell? ⟨b,35,none⟩=some (.int .i64 0):=((HRU.out.cell 35).trans (cC_at (aC_35 c))).trans (by have h:=congrArg Cm.from_ HO.out;unfold onlyC at h;simp only[HV2.out] at h;rw[h];rfl)
  by_cases h0:c.id=zI
  ·have HC:=Lib.hid (show chk c=1 by rw[HCV.out,if_pos h0])
   have q0:decide (c.id=zI)=true:=decide_eq_true h0
   go_wp2
   go_ret
   exact⟨by rw[HC.out];rfl,HBU.out⟩
  have q0:decide (c.id=zI)=false:=decide_eq_false h0
  have HC:=Lib.hid (show chk c=0 by rw[HCV.out,if_neg h0])
  go_wp2
  go_ret
  exact⟨by rw[HC.out];rfl,HBU.out⟩
theorem refCheck_v10 (c:Cm) (hv:c.verb=10) (ho:c=onlyC c) (hn:c.name.size≤1000000) (ht:c.text.size≤1000000) (w:World):Calls Tryz.prog 72 #[vC c] w (RchkP c w):=by
 obtain⟨b,hb⟩:∃ b,w.heap.size=b:=⟨_,rfl⟩
 have HB1:=Lib.hid (below_alloc w (.cells (aC c) 35))
 have HR1:=Lib.hid (show Row (w.alloc (.cells (aC c) 35)) b (cC c) 35 by rw[← hb];exact Row.new w (cC c) 35)
 obtain⟨W1,hW1⟩:∃ W1,w.alloc (.cells (aC c) 35)=W1:=⟨_,rfl⟩
 rw[hW1] at HB1 HR1
 have hbx:(bxA 35 (vC c)).run Tryz.prog w=.ok (.pointer (some ⟨b,0,none⟩)) W1:=by rw[run_bx35,hW1,hb]
 have HCV:=Lib.hid (chk_v10 c hv ho)
 have HEQ:=Lib.hid (show decide (c=onlyC c)=true from decide_eq_true ho)
 have HV:=Lib.hid (show 1≤c.verb∧c.verb≤11 by omega)
 have HV2:=Lib.hid hv
 have HO:=Lib.hid ho
 have c0:W1.cell? ⟨b,0,none⟩=some (.int .i64 10):=by rw[← hv];exact HR1.out.cell 0
 have HN:=Lib.hid (And.intro hn ht)
 clear hv ho hn ht
 go_enter Tryz.func72,Tryz.ntmps72
 go_wp2
 refine AnyO.wp_any (by kernel_rfl) (by kernel_rfl) (pstP [isV (vC c),isV (vC c),isV (vC (onlyC c)),isV (.bool false)]) (MonoL.cons (Mono.v _) (MonoL.cons (Mono.v _) (MonoL.cons (Mono.v _) (MonoL.cons (Mono.v _) MonoL.nil)))) ?_ ?_
 ·intro i hi
  have hi2:i=2∨i=0∨i=1∨i=3:=by simp only[List.size_toArray,List.length_cons,List.length_nil] at hi;omega
  clear hi
  rcases hi2 with rfl|rfl|rfl|rfl
  ·refine AnyO.S rfl [1] ?_;intro vs u hE hp ac hb K hK
   have s15:_=_:=AnyO.sw 15 1 hb hp
   go_simp
   go_at_call 81
   refine (only50 c HV.out.1 HV.out.2 u).mono ?_
   rintro e w2 ⟨rfl,hb2⟩
   exact hK _ _ hb2 rfl
  all_goals
   refine AnyO.T rfl ?_;intro vs u hE hp ac hb K hK
   try have s1:ac.tmps[1]?.getD undef=.pointer (some ⟨b,0,none⟩):=by rw[hb.out];kernel_rfl
   try have s14:_=_:=AnyO.sw 14 0 hb hp
   try have s16:_=_:=AnyO.sw 16 2 hb hp
   have rr1_0:=okC (HR1.out.keep (Below.step (below_drew _) hE))
   have rr2_0:=rdC (HR1.out.keep (Below.step (below_drew _) hE))
   have rr_1:=HEQ.out
   go_simp;exact hK _ _ (Below.refl _ _) rfl
 ·intro vs u hE hp
  have e0:_=_:=hp 0 (by decide)
  have e1:_=_:=hp 1 (by decide)
  have e2:_=_:=hp 2 (by decide)
  have e3:_=_:=hp 3 (by decide)
  clear hp
  have HE:=Lib.hid hE
  clear hE
  rw[puts_range [some 14,some 15,some 16,some 17] (by kernel_rfl)]
  simp only[putL,Nat.reduceAdd,e0,e1,e2,e3]
  clear e0 e1 e2 e3
  go_simp
  have HRU:=Lib.hid (HR1.out.keep HE.out)
  have HBU:=Lib.hid (show Below w.heap.size w u from Below.trans HB1.out (HE.out.mono HB1.out.size))
  clear c0 hbx hW1
  have k0:u.cell? ⟨b,0,none⟩=some (.int .i64 10):=by rw[← HV2.out];exact HRU.out.cell 0
  have k35:u.cell? ⟨b,35,none⟩=some (.int .i64 0):=((HRU.out.cell 35).trans (cC_at (aC_35 c))).trans (by have h:=congrArg Cm.from_ HO.out;unfold onlyC at h;simp only[HV2.out] at h;rw[h];rfl)
  have k38:u.cell? ⟨b,38,none⟩=some (.string c.text):=(HRU.out.cell 38).trans (cC_at (aC_38 c))
  have H45:=Lib.hid (fun w1=>(has45 c.text 13 w1 (by have:=HN.out.2;omega)))
  rw[show (((13:UInt8).toNat:Nat):Int)=13 from rfl] at H45
  by_cases h0:c.text=⟨#[]⟩
  ·have HC:=Lib.hid (show chk c=1 by rw[HCV.out,if_pos h0])
   have q1:c.text.toList.isEmpty=true:=by rw[isEd,decide_eq_true h0]
   go_wp2
   go_ret
   exact⟨by rw[HC.out];rfl,HBU.out⟩
  have q1:c.text.toList.isEmpty=false:=by rw[isEd,decide_eq_false h0]
  by_cases h1:262144<c.text.size
  ·have HC:=Lib.hid (show chk c=5 by rw[HCV.out,if_neg h0,if_pos h1])
   have q2:(262144:Int)<(c.text.size:Int):=by omega
   go_wp2
   go_ret
   exact⟨by rw[HC.out];rfl,HBU.out⟩
  have q2:¬ (262144:Int)<(c.text.size:Int):=by omega
  by_cases h2:hasB c.text 13=true
  ·have HC:=Lib.hid (show chk c=6 by rw[HCV.out,if_neg h0,if_neg h1,if_pos h2])
   have q3:=h2
   go_wp2_with (go_at_call 83;refine (H45.out _).mono ?_;rintro e w2 ⟨rfl,rfl⟩)
   go_ret
   exact⟨by rw[HC.out];rfl,HBU.out⟩
  have q3:hasB c.text 13=false:=Bool.eq_false_iff.2 h2
  have HC:=Lib.hid (show chk c=0 by rw[HCV.out,if_neg h0,if_neg h1,if_neg h2])
  go_wp2_with (go_at_call 83;refine (H45.out _).mono ?_;rintro e w2 ⟨rfl,rfl⟩)
  go_ret
  exact⟨by rw[HC.out];rfl,HBU.out⟩
theorem refCheck_v11 (c:Cm) (hv:c.verb=11) (ho:c=onlyC c) (hn:c.name.size≤1000000) (ht:c.text.size≤1000000) (w:World):Calls Tryz.prog 72 #[vC c] w (RchkP c w):=by
 obtain⟨b,hb⟩:∃ b,w.heap.size=b:=⟨_,rfl⟩
 have HB1:=Lib.hid (below_alloc w (.cells (aC c) 35))
 have HR1:=Lib.hid (show Row (w.alloc (.cells (aC c) 35)) b (cC c) 35 by rw[← hb];exact Row.new w (cC c) 35)
 obtain⟨W1,hW1⟩:∃ W1,w.alloc (.cells (aC c) 35)=W1:=⟨_,rfl⟩
 rw[hW1] at HB1 HR1
 have hbx:(bxA 35 (vC c)).run Tryz.prog w=.ok (.pointer (some ⟨b,0,none⟩)) W1:=by rw[run_bx35,hW1,hb]
 have HCV:=Lib.hid (chk_v11 c hv ho)
 have HEQ:=Lib.hid (show decide (c=onlyC c)=true from decide_eq_true ho)
 have HV:=Lib.hid (show 1≤c.verb∧c.verb≤11 by omega)
 have HV2:=Lib.hid hv
 have HO:=Lib.hid ho
 have c0:W1.cell? ⟨b,0,none⟩=some (.int .i64 11):=by rw[← hv];exact HR1.out.cell 0
 have HN:=Lib.hid (And.intro hn ht)
 clear hv ho hn ht
 go_enter Tryz.func72,Tryz.ntmps72
 go_wp2
 refine AnyO.wp_any (by kernel_rfl) (by kernel_rfl) (pstP [isV (vC c),isV (vC c),isV (vC (onlyC c)),isV (.bool false)]) (MonoL.cons (Mono.v _) (MonoL.cons (Mono.v _) (MonoL.cons (Mono.v _) (MonoL.cons (Mono.v _) MonoL.nil)))) ?_ ?_
 ·intro i hi
  have hi2:i=2∨i=0∨i=1∨i=3:=by simp only[List.size_toArray,List.length_cons,List.length_nil] at hi;omega
  clear hi
  rcases hi2 with rfl|rfl|rfl|rfl
  ·refine AnyO.S rfl [1] ?_;intro vs u hE hp ac hb K hK
   have s15:_=_:=AnyO.sw 15 1 hb hp
   go_simp
   go_at_call 81
   refine (only50 c HV.out.1 HV.out.2 u).mono ?_
   rintro e w2 ⟨rfl,hb2⟩
   exact hK _ _ hb2 rfl
  all_goals
   refine AnyO.T rfl ?_;intro vs u hE hp ac hb K hK
   try have s1:ac.tmps[1]?.getD undef=.pointer (some ⟨b,0,none⟩):=by rw[hb.out];kernel_rfl
   try have s14:_=_:=AnyO.sw 14 0 hb hp
   try have s16:_=_:=AnyO.sw 16 2 hb hp
   have rr1_0:=okC (HR1.out.keep (Below.step (below_drew _) hE))
   have rr2_0:=rdC (HR1.out.keep (Below.step (below_drew _) hE))
   have rr_1:=HEQ.out
   go_simp;exact hK _ _ (Below.refl _ _) rfl
 ·intro vs u hE hp
  have e0:_=_:=hp 0 (by decide)
  have e1:_=_:=hp 1 (by decide)
  have e2:_=_:=hp 2 (by decide)
  have e3:_=_:=hp 3 (by decide)
  clear hp
  have HE:=Lib.hid hE
  clear hE
  rw[puts_range [some 14,some 15,some 16,some 17] (by kernel_rfl)]
  simp only[putL,Nat.reduceAdd,e0,e1,e2,e3]
  clear e0 e1 e2 e3
  go_simp
  have HRU:=Lib.hid (HR1.out.keep HE.out)
  have HBU:=Lib.hid (show Below w.heap.size w u from Below.trans HB1.out (HE.out.mono HB1.out.size))
  clear c0 hbx hW1
  have k0:u.cell? ⟨b,0,none⟩=some (.int .i64 11):=by rw[← HV2.out];exact HRU.out.cell 0
  have k35:u.cell? ⟨b,35,none⟩=some (.int .i64 0):=((HRU.out.cell 35).trans (cC_at (aC_35 c))).trans (by have h:=congrArg Cm.from_ HO.out;unfold onlyC at h;simp only[HV2.out] at h;rw[h];rfl)
  have HC:=Lib.hid (show chk c=0 by rw[HCV.out])
  go_wp2
  go_ret
  exact⟨by rw[HC.out];rfl,HBU.out⟩
end
theorem refCheck22 (c:Cm) (w:World) (hn:c.name.size≤1000000) (ht:c.text.size≤1000000):Calls Tryz.prog 72 #[vC c] w (RchkP c w):=by
 by_cases hv:c.verb<1∨11<c.verb
 ·exact refCheck_out c hv w
 by_cases ho:c=onlyC c
 case neg=>exact refCheck_ne c (by omega) (by omega) ho w
 have h:c.verb=1∨c.verb=2∨c.verb=3∨c.verb=4∨c.verb=5∨c.verb=6∨c.verb=7∨c.verb=8∨c.verb=9∨c.verb=10∨c.verb=11:=by omega
 rcases h with h|h|h|h|h|h|h|h|h|h|h
 ·exact refCheck_v1 c h ho hn ht w
 ·exact refCheck_v2 c h ho hn ht w
 ·exact refCheck_v3 c h ho hn ht w
 ·exact refCheck_v4 c h ho hn ht w
 ·exact refCheck_v5 c h ho hn ht w
 ·exact refCheck_v6 c h ho hn ht w
 ·exact refCheck_v7 c h ho hn ht w
 ·exact refCheck_v8 c h ho hn ht w
 ·exact refCheck_v9 c h ho hn ht w
 ·exact refCheck_v10 c h ho hn ht w
 ·exact refCheck_v11 c h ho hn ht w
end Go.Proofs.YtgojaelkdpabkaaGreatDoor
