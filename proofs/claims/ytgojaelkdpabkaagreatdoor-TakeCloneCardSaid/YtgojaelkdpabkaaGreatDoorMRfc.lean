/- The reference's changed, Forget. -/
import Derived.Test.YtgojaelkdpabkaaGreatDoorMRf1
import Derived.Test.YtgojaelkdpabkaaGreatDoorMAcc
namespace Go.Proofs.YtgojaelkdpabkaaGreatDoor
open Go.RowKit
theorem withoutI_eq {l:List Pt} {x:Id} (hnd:(l.map Pt.id).Nodup):withoutI l (idxL l x)=withoutL l x:=by
 cases hp:posL l x with
 | none =>
  rw[idx_none hp,without_none hp]
  rfl
 | some k =>
  obtain⟨hk,hid,hno⟩:=pos_some hp
  rw[idx_some hp]
  unfold withoutI withoutL
  rw[if_neg (by omega),Int.toNat_natCast]
  have hl:l=l.take k++l[k] :: l.drop (k+1):=by rw[← List.drop_eq_getElem_cons hk,List.take_append_drop]
  have hnd2:=hnd
  rw[hl,List.map_append,List.nodup_append] at hnd2
  obtain⟨_,h2,h3⟩:=hnd2
  rw[List.map_cons,List.nodup_cons] at h2
  conv=>rhs;rw[hl]
  rw[List.filter_append,List.filter_cons,if_neg (by unfold noId;simp[hid])]
  congr 1
  ·symm
   rw[List.filter_eq_self]
   intro p hp2
   unfold noId
   have h5:=h3 p.id (List.mem_map_of_mem hp2) l[k].id (by rw[List.map_cons];exact List.mem_cons_self)
   simpa[hid] using h5
  ·symm
   rw[List.filter_eq_self]
   intro p hp2
   unfold noId
   have h5:p.id≠l[k].id:=fun e=>h2.1 (e▸List.mem_map_of_mem hp2)
   simpa[hid] using h5
theorem keepL_eq {l:List Pt} {a:Pt} (hnd:(l.map Pt.id).Nodup):keepL l a=keepP l a:=by
 unfold keepL keepP
 split
 ·rfl
 ·unfold keepR keepQ
  rw[withoutI_eq hnd]
set_option maxRecDepth 100000 in
set_option maxHeartbeats 1600000 in
theorem refForget59 (F:List Nat) (s:Tk) (r:Rt) (x:Id) (w:World) (h:RfAt F s r w) (hF:∀ k∈F,k<w.heap.size) (hk8:s.kept.length≤1000000) (hnd:(s.kept.map Pt.id).Nodup) :
  Calls Tryz.prog 59 #[vT r,vI x] w (RfP F (forgetT s x).1 (.bool (forgetT s x).2) w):=by
 obtain⟨g,W1,m,W2,r0,W3,G,hg,hW1,hm,hW2,hr0,hW3,hrm,hmF,hmg,hmr,hmG,hB⟩:=BxT.new2 h hF (cI x) 29
 have hW2':W1.alloc (.cells (aI x) 29)=W2:=hW2
 clear hW2
 have j3:=hB.ck
 have q:=Row.okw hrm (cI_length x)
 have q1:=q.1
 have q2:rdA W3 ⟨m,0,none⟩ 32=vI x:=q.2
 have HB:=Lib.hid hB
 have HI:=Lib.hid (idx_lt s.kept x)
 have HE:=Lib.hid (And.intro hk8 hnd)
 have HSZ:=Lib.hid (show s.kept.length≤r.kept.2.2 by rw[h.kept.1];exact h.kept.2.1)
 have HM:=Lib.hid (And.intro hrm hmG)
 clear q hrm hmF hmg hmr hmG hB h hF hk8 hnd
 obtain⟨i,hi⟩:∃ i,idxL s.kept x=i:=⟨_,rfl⟩
 have HII:=Lib.hid hi
 have HW:=Lib.hid (withoutI_eq HE.out.2 (x:=x))
 obtain⟨o,ho⟩:∃ o,(forgetT s x).2=o:=⟨_,rfl⟩
 have hio:decide (0≤i)=o:=by
  rw[← ho,← hi]
  unfold forgetT
  cases hp:posL s.kept x with
  | none=>rw[idx_none hp];rfl
  | some k=>rw[idx_some hp];exact decide_eq_true (by omega)
 have hs:(forgetT s x).1={ s with kept:=withoutL s.kept x }:=by
  unfold forgetT
  cases hp:posL s.kept x with
  | none=>rw[without_none hp]
  | some k=>rfl
 rw[ho,hs]
 have HIO:=Lib.hid hio
 clear hi ho hs hio
 go_enter Tryz.func59,Tryz.ntmps59
 go_wp2_with (first
  | (go_at_call 73;refine (refWithout73 r.kept.1 r.kept.2.2 s.kept i w4 H4.out.rf.kept.2.2.1 HSZ.out HE.out.1 (by rw[← HII.out];exact HI.out.1) (by rw[← HII.out];exact HI.out.2)).mono ?_;rw[← HII.out,HW.out];rintro e w5 ⟨A',c',rfl,ho5,hb5⟩;obtain⟨n5,hn5⟩:∃ n5,(withoutL s.kept x).length=n5:=⟨_,rfl⟩;rw[hn5] at ho5 ⊢;obtain⟨f5,hB5⟩:=H4.out.setKF (SlF.ofOwn ho5 H4.out.lt) hb5;obtain⟨W6,hW6⟩:∃ W6,w5.setCell ⟨g,3,none⟩ (.slice A' n5 c')=W6:=⟨_,rfl⟩;rw[hW6] at hB5;obtain⟨l61,l62,ro6⟩:=hB5.ld;have j50:w5.cell? ⟨g,3,none⟩=some (.slice r.kept.1 s.kept.length r.kept.2.2):=(H4.out.keep hb5).ck;have H6:=Lib.hid hB5;rw[HII.out];clear ho5 hb5 hB5 hn5)
  | (go_at_call 49;refine (refFind49 r.kept.1 r.kept.2.2 s.kept x W3 HB.out.rf.kept.2.2.1 HE.out.1).mono ?_;rw[HII.out];rintro e w4 ⟨rfl,hb4⟩;have hB4:=HB.out.keep hb4;have j31:=hB4.ck;have H4:=Lib.hid hB4;clear hb4 hB4))
 rw[HIO.out]
 trace_state
 exact bodyPost_ret (v:=.tuple #[vT ⟨r.win,r.opn,r.act,(A',n5,c')⟩,.bool o]) (results_c2 (ad:=⟨r0,0,none⟩) rfl rfl (ld_setRowT _ ro6) (by rw[← HIO.out];rfl)) rfl ⟨_,rfl,H6.out.fin⟩
open Go.RowKit
theorem refA_store {w:World} {base:Nat} {n g0 c0:Nat} {ys:List Pt} (h:Own w base 98 35 cA (.slice (some ⟨g0,0,none⟩) n c0) ys) (i:Nat) (hi:i<ys.length) (p:Pt) :
  ∃ W,(stA 98 (.pointer (some ⟨g0,i * 35,none⟩)) (vA p)).run Tryz.prog w=.ok () W∧Own W base 98 35 cA (.slice (some ⟨g0,0,none⟩) n c0) (ys.set i p)∧One g0 w W:=by
 obtain⟨g',c',e',_,_,h1,h2,h3⟩:=Own.store h cA_length i hi p
 cases e'
 exact⟨_,run_stA_off w 98 g0 (i * 35) (cA p) 35 h1 (by kernel_rfl) (cA_length p) (cA_one p),h2,h3⟩
theorem BxT.actSet {F G:List Nat} {s s5:Tk} {r r':Rt} {w W3 W5 W6:World} {g r0 g4:Nat} {l':List Pt} (h3:BxT F s r w g r0 G W3) (h5:BxT F s5 r' w g r0 G W5) (h35:One g W3 W5) (o:One g4 W5 W6) (hg4:W3.heap.size≤g4) (hs:SlF G W6 cA r'.act l') (hk:r'.kept=r.kept) (hw:r'.win=r.win) (ho:r'.opn=r.opn) :
  BxT F { s with act:=l' } r' w g r0 G W6:=by
 have hn:∀ k∈G,k≠g4:=fun k hk e=>by have:=h3.lt k hk;omega
 have h36:∀ k,k<W3.heap.size→k≠g→W6.heap[k]? = W3.heap[k]?:=fun k hk hkg=>(o.out k (Nat.lt_of_lt_of_le hk h35.size) (by omega)).trans (h35.out k hk hkg)
 refine⟨⟨hw.trans h3.rf.win,ho.trans h3.rf.opn,hs,?_⟩,h5.rg.same (o.out g h5.rg.lt (hn g h3.gG)),h5.rr.same (o.out r0 h5.rr.lt (hn r0 h3.rG)),h3.gG,h3.rG,h3.FG,fun k hk=>Nat.lt_of_lt_of_le (h5.lt k hk) o.size,?_,h3.le,h3.ge,h3.ne⟩
 ·rw[hk]
  exact h3.rf.kept.same (Nat.le_trans h35.size o.size) (fun k hk hnn=>h36 k hk (fun e=>hnn (e▸h3.gG)))
 ·have hk6:Kp [g4] [g4] W5 W6:=Kp.one o (List.mem_singleton.2 rfl)
  exact Below.trans h5.bl (hk6.below (fun j hj=>by rw[List.mem_singleton.1 hj];exact Nat.le_trans h3.bl.size hg4) h5.bl.size)
set_option maxRecDepth 100000 in
set_option maxHeartbeats 1600000 in
theorem refChanged74 (F:List Nat) (s:Tk) (r:Rt) (k:Nat) (a:Pt) (w:World) (h:RfAt F s r w) (hF:∀ k∈F,k<w.heap.size) (hk:k<s.act.length) (hn:s.act.length≤100) :
  Calls Tryz.prog 74 #[vT r,.int .i64 k,vA a] w fun e w'=>∃ r',e=.returned (vT r')∧RfAt F { s with act:=s.act.set k a } r' w'∧Below w.heap.size w w':=by
 obtain⟨g,W1,m,W2,r0,W3,G,hg,hW1,hm,hW2,hr0,hW3,hrm,hmF,hmg,hmr,hmG,hB⟩:=BxT.new2 h hF (cA a) 98
 have hW2':W1.alloc (.cells (aA a) 98)=W2:=hW2
 clear hW2
 have jc:=hB.ca
 have HB:=Lib.hid hB
 have HM:=Lib.hid (And.intro hrm (And.intro hmG (show m<W3.heap.size from hrm.lt)))
 obtain⟨n,hnn⟩:∃ n,s.act.length=n:=⟨_,rfl⟩
 rw[hnn] at hk hn jc
 have HN:=Lib.hid hnn
 have jc2:(W3.alloc (.cells (aAs []) 98)).cell? ⟨g,2,none⟩=some (.slice r.act.1 n r.act.2.2):=cell_below jc (below_alloc _ _)
 clear hrm hmF hmg hmr hmG hB h hF hnn
 go_enter Tryz.func74,Tryz.ntmps74
 go_wp2_with (at_builtin;refine wpList_append_sl _ rfl (.tmp 7) (.tmp 9) 58 rfl W3.heap.size 98 35 64 cA underRAs rowRA (by decide) cA_length cA_one _ [] rfl (Own.new0 W3 W3.heap.size _ 35 cA cA_length (Nat.le_refl _)) r.act.1 n r.act.2.2 s.act HN.out rfl (HB.out.rf.act.2.2.1.keep (below_alloc _ _)) (by simp;omega) (by simp;omega) (below_alloc W3 (.cells (aAs []) 98)).size ?_)
 intro v4 w4 ho4 hg4
 have hb4:=Own.grew (Own.new0 W3 W3.heap.size 98 35 cA cA_length (Nat.le_refl _)) hg4 (below_alloc W3 _) (Nat.le_refl _) (below_alloc W3 _).size
 rcases ho4.rowOf with⟨_,h0⟩|⟨g4,c4,cs4,rfl,hbg, -,hc4, -, -, -⟩
 ·have:=HN.out
  rw[h0] at this
  simp at this
  omega
 rw[HN.out] at ho4 hc4 ⊢
 have hB4:=HB.out.keep hb4
 obtain⟨f4,hB5⟩:=HB.out.setAF (v:=(some ⟨g4,0,none⟩,n,c4)) (l':=s.act) (SlF.ofOwn ho4 HB.out.lt) hb4
 have k4:=hB4.ca
 have ho35:One g w4 (w4.setCell ⟨g,2,none⟩ (.slice (some ⟨g4,0,none⟩) n c4)):=One.set 2 _
 obtain⟨W5,hW5⟩:∃ W5,w4.setCell ⟨g,2,none⟩ (.slice (some ⟨g4,0,none⟩) n c4)=W5:=⟨_,rfl⟩
 rw[hW5] at hB5 ho35
 have hne:g4≠g:=fun e=>by have:=HB.out.lt g HB.out.gG;omega
 have ho5:Own W5 W3.heap.size 98 35 cA (.slice (some ⟨g4,0,none⟩) n c4) s.act:=ho4.same (fun q e=>by
  cases e
  exact ho35.out g4 (Own.lt ho4 g4 rfl).2 hne)
 obtain⟨W6,st6,ho6,o6⟩:=refA_store ho5 k (by rw[HN.out];exact hk) a
 have h35:One g W3 W5:=(One.of_below hb4).trans ho35
 have hB6:=BxT.actSet (r':=⟨r.win,r.opn,(some ⟨g4,0,none⟩,n,c4),r.kept⟩) HB.out hB5 h35 o6 hbg (SlF.ofOwn ho6 HB.out.lt) rfl rfl rfl
 obtain⟨l61,l62,ro6⟩:=hB6.ld
 have k5:W5.cell? ⟨g,2,none⟩=some (.slice (some ⟨g4,0,none⟩) n c4):=hB5.rg.cell 2
 have qm:=Row.okw ((h35.row HM.out.1 (fun e=>HM.out.2.1 (e▸HB.out.gG)))) (cA_length a)
 have qm1:=qm.1
 have qm2:rdA W5 ⟨m,0,none⟩ 35=vA a:=qm.2
 have hk1:(k:Int)<(n:Int):=by omega
 have H6:=Lib.hid hB6
 clear hb4 hB4 hB5 ho35 ho5 ho6 o6 h35 hB6 qm ho4 hg4 hne hbg hc4
 go_wp2
 exact bodyPost_ret (v:=vT ⟨r.win,r.opn,(some ⟨g4,0,none⟩,n,c4),r.kept⟩) (results_c1 (ad:=⟨r0,0,none⟩) rfl rfl (ld_setRowT _ ro6)) rfl ⟨_,rfl,H6.out.fin⟩
end Go.Proofs.YtgojaelkdpabkaaGreatDoor
