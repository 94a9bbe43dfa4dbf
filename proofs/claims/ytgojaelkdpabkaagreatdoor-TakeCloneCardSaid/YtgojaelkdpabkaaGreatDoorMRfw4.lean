/- The reference's Answer: refusals, and what is not wanted. -/
import Derived.Test.YtgojaelkdpabkaaGreatDoorMRf3
import Derived.Test.YtgojaelkdpabkaaGreatDoorMAns
namespace Go.Proofs.YtgojaelkdpabkaaGreatDoor
open Go.RowKit
section
set_option maxRecDepth 100000
set_option maxHeartbeats 3200000
theorem refAnswer_bad (F:List Nat) (s:Tk) (r:Rt) (c:Cm) (w:World) (h:RfAt F s r w) (hF:∀ k∈F,k<w.heap.size) (hn:c.name.size≤1000000) (ht:c.text.size≤1000000) (ha:s.act.length≤100) (hk8:s.kept.length≤100) (hnd:(s.act.map Pt.id).Nodup) (hndk:(s.kept.map Pt.id).Nodup) (hc:chk c≠0) :
  Calls Tryz.prog 56 #[vT r,vC c] w (RfP F s (.int .i64 (chk c)) w):=by
 have HN:=Lib.hid (And.intro hn ht)
 have HND:=Lib.hid (And.intro hnd hndk)
 have HCA:=Lib.hid (show s.act.length≤r.act.2.2 by rw[h.act.1];exact h.act.2.1)
 have HCK:=Lib.hid (show s.kept.length≤r.kept.2.2 by rw[h.kept.1];exact h.kept.2.1)
 obtain⟨g,W1,m,W2,r0,W3,G,hg,hW1,hm,hW2,hr0,hW3,hB⟩:=BxH.new h hF c
 obtain⟨-, -, -, -, -, -,c6,c7⟩:=hB.cmd
 have HB:=Lib.hid hB
 clear hB h hF hn ht hnd hndk
 have q1:(chk c != 0)=true:=by simpa using hc
 obtain⟨n0,hn0⟩:∃ n0,chk c=n0:=⟨_,rfl⟩
 have HC:=Lib.hid hn0
 rw[hn0] at q1 ⊢
 clear hc hn0
 go_enter Tryz.func56,Tryz.ntmps56
 go_wp2_with (first
  | (go_at_call 72;refine (refCheck22 c W3 HN.out.1 HN.out.2).mono ?_;rintro e w4 ⟨rfl,hb4⟩;rw[HC.out];have hB4:=HB.out.keep hb4;obtain⟨l41,l42,ro4⟩:=hB4.t.ld;obtain⟨d0,d1,d2,d3,d4,d5, -, -⟩:=hB4.cmd;have ja4:=hB4.t.ca;have jk4:=hB4.t.ck;have H4:=Lib.hid hB4;clear hb4 hB4))
 exact bodyPost_ret (v:=.tuple #[vT r,.int .i64 n0]) (results_c2 (ad:=⟨r0,0,none⟩) rfl rfl (ld_setRowT _ ro4) rfl) rfl ⟨_,rfl,H4.out.t.fin⟩
theorem refAnswer_kind (F:List Nat) (s:Tk) (r:Rt) (c:Cm) (w:World) (h:RfAt F s r w) (hF:∀ k∈F,k<w.heap.size) (hn:c.name.size≤1000000) (ht:c.text.size≤1000000) (ha:s.act.length≤100) (hk8:s.kept.length≤100) (hnd:(s.act.map Pt.id).Nodup) (hndk:(s.kept.map Pt.id).Nodup) (hc:chk c=0) (hv:c.verb<3∨6<c.verb) :
  Calls Tryz.prog 56 #[vT r,vC c] w (RfP F s (.int .i64 11) w):=by
 have HN:=Lib.hid (And.intro hn ht)
 have HND:=Lib.hid (And.intro hnd hndk)
 have HCA:=Lib.hid (show s.act.length≤r.act.2.2 by rw[h.act.1];exact h.act.2.1)
 have HCK:=Lib.hid (show s.kept.length≤r.kept.2.2 by rw[h.kept.1];exact h.kept.2.1)
 obtain⟨g,W1,m,W2,r0,W3,G,hg,hW1,hm,hW2,hr0,hW3,hB⟩:=BxH.new h hF c
 obtain⟨-, -, -, -, -, -,c6,c7⟩:=hB.cmd
 have HB:=Lib.hid hB
 clear hB h hF hn ht hnd hndk
 have HC:=Lib.hid hc
 clear hc
 rcases hv with hv|hv
 ·have q1:decide (c.verb<3)=true:=by simpa using hv
  go_enter Tryz.func56,Tryz.ntmps56
  go_wp2_with (first
   | (go_at_call 72;refine (refCheck22 c W3 HN.out.1 HN.out.2).mono ?_;rintro e w4 ⟨rfl,hb4⟩;rw[HC.out];have hB4:=HB.out.keep hb4;obtain⟨l41,l42,ro4⟩:=hB4.t.ld;obtain⟨d0,d1,d2,d3,d4,d5, -, -⟩:=hB4.cmd;have ja4:=hB4.t.ca;have jk4:=hB4.t.ck;have H4:=Lib.hid hB4;clear hb4 hB4))
  exact bodyPost_ret (v:=.tuple #[vT r,.int .i64 11]) (results_c2 (ad:=⟨r0,0,none⟩) rfl rfl (ld_setRowT _ ro4) rfl) rfl ⟨_,rfl,H4.out.t.fin⟩
 ·have q1:¬ c.verb<3:=by omega
  go_enter Tryz.func56,Tryz.ntmps56
  go_wp2_with (first
   | (go_at_call 72;refine (refCheck22 c W3 HN.out.1 HN.out.2).mono ?_;rintro e w4 ⟨rfl,hb4⟩;rw[HC.out];have hB4:=HB.out.keep hb4;obtain⟨l41,l42,ro4⟩:=hB4.t.ld;obtain⟨d0,d1,d2,d3,d4,d5, -, -⟩:=hB4.cmd;have ja4:=hB4.t.ca;have jk4:=hB4.t.ck;have H4:=Lib.hid hB4;clear hb4 hB4))
  exact bodyPost_ret (v:=.tuple #[vT r,.int .i64 11]) (results_c2 (ad:=⟨r0,0,none⟩) rfl rfl (ld_setRowT _ ro4) rfl) rfl ⟨_,rfl,H4.out.t.fin⟩
theorem refAnswer_none (F:List Nat) (s:Tk) (r:Rt) (c:Cm) (w:World) (h:RfAt F s r w) (hF:∀ k∈F,k<w.heap.size) (hn:c.name.size≤1000000) (ht:c.text.size≤1000000) (ha:s.act.length≤100) (hk8:s.kept.length≤100) (hnd:(s.act.map Pt.id).Nodup) (hndk:(s.kept.map Pt.id).Nodup) (hc:chk c=0) (hv:¬ (c.verb<3∨6<c.verb)) (hp:posL s.act c.id=none) :
  Calls Tryz.prog 56 #[vT r,vC c] w (RfP F s (.int .i64 8) w):=by
 have HN:=Lib.hid (And.intro hn ht)
 have HND:=Lib.hid (And.intro hnd hndk)
 have HCA:=Lib.hid (show s.act.length≤r.act.2.2 by rw[h.act.1];exact h.act.2.1)
 have HCK:=Lib.hid (show s.kept.length≤r.kept.2.2 by rw[h.kept.1];exact h.kept.2.1)
 obtain⟨g,W1,m,W2,r0,W3,G,hg,hW1,hm,hW2,hr0,hW3,hB⟩:=BxH.new h hF c
 obtain⟨-, -, -, -, -, -,c6,c7⟩:=hB.cmd
 have HB:=Lib.hid hB
 clear hB h hF hn ht hnd hndk
 have q1:¬ c.verb<3:=by omega
 have q2:¬ 6<c.verb:=by omega
 have HC:=Lib.hid hc
 clear hc hv
 have HI:=Lib.hid (idx_none hp)
 clear hp
 go_enter Tryz.func56,Tryz.ntmps56
 go_wp2_with (first
  | (go_at_call 49;refine (refFind49 r.act.1 r.act.2.2 s.act c.id w4 H4.out.t.rf.act.2.2.1 (by omega)).mono ?_;rw[HI.out];rintro e w5 ⟨rfl,hb5⟩;have hB5:=H4.out.keep hb5;have ja5:=hB5.t.ca;obtain⟨l51,l52,ro5⟩:=hB5.t.ld;obtain⟨e0,e1,e2,e3,e4,e5, -, -⟩:=hB5.cmd;have jk5:=hB5.t.ck;have H5:=Lib.hid hB5;clear hb5 hB5)
  | (go_at_call 72;refine (refCheck22 c W3 HN.out.1 HN.out.2).mono ?_;rintro e w4 ⟨rfl,hb4⟩;rw[HC.out];have hB4:=HB.out.keep hb4;obtain⟨l41,l42,ro4⟩:=hB4.t.ld;obtain⟨d0,d1,d2,d3,d4,d5, -, -⟩:=hB4.cmd;have ja4:=hB4.t.ca;have jk4:=hB4.t.ck;have H4:=Lib.hid hB4;clear hb4 hB4))
 exact bodyPost_ret (v:=.tuple #[vT r,.int .i64 8]) (results_c2 (ad:=⟨r0,0,none⟩) rfl rfl (ld_setRowT _ ro5) rfl) rfl ⟨_,rfl,H5.out.t.fin⟩
theorem refAnswer_state (F:List Nat) (s:Tk) (r:Rt) (c:Cm) (w:World) (h:RfAt F s r w) (hF:∀ k∈F,k<w.heap.size) (hn:c.name.size≤1000000) (ht:c.text.size≤1000000) (ha:s.act.length≤100) (hk8:s.kept.length≤100) (hnd:(s.act.map Pt.id).Nodup) (hndk:(s.kept.map Pt.id).Nodup) (hc:chk c=0) (hv:¬ (c.verb<3∨6<c.verb)) (k:Nat) (hp:posL s.act c.id=some k) (h1:(ptK s.act k).state≠1) :
  Calls Tryz.prog 56 #[vT r,vC c] w (RfP F s (.int .i64 10) w):=by
 have HN:=Lib.hid (And.intro hn ht)
 have HND:=Lib.hid (And.intro hnd hndk)
 have HCA:=Lib.hid (show s.act.length≤r.act.2.2 by rw[h.act.1];exact h.act.2.1)
 have HCK:=Lib.hid (show s.kept.length≤r.kept.2.2 by rw[h.kept.1];exact h.kept.2.1)
 obtain⟨g,W1,m,W2,r0,W3,G,hg,hW1,hm,hW2,hr0,hW3,hB⟩:=BxH.new h hF c
 obtain⟨-, -, -, -, -, -,c6,c7⟩:=hB.cmd
 have HB:=Lib.hid hB
 clear hB h hF hn ht hnd hndk
 have q1:¬ c.verb<3:=by omega
 have q2:¬ 6<c.verb:=by omega
 have HC:=Lib.hid hc
 clear hc hv
 obtain⟨hk, -, -⟩:=pos_some hp
 have HI:=Lib.hid (idx_some hp)
 clear hp
 have hk1:(k:Int)<(s.act.length:Int):=by omega
 have hpk:ptK s.act k=s.act[k]:=ptK_eq hk
 obtain⟨ad,hae, -⟩:=Sl.pt (HB.out.t.rf.act.2.2.1) hk
 have HAE:=Lib.hid hae
 clear hae
 rw[hpk] at h1
 clear hpk
 have q3:(s.act[k].state != 1)=true:=by simpa using h1
 clear h1
 go_enter Tryz.func56,Tryz.ntmps56
 go_wp2_with (first
  | (go_at_call 49;refine (refFind49 (some ad) r.act.2.2 s.act c.id w4 (by have hq:=H4.out.t.rf.act.2.2.1;rw[HAE.out] at hq;exact hq) (by omega)).mono ?_;rw[HI.out];rintro e w5 ⟨rfl,hb5⟩;have hB5:=H4.out.keep hb5;have ja5:=hB5.t.ca;rw[HAE.out] at ja5;obtain⟨ad2,hae2, -, -,hat5⟩:=Sl.pt (hB5.t.rf.act.2.2.1) hk;obtain rfl:ad=ad2:=Option.some.inj (HAE.out.symm.trans hae2);have r33:=hat5.f33;clear hae2;obtain⟨l51,l52,ro5⟩:=hB5.t.ld;obtain⟨e0,e1,e2,e3,e4,e5, -, -⟩:=hB5.cmd;have jk5:=hB5.t.ck;have HAT:=Lib.hid hat5;clear hat5;have H5:=Lib.hid hB5;clear hb5 hB5)
  | (go_at_call 72;refine (refCheck22 c W3 HN.out.1 HN.out.2).mono ?_;rintro e w4 ⟨rfl,hb4⟩;rw[HC.out];have hB4:=HB.out.keep hb4;obtain⟨l41,l42,ro4⟩:=hB4.t.ld;obtain⟨d0,d1,d2,d3,d4,d5, -, -⟩:=hB4.cmd;have ja4:=hB4.t.ca;rw[HAE.out] at ja4;have jk4:=hB4.t.ck;have H4:=Lib.hid hB4;clear hb4 hB4))
 exact bodyPost_ret (v:=.tuple #[vT r,.int .i64 10]) (results_c2 (ad:=⟨r0,0,none⟩) rfl rfl (ld_setRowT _ ro5) rfl) rfl ⟨_,rfl,H5.out.t.fin⟩
theorem refAnswer_v5 (F:List Nat) (s:Tk) (r:Rt) (c:Cm) (w:World) (h:RfAt F s r w) (hF:∀ k∈F,k<w.heap.size) (hn:c.name.size≤1000000) (ht:c.text.size≤1000000) (ha:s.act.length≤100) (hk8:s.kept.length≤100) (hnd:(s.act.map Pt.id).Nodup) (hndk:(s.kept.map Pt.id).Nodup) (hc:chk c=0) (hv:c.verb=5) (k:Nat) (hp:posL s.act c.id=some k) (h1:(ptK s.act k).state=1) :
  Calls Tryz.prog 56 #[vT r,vC c] w (RfP F ⟨s.win,s.opn,withoutL s.act c.id,s.kept⟩ (.int .i64 0) w):=by
 have HN:=Lib.hid (And.intro hn ht)
 have HND:=Lib.hid (And.intro hnd hndk)
 have HCA:=Lib.hid (show s.act.length≤r.act.2.2 by rw[h.act.1];exact h.act.2.1)
 have HCK:=Lib.hid (show s.kept.length≤r.kept.2.2 by rw[h.kept.1];exact h.kept.2.1)
 obtain⟨g,W1,m,W2,r0,W3,G,hg,hW1,hm,hW2,hr0,hW3,hB⟩:=BxH.new h hF c
 obtain⟨-, -, -, -, -, -,c6,c7⟩:=hB.cmd
 have HB:=Lib.hid hB
 clear hB h hF hn ht hnd hndk
 have HC:=Lib.hid hc
 have HV:=Lib.hid hv
 clear hc hv
 obtain⟨hk, -, -⟩:=pos_some hp
 have HI:=Lib.hid (idx_some hp)
 clear hp
 have hk1:(k:Int)<(s.act.length:Int):=by omega
 have hpk:ptK s.act k=s.act[k]:=ptK_eq hk
 obtain⟨ad,hae, -⟩:=Sl.pt (HB.out.t.rf.act.2.2.1) hk
 have HAE:=Lib.hid hae
 clear hae
 rw[hpk] at h1
 clear hpk
 have HWA:=Lib.hid (show withoutI s.act (k:Int)=withoutL s.act c.id by rw[← withoutI_eq HND.out.1,HI.out])
 have HWK:=Lib.hid (withoutI_eq (x:=c.id) HND.out.2)
 have HJB:=Lib.hid (idx_lt s.kept c.id)
 obtain⟨jj,hjj⟩:∃ jj,idxL s.kept c.id=jj:=⟨_,rfl⟩
 have HJ:=Lib.hid hjj
 rw[hjj] at HWK HJB
 clear hjj
 go_enter Tryz.func56,Tryz.ntmps56
 go_wp2_with (first
  | (go_at_call 73;refine (refWithout73 (some ad) r.act.2.2 s.act k w6 (by have hq:=H6.out.t.rf.act.2.2.1;rw[HAE.out] at hq;exact hq) HCA.out (by omega) hk1 (by omega)).mono ?_;rw[HWA.out];rintro e w7 ⟨A',c',rfl,ho7,hb7⟩;obtain⟨n7,hn7⟩:∃ n7,(withoutL s.act c.id).length=n7:=⟨_,rfl⟩;rw[hn7] at ho7 ⊢;have j72:=(H6.out.keep hb7).t.ca;rw[HAE.out] at j72;obtain⟨f7,hB7⟩:=H6.out.setA (SlF.ofOwn ho7 H6.out.t.lt) hb7;obtain⟨W7,hW7⟩:∃ W7,w7.setCell ⟨g,2,none⟩ (.slice A' n7 c')=W7:=⟨_,rfl⟩;rw[hW7] at hB7;obtain⟨l71,l72,ro7⟩:=hB7.t.ld;obtain⟨g0,g1,g2,g3,g4,g5, -, -⟩:=hB7.cmd;rw[HV.out] at g0;have jk7:=hB7.t.ck;have H7:=Lib.hid hB7;clear ho7 hb7 hB7 hn7)
  | (go_at_call 49;refine (refFind49 r.kept.1 r.kept.2.2 s.kept c.id w5 H5.out.t.rf.kept.2.2.1 (by omega)).mono ?_;rw[HJ.out];rintro e w6 ⟨rfl,hb6⟩;have hB6:=H5.out.keep hb6;have ja6:=hB6.t.ca;rw[HAE.out] at ja6;obtain⟨l61,l62,ro6⟩:=hB6.t.ld;obtain⟨f0,f1,f2,f3,f4,f5, -, -⟩:=hB6.cmd;rw[HV.out] at f0;have jk6:=hB6.t.ck;have H6:=Lib.hid hB6;clear hb6 hB6)
  | (go_at_call 49;refine (refFind49 (some ad) r.act.2.2 s.act c.id w4 (by have hq:=H4.out.t.rf.act.2.2.1;rw[HAE.out] at hq;exact hq) (by omega)).mono ?_;rw[HI.out];rintro e w5 ⟨rfl,hb5⟩;have hB5:=H4.out.keep hb5;have ja5:=hB5.t.ca;rw[HAE.out] at ja5;obtain⟨ad2,hae2, -, -,hat5⟩:=Sl.pt (hB5.t.rf.act.2.2.1) hk;obtain rfl:ad=ad2:=Option.some.inj (HAE.out.symm.trans hae2);have r33:=hat5.f33;rw[h1] at r33;clear hae2;obtain⟨l51,l52,ro5⟩:=hB5.t.ld;obtain⟨e0,e1,e2,e3,e4,e5, -, -⟩:=hB5.cmd;rw[HV.out] at e0;have jk5:=hB5.t.ck;have HAT:=Lib.hid hat5;clear hat5;have H5:=Lib.hid hB5;clear hb5 hB5)
  | (go_at_call 72;refine (refCheck22 c W3 HN.out.1 HN.out.2).mono ?_;rintro e w4 ⟨rfl,hb4⟩;rw[HC.out];have hB4:=HB.out.keep hb4;obtain⟨l41,l42,ro4⟩:=hB4.t.ld;obtain⟨d0,d1,d2,d3,d4,d5, -, -⟩:=hB4.cmd;rw[HV.out] at d0;have ja4:=hB4.t.ca;rw[HAE.out] at ja4;have jk4:=hB4.t.ck;have H4:=Lib.hid hB4;clear hb4 hB4))
 exact bodyPost_ret (v:=.tuple #[vT _,.int .i64 0]) (results_c2 (ad:=⟨r0,0,none⟩) rfl rfl (ld_setRowT _ ro7) rfl) rfl ⟨_,rfl,H7.out.t.fin⟩
theorem refAnswer_v4 (F:List Nat) (s:Tk) (r:Rt) (c:Cm) (w:World) (h:RfAt F s r w) (hF:∀ k∈F,k<w.heap.size) (hn:c.name.size≤1000000) (ht:c.text.size≤1000000) (ha:s.act.length≤100) (hk8:s.kept.length≤100) (hnd:(s.act.map Pt.id).Nodup) (hndk:(s.kept.map Pt.id).Nodup) (hc:chk c=0) (hv:c.verb=4) (k:Nat) (hp:posL s.act c.id=some k) (h1:(ptK s.act k).state=1) :
  Calls Tryz.prog 56 #[vT r,vC c] w (RfP F ⟨s.win,s.opn,withoutL s.act c.id,withoutL s.kept c.id⟩ (.int .i64 0) w):=by
 have HN:=Lib.hid (And.intro hn ht)
 have HND:=Lib.hid (And.intro hnd hndk)
 have HCA:=Lib.hid (show s.act.length≤r.act.2.2 by rw[h.act.1];exact h.act.2.1)
 have HCK:=Lib.hid (show s.kept.length≤r.kept.2.2 by rw[h.kept.1];exact h.kept.2.1)
 obtain⟨g,W1,m,W2,r0,W3,G,hg,hW1,hm,hW2,hr0,hW3,hB⟩:=BxH.new h hF c
 obtain⟨-, -, -, -, -, -,c6,c7⟩:=hB.cmd
 have HB:=Lib.hid hB
 clear hB h hF hn ht hnd hndk
 have HC:=Lib.hid hc
 have HV:=Lib.hid hv
 clear hc hv
 obtain⟨hk, -, -⟩:=pos_some hp
 have HI:=Lib.hid (idx_some hp)
 clear hp
 have hk1:(k:Int)<(s.act.length:Int):=by omega
 have hpk:ptK s.act k=s.act[k]:=ptK_eq hk
 obtain⟨ad,hae, -⟩:=Sl.pt (HB.out.t.rf.act.2.2.1) hk
 have HAE:=Lib.hid hae
 clear hae
 rw[hpk] at h1
 clear hpk
 have HWA:=Lib.hid (show withoutI s.act (k:Int)=withoutL s.act c.id by rw[← withoutI_eq HND.out.1,HI.out])
 have HWK:=Lib.hid (withoutI_eq (x:=c.id) HND.out.2)
 have HJB:=Lib.hid (idx_lt s.kept c.id)
 obtain⟨jj,hjj⟩:∃ jj,idxL s.kept c.id=jj:=⟨_,rfl⟩
 have HJ:=Lib.hid hjj
 rw[hjj] at HWK HJB
 clear hjj
 go_enter Tryz.func56,Tryz.ntmps56
 go_wp2_with (first
  | (go_at_call 73;refine (refWithout73 r.kept.1 r.kept.2.2 s.kept _ W7 H7.out.t.rf.kept.2.2.1 HCK.out (by omega) HJB.out.1 HJB.out.2).mono ?_;rw[HWK.out];rintro e w8 ⟨B',d',rfl,ho8,hb8⟩;obtain⟨n8,hn8⟩:∃ n8,(withoutL s.kept c.id).length=n8:=⟨_,rfl⟩;rw[hn8] at ho8 ⊢;have j83:=(H7.out.keep hb8).t.ck;obtain⟨f8,hB8⟩:=H7.out.setK (SlF.ofOwn ho8 H7.out.t.lt) hb8;obtain⟨W8,hW8⟩:∃ W8,w8.setCell ⟨g,3,none⟩ (.slice B' n8 d')=W8:=⟨_,rfl⟩;rw[hW8] at hB8;obtain⟨l81,l82,ro8⟩:=hB8.t.ld;have H8:=Lib.hid hB8;clear ho8 hb8 hB8 hn8)
  | (go_at_call 73;refine (refWithout73 (some ad) r.act.2.2 s.act k w6 (by have hq:=H6.out.t.rf.act.2.2.1;rw[HAE.out] at hq;exact hq) HCA.out (by omega) hk1 (by omega)).mono ?_;rw[HWA.out];rintro e w7 ⟨A',c',rfl,ho7,hb7⟩;obtain⟨n7,hn7⟩:∃ n7,(withoutL s.act c.id).length=n7:=⟨_,rfl⟩;rw[hn7] at ho7 ⊢;have j72:=(H6.out.keep hb7).t.ca;rw[HAE.out] at j72;obtain⟨f7,hB7⟩:=H6.out.setA (SlF.ofOwn ho7 H6.out.t.lt) hb7;obtain⟨W7,hW7⟩:∃ W7,w7.setCell ⟨g,2,none⟩ (.slice A' n7 c')=W7:=⟨_,rfl⟩;rw[hW7] at hB7;obtain⟨l71,l72,ro7⟩:=hB7.t.ld;obtain⟨g0,g1,g2,g3,g4,g5, -, -⟩:=hB7.cmd;rw[HV.out] at g0;have jk7:=hB7.t.ck;have H7:=Lib.hid hB7;clear ho7 hb7 hB7 hn7)
  | (go_at_call 49;refine (refFind49 r.kept.1 r.kept.2.2 s.kept c.id w5 H5.out.t.rf.kept.2.2.1 (by omega)).mono ?_;rw[HJ.out];rintro e w6 ⟨rfl,hb6⟩;have hB6:=H5.out.keep hb6;have ja6:=hB6.t.ca;rw[HAE.out] at ja6;obtain⟨l61,l62,ro6⟩:=hB6.t.ld;obtain⟨f0,f1,f2,f3,f4,f5, -, -⟩:=hB6.cmd;rw[HV.out] at f0;have jk6:=hB6.t.ck;have H6:=Lib.hid hB6;clear hb6 hB6)
  | (go_at_call 49;refine (refFind49 (some ad) r.act.2.2 s.act c.id w4 (by have hq:=H4.out.t.rf.act.2.2.1;rw[HAE.out] at hq;exact hq) (by omega)).mono ?_;rw[HI.out];rintro e w5 ⟨rfl,hb5⟩;have hB5:=H4.out.keep hb5;have ja5:=hB5.t.ca;rw[HAE.out] at ja5;obtain⟨ad2,hae2, -, -,hat5⟩:=Sl.pt (hB5.t.rf.act.2.2.1) hk;obtain rfl:ad=ad2:=Option.some.inj (HAE.out.symm.trans hae2);have r33:=hat5.f33;rw[h1] at r33;clear hae2;obtain⟨l51,l52,ro5⟩:=hB5.t.ld;obtain⟨e0,e1,e2,e3,e4,e5, -, -⟩:=hB5.cmd;rw[HV.out] at e0;have jk5:=hB5.t.ck;have HAT:=Lib.hid hat5;clear hat5;have H5:=Lib.hid hB5;clear hb5 hB5)
  | (go_at_call 72;refine (refCheck22 c W3 HN.out.1 HN.out.2).mono ?_;rintro e w4 ⟨rfl,hb4⟩;rw[HC.out];have hB4:=HB.out.keep hb4;obtain⟨l41,l42,ro4⟩:=hB4.t.ld;obtain⟨d0,d1,d2,d3,d4,d5, -, -⟩:=hB4.cmd;rw[HV.out] at d0;have ja4:=hB4.t.ca;rw[HAE.out] at ja4;have jk4:=hB4.t.ck;have H4:=Lib.hid hB4;clear hb4 hB4))
 exact bodyPost_ret (v:=.tuple #[vT _,.int .i64 0]) (results_c2 (ad:=⟨r0,0,none⟩) rfl rfl (ld_setRowT _ ro8) rfl) rfl ⟨_,rfl,H8.out.t.fin⟩
theorem refAnswer_v6 (F:List Nat) (s:Tk) (r:Rt) (c:Cm) (w:World) (h:RfAt F s r w) (hF:∀ k∈F,k<w.heap.size) (hn:c.name.size≤1000000) (ht:c.text.size≤1000000) (ha:s.act.length≤100) (hk8:s.kept.length≤100) (hnd:(s.act.map Pt.id).Nodup) (hndk:(s.kept.map Pt.id).Nodup) (hc:chk c=0) (hv:c.verb=6) (k:Nat) (hp:posL s.act c.id=some k) (h1:(ptK s.act k).state=1) :
  Calls Tryz.prog 56 #[vT r,vC c] w (RfP F ⟨s.win,s.opn,withoutL s.act c.id,withoutL s.kept c.id⟩ (.int .i64 0) w):=by
 have HN:=Lib.hid (And.intro hn ht)
 have HND:=Lib.hid (And.intro hnd hndk)
 have HCA:=Lib.hid (show s.act.length≤r.act.2.2 by rw[h.act.1];exact h.act.2.1)
 have HCK:=Lib.hid (show s.kept.length≤r.kept.2.2 by rw[h.kept.1];exact h.kept.2.1)
 obtain⟨g,W1,m,W2,r0,W3,G,hg,hW1,hm,hW2,hr0,hW3,hB⟩:=BxH.new h hF c
 obtain⟨-, -, -, -, -, -,c6,c7⟩:=hB.cmd
 have HB:=Lib.hid hB
 clear hB h hF hn ht hnd hndk
 have HC:=Lib.hid hc
 have HV:=Lib.hid hv
 clear hc hv
 obtain⟨hk, -, -⟩:=pos_some hp
 have HI:=Lib.hid (idx_some hp)
 clear hp
 have hk1:(k:Int)<(s.act.length:Int):=by omega
 have hpk:ptK s.act k=s.act[k]:=ptK_eq hk
 obtain⟨ad,hae, -⟩:=Sl.pt (HB.out.t.rf.act.2.2.1) hk
 have HAE:=Lib.hid hae
 clear hae
 rw[hpk] at h1
 clear hpk
 have HWA:=Lib.hid (show withoutI s.act (k:Int)=withoutL s.act c.id by rw[← withoutI_eq HND.out.1,HI.out])
 have HWK:=Lib.hid (withoutI_eq (x:=c.id) HND.out.2)
 have HJB:=Lib.hid (idx_lt s.kept c.id)
 obtain⟨jj,hjj⟩:∃ jj,idxL s.kept c.id=jj:=⟨_,rfl⟩
 have HJ:=Lib.hid hjj
 rw[hjj] at HWK HJB
 clear hjj
 go_enter Tryz.func56,Tryz.ntmps56
 go_wp2_with (first
  | (go_at_call 73;refine (refWithout73 r.kept.1 r.kept.2.2 s.kept _ W7 H7.out.t.rf.kept.2.2.1 HCK.out (by omega) HJB.out.1 HJB.out.2).mono ?_;rw[HWK.out];rintro e w8 ⟨B',d',rfl,ho8,hb8⟩;obtain⟨n8,hn8⟩:∃ n8,(withoutL s.kept c.id).length=n8:=⟨_,rfl⟩;rw[hn8] at ho8 ⊢;have j83:=(H7.out.keep hb8).t.ck;obtain⟨f8,hB8⟩:=H7.out.setK (SlF.ofOwn ho8 H7.out.t.lt) hb8;obtain⟨W8,hW8⟩:∃ W8,w8.setCell ⟨g,3,none⟩ (.slice B' n8 d')=W8:=⟨_,rfl⟩;rw[hW8] at hB8;obtain⟨l81,l82,ro8⟩:=hB8.t.ld;have H8:=Lib.hid hB8;clear ho8 hb8 hB8 hn8)
  | (go_at_call 73;refine (refWithout73 (some ad) r.act.2.2 s.act k w6 (by have hq:=H6.out.t.rf.act.2.2.1;rw[HAE.out] at hq;exact hq) HCA.out (by omega) hk1 (by omega)).mono ?_;rw[HWA.out];rintro e w7 ⟨A',c',rfl,ho7,hb7⟩;obtain⟨n7,hn7⟩:∃ n7,(withoutL s.act c.id).length=n7:=⟨_,rfl⟩;rw[hn7] at ho7 ⊢;have j72:=(H6.out.keep hb7).t.ca;rw[HAE.out] at j72;obtain⟨f7,hB7⟩:=H6.out.setA (SlF.ofOwn ho7 H6.out.t.lt) hb7;obtain⟨W7,hW7⟩:∃ W7,w7.setCell ⟨g,2,none⟩ (.slice A' n7 c')=W7:=⟨_,rfl⟩;rw[hW7] at hB7;obtain⟨l71,l72,ro7⟩:=hB7.t.ld;obtain⟨g0,g1,g2,g3,g4,g5, -, -⟩:=hB7.cmd;rw[HV.out] at g0;have jk7:=hB7.t.ck;have H7:=Lib.hid hB7;clear ho7 hb7 hB7 hn7)
  | (go_at_call 49;refine (refFind49 r.kept.1 r.kept.2.2 s.kept c.id w5 H5.out.t.rf.kept.2.2.1 (by omega)).mono ?_;rw[HJ.out];rintro e w6 ⟨rfl,hb6⟩;have hB6:=H5.out.keep hb6;have ja6:=hB6.t.ca;rw[HAE.out] at ja6;obtain⟨l61,l62,ro6⟩:=hB6.t.ld;obtain⟨f0,f1,f2,f3,f4,f5, -, -⟩:=hB6.cmd;rw[HV.out] at f0;have jk6:=hB6.t.ck;have H6:=Lib.hid hB6;clear hb6 hB6)
  | (go_at_call 49;refine (refFind49 (some ad) r.act.2.2 s.act c.id w4 (by have hq:=H4.out.t.rf.act.2.2.1;rw[HAE.out] at hq;exact hq) (by omega)).mono ?_;rw[HI.out];rintro e w5 ⟨rfl,hb5⟩;have hB5:=H4.out.keep hb5;have ja5:=hB5.t.ca;rw[HAE.out] at ja5;obtain⟨ad2,hae2, -, -,hat5⟩:=Sl.pt (hB5.t.rf.act.2.2.1) hk;obtain rfl:ad=ad2:=Option.some.inj (HAE.out.symm.trans hae2);have r33:=hat5.f33;rw[h1] at r33;clear hae2;obtain⟨l51,l52,ro5⟩:=hB5.t.ld;obtain⟨e0,e1,e2,e3,e4,e5, -, -⟩:=hB5.cmd;rw[HV.out] at e0;have jk5:=hB5.t.ck;have HAT:=Lib.hid hat5;clear hat5;have H5:=Lib.hid hB5;clear hb5 hB5)
  | (go_at_call 72;refine (refCheck22 c W3 HN.out.1 HN.out.2).mono ?_;rintro e w4 ⟨rfl,hb4⟩;rw[HC.out];have hB4:=HB.out.keep hb4;obtain⟨l41,l42,ro4⟩:=hB4.t.ld;obtain⟨d0,d1,d2,d3,d4,d5, -, -⟩:=hB4.cmd;rw[HV.out] at d0;have ja4:=hB4.t.ca;rw[HAE.out] at ja4;have jk4:=hB4.t.ck;have H4:=Lib.hid hB4;clear hb4 hB4))
 exact bodyPost_ret (v:=.tuple #[vT _,.int .i64 0]) (results_c2 (ad:=⟨r0,0,none⟩) rfl rfl (ld_setRowT _ ro8) rfl) rfl ⟨_,rfl,H8.out.t.fin⟩
end
open Go.RowKit
section
set_option maxRecDepth 100000
set_option maxHeartbeats 3200000
theorem refAnswer_zero (F:List Nat) (s:Tk) (r:Rt) (c:Cm) (w:World) (h:RfAt F s r w) (hF:∀ k∈F,k<w.heap.size) (hn:c.name.size≤1000000) (ht:c.text.size≤1000000) (ha:s.act.length≤100) (hk8:s.kept.length≤100) (hnd:(s.act.map Pt.id).Nodup) (hndk:(s.kept.map Pt.id).Nodup) (hc:chk c=0) (hv:c.verb=3) (hf:c.from_=0) (k:Nat) (hp:posL s.act c.id=some k) (h1:(ptK s.act k).state=1) :
  Calls Tryz.prog 56 #[vT r,vC c] w (RfP F ⟨s.win,s.opn,s.act.set k (wantP s c k),withoutL s.kept c.id⟩ (.int .i64 0) w):=by
 have HN:=Lib.hid (And.intro hn ht)
 have HND:=Lib.hid (And.intro hnd hndk)
 have HCA:=Lib.hid (show s.act.length≤r.act.2.2 by rw[h.act.1];exact h.act.2.1)
 have HCK:=Lib.hid (show s.kept.length≤r.kept.2.2 by rw[h.kept.1];exact h.kept.2.1)
 obtain⟨g,W1,m,W2,r0,W3,G,hg,hW1,hm,hW2,hr0,hW3,hB⟩:=BxH.new h hF c
 obtain⟨-, -, -, -, -, -,c6,c7⟩:=hB.cmd
 have HB:=Lib.hid hB
 clear hB h hF hn ht hnd hndk
 have HC:=Lib.hid hc
 have HV:=Lib.hid hv
 clear hc hv
 obtain⟨hk, -, -⟩:=pos_some hp
 have HI:=Lib.hid (idx_some hp)
 clear hp
 have hk1:(k:Int)<(s.act.length:Int):=by omega
 have hpk:ptK s.act k=s.act[k]:=ptK_eq hk
 obtain⟨ad,hae, -⟩:=Sl.pt (HB.out.t.rf.act.2.2.1) hk
 have HAE:=Lib.hid hae
 obtain⟨pp,hpp⟩:∃ pp,s.act[k]=pp:=⟨_,rfl⟩
 have HPP:=Lib.hid hpp
 rw[hpk,hpp] at h1
 obtain⟨aQ,haQ⟩:∃ aQ:Pt,{ pp with state:=2 }=aQ:=⟨_,rfl⟩
 have HQ:=Lib.hid haQ
 rw[show wantP s c k=aQ by unfold wantP;rw[hf,hpk,hpp,← haQ,if_neg (by decide)]]
 have HF0:=Lib.hid hf
 clear hae hpk hpp haQ hf
 have HWK:=Lib.hid (withoutI_eq (x:=c.id) HND.out.2)
 have HJB:=Lib.hid (idx_lt s.kept c.id)
 obtain⟨jj,hjj⟩:∃ jj,idxL s.kept c.id=jj:=⟨_,rfl⟩
 have HJ:=Lib.hid hjj
 rw[hjj] at HWK HJB
 clear hjj
 go_enter Tryz.func56,Tryz.ntmps56
 go_wp2_with (first
  | (go_at_call 74;refine (refChanged74 (q :: G) _ _ k aQ W8 H8.out.t.rf H8.out.t.lt hk ha).mono ?_;rintro e w9 ⟨r9,rfl,hr9,hb9⟩;obtain⟨ro9,fin9⟩:=H8.out.finC hr9 hb9;have FIN:=Lib.hid fin9;clear hr9 hb9 fin9)
  | (go_at_call 73;refine (refWithout73 r.kept.1 r.kept.2.2 s.kept jj U2 H7.out.t.rf.kept.2.2.1 HCK.out (by omega) HJB.out.1 HJB.out.2).mono ?_;rw[HWK.out];rintro e w8 ⟨B',d',rfl,ho8,hb8⟩;obtain⟨n8,hn8⟩:∃ n8,(withoutL s.kept c.id).length=n8:=⟨_,rfl⟩;rw[hn8] at ho8 ⊢;have j83:=(H7.out.keep hb8).t.ck;obtain⟨f8,hB8⟩:=H7.out.setK (SlF.ofOwn ho8 H7.out.t.lt) hb8;have hr8:=(One.set (g:=g) (w:=w8) 3 (.slice B' n8 d')).row (HR7.out.keep hb8) HNE.out.1.symm;obtain⟨W8,hW8⟩:∃ W8,w8.setCell ⟨g,3,none⟩ (.slice B' n8 d')=W8:=⟨_,rfl⟩;rw[hW8] at hB8 hr8;obtain⟨l81,l82,ro8⟩:=hB8.t.ld;have p81:=(Row.okw hr8 (cA_length _)).1;have p82:rdA W8 ⟨q,0,none⟩ 35=vA aQ:=(Row.okw hr8 (cA_length _)).2;have H8:=Lib.hid hB8;clear ho8 hb8 hB8 hr8 hn8)
  | (go_at_call 49;refine (refFind49 r.kept.1 r.kept.2.2 s.kept c.id w5 H5.out.t.rf.kept.2.2.1 (by omega)).mono ?_;rw[HJ.out];rintro e w6 ⟨rfl,hb6⟩;have hB6:=H5.out.keep hb6;have ja6:=hB6.t.ca;rw[HAE.out] at ja6;obtain⟨ad3,hae3,pa1,pa2, -⟩:=Sl.pt (hB6.t.rf.act.2.2.1) hk;obtain rfl:ad=ad3:=Option.some.inj (HAE.out.symm.trans hae3);rw[HPP.out] at pa2;obtain⟨f0, -, -, -, -, -, -, -⟩:=hB6.cmd;rw[HV.out] at f0;obtain⟨q,U,hq,rq,hU,hrq,hBU,ngq,nrq,nmq,leq⟩:=hB6.part pp;obtain⟨-, -, -,u3, -, -, -, -⟩:=hBU.cmd;rw[HF0.out] at u3;have k33:=(hrq.cell 33).trans (cA_at (aA_33 pp));rw[h1] at k33;obtain⟨z33,hr7,hB7⟩:=hBU.setP hrq List.mem_cons_self ngq nrq nmq leq 33 (.int .i64 2) (a':=aQ) ((cA_set33 pp 2).trans (congrArg cA HQ.out));obtain⟨U2,hU2⟩:∃ U2,U.setCell ⟨q,33,none⟩ (.int .i64 2)=U2:=⟨_,rfl⟩;rw[hU2] at hr7 hB7;have jk7:=hB7.t.ck;have H7:=Lib.hid hB7;have HR7:=Lib.hid hr7;clear hrq hBU hr7 hB7;have HNE:=Lib.hid (And.intro ngq (And.intro nrq (And.intro nmq leq)));clear hae3 hb6 hB6)
  | (go_at_call 49;refine (refFind49 (some ad) r.act.2.2 s.act c.id w4 (by have hq:=H4.out.t.rf.act.2.2.1;rw[HAE.out] at hq;exact hq) (by omega)).mono ?_;rw[HI.out];rintro e w5 ⟨rfl,hb5⟩;have hB5:=H4.out.keep hb5;have ja5:=hB5.t.ca;rw[HAE.out] at ja5;obtain⟨ad2,hae2, -, -,hat5⟩:=Sl.pt (hB5.t.rf.act.2.2.1) hk;obtain rfl:ad=ad2:=Option.some.inj (HAE.out.symm.trans hae2);rw[HPP.out] at hat5;have r33:=hat5.f33;rw[h1] at r33;clear hae2;obtain⟨l51,l52,ro5⟩:=hB5.t.ld;obtain⟨e0,e1,e2,e3,e4,e5, -, -⟩:=hB5.cmd;rw[HV.out] at e0;have jk5:=hB5.t.ck;have HAT:=Lib.hid hat5;clear hat5;have H5:=Lib.hid hB5;clear hb5 hB5)
  | (go_at_call 72;refine (refCheck22 c W3 HN.out.1 HN.out.2).mono ?_;rintro e w4 ⟨rfl,hb4⟩;rw[HC.out];have hB4:=HB.out.keep hb4;obtain⟨l41,l42,ro4⟩:=hB4.t.ld;obtain⟨d0,d1,d2,d3,d4,d5, -, -⟩:=hB4.cmd;rw[HV.out] at d0;have ja4:=hB4.t.ca;rw[HAE.out] at ja4;have jk4:=hB4.t.ck;have H4:=Lib.hid hB4;clear hb4 hB4))
 exact bodyPost_ret (v:=.tuple #[vT r9,.int .i64 0]) (results_c2 (ad:=⟨r0,0,none⟩) rfl rfl (ld_setRowT _ ro9) rfl) rfl ⟨_,rfl,FIN.out⟩
theorem refAnswer_part (F:List Nat) (s:Tk) (r:Rt) (c:Cm) (w:World) (h:RfAt F s r w) (hF:∀ k∈F,k<w.heap.size) (hn:c.name.size≤1000000) (ht:c.text.size≤1000000) (ha:s.act.length≤100) (hk8:s.kept.length≤100) (hnd:(s.act.map Pt.id).Nodup) (hndk:(s.kept.map Pt.id).Nodup) (hc:chk c=0) (hv:c.verb=3) (k:Nat) (hp:posL s.act c.id=some k) (h1:(ptK s.act k).state=1) (J:Nat) (hpJ:posL s.kept c.id=some J) (hf:c.from_=(ptK s.kept J).bytes.size) (hf0:c.from_≠0) :
  Calls Tryz.prog 56 #[vT r,vC c] w (RfP F ⟨s.win,s.opn,s.act.set k (wantP s c k),withoutL s.kept c.id⟩ (.int .i64 0) w):=by
 have HN:=Lib.hid (And.intro hn ht)
 have HND:=Lib.hid (And.intro hnd hndk)
 have HCA:=Lib.hid (show s.act.length≤r.act.2.2 by rw[h.act.1];exact h.act.2.1)
 have HCK:=Lib.hid (show s.kept.length≤r.kept.2.2 by rw[h.kept.1];exact h.kept.2.1)
 obtain⟨g,W1,m,W2,r0,W3,G,hg,hW1,hm,hW2,hr0,hW3,hB⟩:=BxH.new h hF c
 obtain⟨-, -, -, -, -, -,c6,c7⟩:=hB.cmd
 have HB:=Lib.hid hB
 clear hB h hF hn ht hnd hndk
 have HC:=Lib.hid hc
 have HV:=Lib.hid hv
 clear hc hv
 obtain⟨hk, -, -⟩:=pos_some hp
 have HI:=Lib.hid (idx_some hp)
 clear hp
 have hk1:(k:Int)<(s.act.length:Int):=by omega
 have hpk:ptK s.act k=s.act[k]:=ptK_eq hk
 obtain⟨ad,hae, -⟩:=Sl.pt (HB.out.t.rf.act.2.2.1) hk
 have HAE:=Lib.hid hae
 obtain⟨pp,hpp⟩:∃ pp,s.act[k]=pp:=⟨_,rfl⟩
 have HPP:=Lib.hid hpp
 rw[hpk,hpp] at h1
 obtain⟨hJ, -, -⟩:=pos_some hpJ
 have HWK:=Lib.hid (withoutI_eq (x:=c.id) HND.out.2)
 have HJB:=Lib.hid (idx_lt s.kept c.id)
 rw[idx_some hpJ] at HWK HJB
 have HJ:=Lib.hid (idx_some hpJ)
 have hJ1:(J:Int)<(s.kept.length:Int):=by omega
 have hJ0:¬ (J:Int)<0:=by omega
 have hpJk:ptK s.kept J=s.kept[J]:=ptK_eq hJ
 obtain⟨bd,hbd, -⟩:=Sl.pt (HB.out.t.rf.kept.2.2.1) hJ
 have HBD:=Lib.hid hbd
 obtain⟨pk,hpk2⟩:∃ pk,s.kept[J]=pk:=⟨_,rfl⟩
 have HPK:=Lib.hid hpk2
 rw[hpJk,hpk2] at hf
 obtain⟨aQ,haQ⟩:∃ aQ:Pt,{ pp with bytes:=pk.bytes,state:=2 }=aQ:=⟨_,rfl⟩
 have HQ:=Lib.hid haQ
 have hpos:0<c.from_:=by omega
 have z1:(((pk.bytes.size:Nat):Int) != 0)=true:=by rw[← hf];simpa using hf0
 rw[show wantP s c k=aQ by unfold wantP;rw[hpk,hpp,← haQ,if_pos hpos,hpJ];dsimp only;rw[hpJk,hpk2]]
 have HF0:=Lib.hid hf
 clear hae hpk hpp haQ hf hf0 hpos hpJ hpJk hpk2 hbd
 go_enter Tryz.func56,Tryz.ntmps56
 go_upto_region 15 with (first
 | (go_at_call 49;refine (refFind49 r.kept.1 r.kept.2.2 s.kept c.id w5 H5.out.t.rf.kept.2.2.1 (by omega)).mono ?_;rw[HJ.out];rintro e w6 ⟨rfl,hb6⟩;have hB6:=H5.out.keep hb6;have ja6:=hB6.t.ca;rw[HAE.out] at ja6;obtain⟨ad3,hae3,pa1,pa2, -⟩:=Sl.pt (hB6.t.rf.act.2.2.1) hk;obtain rfl:ad=ad3:=Option.some.inj (HAE.out.symm.trans hae3);rw[HPP.out] at pa2;obtain⟨f0, -, -, -, -, -, -, -⟩:=hB6.cmd;rw[HV.out] at f0;obtain⟨q,U,hq,rq,hU,hrq,hBU,ngq,nrq,nmq,leq⟩:=hB6.part pp;obtain⟨-, -, -,u3, -, -, -, -⟩:=hBU.cmd;rw[HF0.out] at u3;obtain⟨bd2,hbd2, -, -,hatk⟩:=Sl.pt (hBU.t.rf.kept.2.2.1) hJ;obtain rfl:bd=bd2:=Option.some.inj (HBD.out.symm.trans hbd2);rw[HPK.out] at hatk;have b34:=hatk.f34;have jkU:=hBU.t.ck;rw[HBD.out] at jkU;clear hbd2 hatk;have HU:=Lib.hid hBU;have HRU:=Lib.hid hrq;clear hBU hrq;have HNE:=Lib.hid (And.intro ngq (And.intro nrq (And.intro nmq leq)));clear hae3 hb6 hB6)
 | (go_at_call 49;refine (refFind49 (some ad) r.act.2.2 s.act c.id w4 (by have hq:=H4.out.t.rf.act.2.2.1;rw[HAE.out] at hq;exact hq) (by omega)).mono ?_;rw[HI.out];rintro e w5 ⟨rfl,hb5⟩;have hB5:=H4.out.keep hb5;have ja5:=hB5.t.ca;rw[HAE.out] at ja5;obtain⟨ad2,hae2, -, -,hat5⟩:=Sl.pt (hB5.t.rf.act.2.2.1) hk;obtain rfl:ad=ad2:=Option.some.inj (HAE.out.symm.trans hae2);rw[HPP.out] at hat5;have r33:=hat5.f33;rw[h1] at r33;clear hae2;obtain⟨l51,l52,ro5⟩:=hB5.t.ld;obtain⟨e0,e1,e2,e3,e4,e5, -, -⟩:=hB5.cmd;rw[HV.out] at e0;have jk5:=hB5.t.ck;have HAT:=Lib.hid hat5;clear hat5;have H5:=Lib.hid hB5;clear hb5 hB5)
 | (go_at_call 72;refine (refCheck22 c W3 HN.out.1 HN.out.2).mono ?_;rintro e w4 ⟨rfl,hb4⟩;rw[HC.out];have hB4:=HB.out.keep hb4;obtain⟨l41,l42,ro4⟩:=hB4.t.ld;obtain⟨d0,d1,d2,d3,d4,d5, -, -⟩:=hB4.cmd;rw[HV.out] at d0;have ja4:=hB4.t.ca;rw[HAE.out] at ja4;have jk4:=hB4.t.ck;have H4:=Lib.hid hB4;clear hb4 hB4))
 go_quiet (fail)
 generalize hU17:World.drewN _ _=U17
 have hb17:Below U.heap.size U U17:=by rw[← hU17];exact below_drewN _ _
 have hBV:=HU.out.keep hb17
 have hrv:=HRU.out.keep hb17
 obtain⟨bd2,hbd2, -, -,hatk⟩:=Sl.pt (hBV.t.rf.kept.2.2.1) hJ;obtain rfl:bd=bd2:=Option.some.inj (HBD.out.symm.trans hbd2);rw[HPK.out] at hatk;have c34:=hatk.f34;have jkV:=hBV.t.ck;rw[HBD.out] at jkV;clear hbd2 hatk
 have k34:=(hrv.cell 34).trans (cA_at (aA_34 pp))
 obtain⟨z34,hr6,hB6⟩:=hBV.setP hrv List.mem_cons_self HNE.out.1 HNE.out.2.1 HNE.out.2.2.1 HNE.out.2.2.2 34 (.string pk.bytes) (cA_set34 pp pk.bytes)
 obtain⟨V1,hV1⟩:∃ V1,U17.setCell ⟨q,34,none⟩ (.string pk.bytes)=V1:=⟨_,rfl⟩
 rw[hV1] at hr6 hB6
 have k33:=(hr6.cell 33).trans (cA_at (aA_33 _))
 dsimp only at k33
 rw[h1] at k33
 obtain⟨z33,hr7,hB7⟩:=hB6.setP hr6 List.mem_cons_self HNE.out.1 HNE.out.2.1 HNE.out.2.2.1 HNE.out.2.2.2 33 (.int .i64 2) (a':=aQ) ((cA_set33 _ 2).trans (congrArg cA HQ.out))
 obtain⟨U2,hU2⟩:∃ U2,V1.setCell ⟨q,33,none⟩ (.int .i64 2)=U2:=⟨_,rfl⟩
 rw[hU2] at hr7 hB7
 have jk7:=hB7.t.ck
 rw[HBD.out] at jk7
 have H7:=Lib.hid hB7
 have HR7:=Lib.hid hr7
 clear hU17 hb17 hBV hrv hr6 hB6 hr7 hB7 jkU b34 pa1 pa2 rq hU r33
 go_wp2_with (first
 | (go_at_call 74;refine (refChanged74 (q :: G) _ _ k aQ W8 H8.out.t.rf H8.out.t.lt hk ha).mono ?_;rintro e w9 ⟨r9,rfl,hr9,hb9⟩;obtain⟨ro9,fin9⟩:=H8.out.finC hr9 hb9;have FIN:=Lib.hid fin9;clear hr9 hb9 fin9)
 | (go_at_call 73;refine (refWithout73 (some bd) r.kept.2.2 s.kept (J:Int) U2 (by have hq:=H7.out.t.rf.kept.2.2.1;rw[HBD.out] at hq;exact hq) HCK.out (by omega) HJB.out.1 HJB.out.2).mono ?_;rw[HWK.out];rintro e w8 ⟨B',d',rfl,ho8,hb8⟩;obtain⟨n8,hn8⟩:∃ n8,(withoutL s.kept c.id).length=n8:=⟨_,rfl⟩;rw[hn8] at ho8 ⊢;have j83:=(H7.out.keep hb8).t.ck;rw[HBD.out] at j83;obtain⟨f8,hB8⟩:=H7.out.setK (SlF.ofOwn ho8 H7.out.t.lt) hb8;have hr8:=(One.set (g:=g) (w:=w8) 3 (.slice B' n8 d')).row (HR7.out.keep hb8) HNE.out.1.symm;obtain⟨W8,hW8⟩:∃ W8,w8.setCell ⟨g,3,none⟩ (.slice B' n8 d')=W8:=⟨_,rfl⟩;rw[hW8] at hB8 hr8;obtain⟨l81,l82,ro8⟩:=hB8.t.ld;have p81:=(Row.okw hr8 (cA_length _)).1;have p82:rdA W8 ⟨q,0,none⟩ 35=vA aQ:=(Row.okw hr8 (cA_length _)).2;have H8:=Lib.hid hB8;clear ho8 hb8 hB8 hr8 hn8))
 exact bodyPost_ret (v:=.tuple #[vT r9,.int .i64 0]) (results_c2 (ad:=⟨r0,0,none⟩) rfl rfl (ld_setRowT _ ro9) rfl) rfl ⟨_,rfl,FIN.out⟩
theorem refAnswer_odd (F:List Nat) (s:Tk) (r:Rt) (c:Cm) (w:World) (h:RfAt F s r w) (hF:∀ k∈F,k<w.heap.size) (hn:c.name.size≤1000000) (ht:c.text.size≤1000000) (ha:s.act.length≤100) (hk8:s.kept.length≤100) (hnd:(s.act.map Pt.id).Nodup) (hndk:(s.kept.map Pt.id).Nodup) (hc:chk c=0) (hv:c.verb=3) (k:Nat) (hp:posL s.act c.id=some k) (h1:(ptK s.act k).state=1) (J:Nat) (hpJ:posL s.kept c.id=some J) (hf:c.from_≠(ptK s.kept J).bytes.size) (hf0:c.from_≠0) :
  Calls Tryz.prog 56 #[vT r,vC c] w (RfP F s (.int .i64 2) w):=by
 have HN:=Lib.hid (And.intro hn ht)
 have HND:=Lib.hid (And.intro hnd hndk)
 have HCA:=Lib.hid (show s.act.length≤r.act.2.2 by rw[h.act.1];exact h.act.2.1)
 have HCK:=Lib.hid (show s.kept.length≤r.kept.2.2 by rw[h.kept.1];exact h.kept.2.1)
 obtain⟨g,W1,m,W2,r0,W3,G,hg,hW1,hm,hW2,hr0,hW3,hB⟩:=BxH.new h hF c
 obtain⟨-, -, -, -, -, -,c6,c7⟩:=hB.cmd
 have HB:=Lib.hid hB
 clear hB h hF hn ht hnd hndk
 have HC:=Lib.hid hc
 have HV:=Lib.hid hv
 clear hc hv
 obtain⟨hk, -, -⟩:=pos_some hp
 have HI:=Lib.hid (idx_some hp)
 clear hp
 have hk1:(k:Int)<(s.act.length:Int):=by omega
 have hpk:ptK s.act k=s.act[k]:=ptK_eq hk
 obtain⟨ad,hae, -⟩:=Sl.pt (HB.out.t.rf.act.2.2.1) hk
 have HAE:=Lib.hid hae
 obtain⟨pp,hpp⟩:∃ pp,s.act[k]=pp:=⟨_,rfl⟩
 have HPP:=Lib.hid hpp
 rw[hpk,hpp] at h1
 obtain⟨hJ, -, -⟩:=pos_some hpJ
 have HWK:=Lib.hid (withoutI_eq (x:=c.id) HND.out.2)
 have HJB:=Lib.hid (idx_lt s.kept c.id)
 rw[idx_some hpJ] at HWK HJB
 have HJ:=Lib.hid (idx_some hpJ)
 have hJ1:(J:Int)<(s.kept.length:Int):=by omega
 have hJ0:¬ (J:Int)<0:=by omega
 have hpJk:ptK s.kept J=s.kept[J]:=ptK_eq hJ
 obtain⟨bd,hbd, -⟩:=Sl.pt (HB.out.t.rf.kept.2.2.1) hJ
 have HBD:=Lib.hid hbd
 obtain⟨pk,hpk2⟩:∃ pk,s.kept[J]=pk:=⟨_,rfl⟩
 have HPK:=Lib.hid hpk2
 rw[hpJk,hpk2] at hf
 have z1:(c.from_ != 0)=true:=by simpa using hf0
 have z2:(c.from_ != ((pk.bytes.size:Nat):Int))=true:=by simpa using hf
 clear hae hpk hpp hf hf0 hpJ hpJk hpk2 hbd
 go_enter Tryz.func56,Tryz.ntmps56
 go_upto_region 15 with (first
 | (go_at_call 49;refine (refFind49 r.kept.1 r.kept.2.2 s.kept c.id w5 H5.out.t.rf.kept.2.2.1 (by omega)).mono ?_;rw[HJ.out];rintro e w6 ⟨rfl,hb6⟩;have hB6:=H5.out.keep hb6;have ja6:=hB6.t.ca;rw[HAE.out] at ja6;obtain⟨ad3,hae3,pa1,pa2, -⟩:=Sl.pt (hB6.t.rf.act.2.2.1) hk;obtain rfl:ad=ad3:=Option.some.inj (HAE.out.symm.trans hae3);rw[HPP.out] at pa2;obtain⟨f0, -, -, -, -, -, -, -⟩:=hB6.cmd;rw[HV.out] at f0;obtain⟨q,U,hq,rq,hU,hrq,hBU,ngq,nrq,nmq,leq⟩:=hB6.part pp;obtain⟨-, -, -,u3, -, -, -, -⟩:=hBU.cmd;obtain⟨bd2,hbd2, -, -,hatk⟩:=Sl.pt (hBU.t.rf.kept.2.2.1) hJ;obtain rfl:bd=bd2:=Option.some.inj (HBD.out.symm.trans hbd2);rw[HPK.out] at hatk;have b34:=hatk.f34;have jkU:=hBU.t.ck;rw[HBD.out] at jkU;clear hbd2 hatk;have HU:=Lib.hid hBU;clear hBU hrq;have HNE:=Lib.hid (And.intro ngq (And.intro nrq (And.intro nmq leq)));clear hae3 hb6 hB6)
 | (go_at_call 49;refine (refFind49 (some ad) r.act.2.2 s.act c.id w4 (by have hq:=H4.out.t.rf.act.2.2.1;rw[HAE.out] at hq;exact hq) (by omega)).mono ?_;rw[HI.out];rintro e w5 ⟨rfl,hb5⟩;have hB5:=H4.out.keep hb5;have ja5:=hB5.t.ca;rw[HAE.out] at ja5;obtain⟨ad2,hae2, -, -,hat5⟩:=Sl.pt (hB5.t.rf.act.2.2.1) hk;obtain rfl:ad=ad2:=Option.some.inj (HAE.out.symm.trans hae2);rw[HPP.out] at hat5;have r33:=hat5.f33;rw[h1] at r33;clear hae2;obtain⟨l51,l52,ro5⟩:=hB5.t.ld;obtain⟨e0,e1,e2,e3,e4,e5, -, -⟩:=hB5.cmd;rw[HV.out] at e0;have jk5:=hB5.t.ck;have HAT:=Lib.hid hat5;clear hat5;have H5:=Lib.hid hB5;clear hb5 hB5)
 | (go_at_call 72;refine (refCheck22 c W3 HN.out.1 HN.out.2).mono ?_;rintro e w4 ⟨rfl,hb4⟩;rw[HC.out];have hB4:=HB.out.keep hb4;obtain⟨l41,l42,ro4⟩:=hB4.t.ld;obtain⟨d0,d1,d2,d3,d4,d5, -, -⟩:=hB4.cmd;rw[HV.out] at d0;have ja4:=hB4.t.ca;rw[HAE.out] at ja4;have jk4:=hB4.t.ck;have H4:=Lib.hid hB4;clear hb4 hB4))
 go_quiet (fail)
 generalize hU17:World.drewN _ _=U17
 have hb17:Below U.heap.size U U17:=by rw[← hU17];exact below_drewN _ _
 have hBV:=HU.out.keep hb17
 obtain⟨lv1,lv2,rov⟩:=hBV.t.ld
 have HV7:=Lib.hid hBV
 clear hU17 hb17 hBV pa1 pa2 rq hU r33
 go_wp2
 exact bodyPost_ret (v:=.tuple #[vT r,.int .i64 2]) (results_c2 (ad:=⟨r0,0,none⟩) rfl rfl (ld_setRowT _ rov) rfl) rfl ⟨_,rfl,HV7.out.t.fin⟩
theorem refAnswer_gone (F:List Nat) (s:Tk) (r:Rt) (c:Cm) (w:World) (h:RfAt F s r w) (hF:∀ k∈F,k<w.heap.size) (hn:c.name.size≤1000000) (ht:c.text.size≤1000000) (ha:s.act.length≤100) (hk8:s.kept.length≤100) (hnd:(s.act.map Pt.id).Nodup) (hndk:(s.kept.map Pt.id).Nodup) (hc:chk c=0) (hv:c.verb=3) (k:Nat) (hp:posL s.act c.id=some k) (h1:(ptK s.act k).state=1) (hpJ:posL s.kept c.id=none) (hf0:c.from_≠0) :
  Calls Tryz.prog 56 #[vT r,vC c] w (RfP F s (.int .i64 2) w):=by
 have HN:=Lib.hid (And.intro hn ht)
 have HND:=Lib.hid (And.intro hnd hndk)
 have HCA:=Lib.hid (show s.act.length≤r.act.2.2 by rw[h.act.1];exact h.act.2.1)
 have HCK:=Lib.hid (show s.kept.length≤r.kept.2.2 by rw[h.kept.1];exact h.kept.2.1)
 obtain⟨g,W1,m,W2,r0,W3,G,hg,hW1,hm,hW2,hr0,hW3,hB⟩:=BxH.new h hF c
 obtain⟨-, -, -, -, -, -,c6,c7⟩:=hB.cmd
 have HB:=Lib.hid hB
 clear hB h hF hn ht hnd hndk
 have HC:=Lib.hid hc
 have HV:=Lib.hid hv
 clear hc hv
 obtain⟨hk, -, -⟩:=pos_some hp
 have HI:=Lib.hid (idx_some hp)
 clear hp
 have hk1:(k:Int)<(s.act.length:Int):=by omega
 have hpk:ptK s.act k=s.act[k]:=ptK_eq hk
 obtain⟨ad,hae, -⟩:=Sl.pt (HB.out.t.rf.act.2.2.1) hk
 have HAE:=Lib.hid hae
 obtain⟨pp,hpp⟩:∃ pp,s.act[k]=pp:=⟨_,rfl⟩
 have HPP:=Lib.hid hpp
 rw[hpk,hpp] at h1
 have HJ:=Lib.hid (idx_none hpJ)
 have z1:(c.from_ != 0)=true:=by simpa using hf0
 have z0:((0:Int)≤-1)=False:=by simp
 clear hae hpk hpp hf0 hpJ
 go_enter Tryz.func56,Tryz.ntmps56
 go_upto_region 15 with (first
 | (go_at_call 49;refine (refFind49 r.kept.1 r.kept.2.2 s.kept c.id w5 H5.out.t.rf.kept.2.2.1 (by omega)).mono ?_;rw[HJ.out];rintro e w6 ⟨rfl,hb6⟩;have hB6:=H5.out.keep hb6;have ja6:=hB6.t.ca;rw[HAE.out] at ja6;obtain⟨ad3,hae3,pa1,pa2, -⟩:=Sl.pt (hB6.t.rf.act.2.2.1) hk;obtain rfl:ad=ad3:=Option.some.inj (HAE.out.symm.trans hae3);rw[HPP.out] at pa2;obtain⟨f0, -, -, -, -, -, -, -⟩:=hB6.cmd;rw[HV.out] at f0;obtain⟨q,U,hq,rq,hU,hrq,hBU,ngq,nrq,nmq,leq⟩:=hB6.part pp;obtain⟨-, -, -,u3, -, -, -, -⟩:=hBU.cmd;have HU:=Lib.hid hBU;clear hBU hrq;have HNE:=Lib.hid (And.intro ngq (And.intro nrq (And.intro nmq leq)));clear hae3 hb6 hB6)
 | (go_at_call 49;refine (refFind49 (some ad) r.act.2.2 s.act c.id w4 (by have hq:=H4.out.t.rf.act.2.2.1;rw[HAE.out] at hq;exact hq) (by omega)).mono ?_;rw[HI.out];rintro e w5 ⟨rfl,hb5⟩;have hB5:=H4.out.keep hb5;have ja5:=hB5.t.ca;rw[HAE.out] at ja5;obtain⟨ad2,hae2, -, -,hat5⟩:=Sl.pt (hB5.t.rf.act.2.2.1) hk;obtain rfl:ad=ad2:=Option.some.inj (HAE.out.symm.trans hae2);rw[HPP.out] at hat5;have r33:=hat5.f33;rw[h1] at r33;clear hae2;obtain⟨l51,l52,ro5⟩:=hB5.t.ld;obtain⟨e0,e1,e2,e3,e4,e5, -, -⟩:=hB5.cmd;rw[HV.out] at e0;have jk5:=hB5.t.ck;have HAT:=Lib.hid hat5;clear hat5;have H5:=Lib.hid hB5;clear hb5 hB5)
 | (go_at_call 72;refine (refCheck22 c W3 HN.out.1 HN.out.2).mono ?_;rintro e w4 ⟨rfl,hb4⟩;rw[HC.out];have hB4:=HB.out.keep hb4;obtain⟨l41,l42,ro4⟩:=hB4.t.ld;obtain⟨d0,d1,d2,d3,d4,d5, -, -⟩:=hB4.cmd;rw[HV.out] at d0;have ja4:=hB4.t.ca;rw[HAE.out] at ja4;have jk4:=hB4.t.ck;have H4:=Lib.hid hB4;clear hb4 hB4))
 go_quiet (fail)
 generalize hU17:World.drewN _ _=U17
 have hb17:Below U.heap.size U U17:=by rw[← hU17];exact below_drewN _ _
 have hBV:=HU.out.keep hb17
 obtain⟨lv1,lv2,rov⟩:=hBV.t.ld
 have HV7:=Lib.hid hBV
 clear hU17 hb17 hBV pa1 pa2 rq hU r33
 go_wp2
 exact bodyPost_ret (v:=.tuple #[vT r,.int .i64 2]) (results_c2 (ad:=⟨r0,0,none⟩) rfl rfl (ld_setRowT _ rov) rfl) rfl ⟨_,rfl,HV7.out.t.fin⟩
end
theorem refAnswer56 (F:List Nat) (s:Tk) (r:Rt) (c:Cm) (w:World) (h:RfAt F s r w) (hF:∀ k∈F,k<w.heap.size) (hn:c.name.size≤1000000) (ht:c.text.size≤1000000) (ha:s.act.length≤100) (hk8:s.kept.length≤100) (hnd:(s.act.map Pt.id).Nodup) (hndk:(s.kept.map Pt.id).Nodup) :
  Calls Tryz.prog 56 #[vT r,vC c] w (RfP F (answerT s c).1 (.int .i64 (answerT s c).2.2) w):=by
 unfold answerT
 by_cases hc:chk c≠0
 ·rw[if_pos hc]
  exact refAnswer_bad F s r c w h hF hn ht ha hk8 hnd hndk hc
 rw[if_neg hc]
 have hc0:chk c=0:=Decidable.not_not.1 hc
 by_cases hv:c.verb<3∨6<c.verb
 ·rw[if_pos hv]
  exact refAnswer_kind F s r c w h hF hn ht ha hk8 hnd hndk hc0 hv
 rw[if_neg hv]
 cases hp:posL s.act c.id with
 | none=>exact refAnswer_none F s r c w h hF hn ht ha hk8 hnd hndk hc0 hv hp
 | some k =>
  dsimp only
  by_cases h1:(ptK s.act k).state≠1
  ·rw[if_pos h1]
   exact refAnswer_state F s r c w h hF hn ht ha hk8 hnd hndk hc0 hv k hp h1
  rw[if_neg h1]
  have h1:=Decidable.not_not.1 h1
  by_cases h2:c.verb=3∧c.from_≠0∧c.from_≠gotL s.kept c.id
  ·rw[if_pos h2]
   cases hJ:posL s.kept c.id with
   | none=>exact refAnswer_gone F s r c w h hF hn ht ha hk8 hnd hndk hc0 h2.1 k hp h1 hJ h2.2.1
   | some J=>exact refAnswer_odd F s r c w h hF hn ht ha hk8 hnd hndk hc0 h2.1 k hp h1 J hJ (by have:=h2.2.2;unfold gotL at this;rw[hJ] at this;exact this) h2.2.1
  rw[if_neg h2]
  by_cases h3:c.verb=3
  ·rw[if_pos h3]
   by_cases hf:c.from_=0
   ·exact refAnswer_zero F s r c w h hF hn ht ha hk8 hnd hndk hc0 h3 hf k hp h1
   ·have hg:c.from_=gotL s.kept c.id:=Decidable.not_not.1 fun hn=>h2 ⟨h3,hf,hn⟩
    cases hJ:posL s.kept c.id with
    | none =>
     rw[got_none hJ] at hg
     exact absurd hg hf
    | some J=>exact refAnswer_part F s r c w h hF hn ht ha hk8 hnd hndk hc0 h3 k hp h1 J hJ (by have:=hg;unfold gotL at this;rw[hJ] at this;exact this) hf
  rw[if_neg h3]
  by_cases h5:c.verb=5
  ·rw[if_pos h5]
   exact refAnswer_v5 F s r c w h hF hn ht ha hk8 hnd hndk hc0 h5 k hp h1
  rw[if_neg h5]
  have h46:c.verb=4∨c.verb=6:=by omega
  rcases h46 with h4|h6
  ·exact refAnswer_v4 F s r c w h hF hn ht ha hk8 hnd hndk hc0 h4 k hp h1
  ·exact refAnswer_v6 F s r c w h hF hn ht ha hk8 hnd hndk hc0 h6 k hp h1
end Go.Proofs.YtgojaelkdpabkaaGreatDoor
