/- The reference's Hear: refusals. -/
import Derived.Test.YtgojaelkdpabkaaGreatDoorMRf3
namespace Go.Proofs.YtgojaelkdpabkaaGreatDoor
open Go.RowKit
section
set_option maxRecDepth 100000
set_option maxHeartbeats 3200000
theorem refHear_shut (F:List Nat) (s:Tk) (r:Rt) (c:Cm) (w:World) (h:RfAt F s r w) (hF:∀ k∈F,k<w.heap.size) (hn:c.name.size≤1000000) (ht:c.text.size≤1000000) (ha:s.act.length≤100) (hk8:s.kept.length≤100) (hndk:(s.kept.map Pt.id).Nodup) (hz:∀ p∈s.act,p.bytes.size≤1000000) (ho:s.opn=false) :
  Calls Tryz.prog 55 #[vT r,vC c] w (RhP F s [] [] 10 w):=by
 have HN:=Lib.hid (And.intro hn ht)
 have HND:=Lib.hid (And.intro hndk hz)
 have HCA:=Lib.hid (show s.act.length≤r.act.2.2 by rw[h.act.1];exact h.act.2.1)
 have HCK:=Lib.hid (show s.kept.length≤r.kept.2.2 by rw[h.kept.1];exact h.kept.2.1)
 obtain⟨g,W1,m,W2,r0,W3,G,hg,hW1,hm,hW2,hr0,hW3,hB⟩:=BxH.new h hF c
 obtain⟨-, -, -, -, -, -,c6,c7⟩:=hB.cmd
 obtain⟨l31,l32,ro3⟩:=hB.t.ld
 have o1:W3.cell? ⟨g,1,none⟩=some (.bool s.opn):=by rw[← hB.t.rf.opn];exact hB.t.rg.cell 1
 rw[ho] at o1
 have HB:=Lib.hid hB
 clear hB h hF hn ht hndk hz
 go_enter Tryz.func55,Tryz.ntmps55
 go_wp2
 exact bodyPost_ret (v:=.tuple #[vT r,.slice none 0 0,.slice none 0 0,.int .i64 10]) (results_c4 (ad:=⟨r0,0,none⟩) rfl rfl (ld_setRowT _ ro3) rfl rfl rfl) rfl (RhP.none HB.out.t.fin)
theorem refHear_bad (F:List Nat) (s:Tk) (r:Rt) (c:Cm) (w:World) (h:RfAt F s r w) (hF:∀ k∈F,k<w.heap.size) (hn:c.name.size≤1000000) (ht:c.text.size≤1000000) (ha:s.act.length≤100) (hk8:s.kept.length≤100) (hndk:(s.kept.map Pt.id).Nodup) (hz:∀ p∈s.act,p.bytes.size≤1000000) (ho:s.opn=true) (hc:chk c≠0) :
  Calls Tryz.prog 55 #[vT r,vC c] w (RhP F s [] [] (chk c) w):=by
 have HN:=Lib.hid (And.intro hn ht)
 have HND:=Lib.hid (And.intro hndk hz)
 have HCA:=Lib.hid (show s.act.length≤r.act.2.2 by rw[h.act.1];exact h.act.2.1)
 have HCK:=Lib.hid (show s.kept.length≤r.kept.2.2 by rw[h.kept.1];exact h.kept.2.1)
 obtain⟨g,W1,m,W2,r0,W3,G,hg,hW1,hm,hW2,hr0,hW3,hB⟩:=BxH.new h hF c
 obtain⟨-, -, -, -, -, -,c6,c7⟩:=hB.cmd
 obtain⟨l31,l32,ro3⟩:=hB.t.ld
 have o1:W3.cell? ⟨g,1,none⟩=some (.bool s.opn):=by rw[← hB.t.rf.opn];exact hB.t.rg.cell 1
 rw[ho] at o1
 have HB:=Lib.hid hB
 clear hB h hF hn ht hndk hz
 have q1:(chk c != 0)=true:=by simpa using hc
 obtain⟨n0,hn0⟩:∃ n0,chk c=n0:=⟨_,rfl⟩
 have HC:=Lib.hid hn0
 rw[hn0] at q1 ⊢
 clear hc hn0
 go_enter Tryz.func55,Tryz.ntmps55
 go_wp2_with (first
  | (go_at_call 72;refine (refCheck22 c W3 HN.out.1 HN.out.2).mono ?_;rintro e w4 ⟨rfl,hb4⟩;rw[HC.out];have hB4:=HB.out.keep hb4;obtain⟨l41,l42,ro4⟩:=hB4.t.ld;obtain⟨-,d1,d2, -, -, -, -, -⟩:=hB4.cmd;have ja4:=hB4.t.ca;have H4:=Lib.hid hB4;clear hb4 hB4))
 exact bodyPost_ret (v:=.tuple #[vT r,.slice none 0 0,.slice none 0 0,.int .i64 n0]) (results_c4 (ad:=⟨r0,0,none⟩) rfl rfl (ld_setRowT _ ro4) rfl rfl rfl) rfl (RhP.none H4.out.t.fin)
theorem refHear_kind (F:List Nat) (s:Tk) (r:Rt) (c:Cm) (w:World) (h:RfAt F s r w) (hF:∀ k∈F,k<w.heap.size) (hn:c.name.size≤1000000) (ht:c.text.size≤1000000) (ha:s.act.length≤100) (hk8:s.kept.length≤100) (hndk:(s.kept.map Pt.id).Nodup) (hz:∀ p∈s.act,p.bytes.size≤1000000) (ho:s.opn=true) (hc:chk c=0) (h2:c.verb≠2) (h7:c.verb≠7) (h8:c.verb≠8) :
  Calls Tryz.prog 55 #[vT r,vC c] w (RhP F s [] [] 11 w):=by
 have HN:=Lib.hid (And.intro hn ht)
 have HND:=Lib.hid (And.intro hndk hz)
 have HCA:=Lib.hid (show s.act.length≤r.act.2.2 by rw[h.act.1];exact h.act.2.1)
 have HCK:=Lib.hid (show s.kept.length≤r.kept.2.2 by rw[h.kept.1];exact h.kept.2.1)
 obtain⟨g,W1,m,W2,r0,W3,G,hg,hW1,hm,hW2,hr0,hW3,hB⟩:=BxH.new h hF c
 obtain⟨-, -, -, -, -, -,c6,c7⟩:=hB.cmd
 obtain⟨l31,l32,ro3⟩:=hB.t.ld
 have o1:W3.cell? ⟨g,1,none⟩=some (.bool s.opn):=by rw[← hB.t.rf.opn];exact hB.t.rg.cell 1
 rw[ho] at o1
 have HB:=Lib.hid hB
 clear hB h hF hn ht hndk hz
 have q2:(c.verb==2)=false:=by simpa using h2
 have q7:(c.verb==7)=false:=by simpa using h7
 have q8:(c.verb==8)=false:=by simpa using h8
 have HC:=Lib.hid hc
 obtain⟨jj,hjj⟩:∃ jj,idxL s.act c.id=jj:=⟨_,rfl⟩
 have HI:=Lib.hid hjj
 clear hc h2 h7 h8 hjj
 go_enter Tryz.func55,Tryz.ntmps55
 go_wp2_with (first
  | (go_at_call 49;refine (refFind49 r.act.1 r.act.2.2 s.act c.id w4 H4.out.t.rf.act.2.2.1 (by omega)).mono ?_;rw[HI.out];rintro e w5 ⟨rfl,hb5⟩;have hB5:=H4.out.keep hb5;have ja5:=hB5.t.ca;obtain⟨l51,l52,ro5⟩:=hB5.t.ld;obtain⟨e0,e1,e2,e3,e4,e5, -, -⟩:=hB5.cmd;have o5:w5.cell? ⟨g,0,none⟩=some (.int .i64 s.win):=(by rw[← hB5.t.rf.win];exact hB5.t.rg.cell 0);have jk5:=hB5.t.ck;have H5:=Lib.hid hB5;clear hb5 hB5)
  | (go_at_call 72;refine (refCheck22 c W3 HN.out.1 HN.out.2).mono ?_;rintro e w4 ⟨rfl,hb4⟩;rw[HC.out];have hB4:=HB.out.keep hb4;obtain⟨l41,l42,ro4⟩:=hB4.t.ld;obtain⟨-,d1,d2, -, -, -, -, -⟩:=hB4.cmd;have ja4:=hB4.t.ca;have H4:=Lib.hid hB4;clear hb4 hB4))
 exact bodyPost_ret (v:=.tuple #[vT r,.slice none 0 0,.slice none 0 0,.int .i64 11]) (results_c4 (ad:=⟨r0,0,none⟩) rfl rfl (ld_setRowT _ ro5) rfl rfl rfl) rfl (RhP.none H5.out.t.fin)
theorem refHear_dup (F:List Nat) (s:Tk) (r:Rt) (c:Cm) (w:World) (h:RfAt F s r w) (hF:∀ k∈F,k<w.heap.size) (hn:c.name.size≤1000000) (ht:c.text.size≤1000000) (ha:s.act.length≤100) (hk8:s.kept.length≤100) (hndk:(s.kept.map Pt.id).Nodup) (hz:∀ p∈s.act,p.bytes.size≤1000000) (ho:s.opn=true) (hc:chk c=0) (hv:c.verb=2) (k:Nat) (hp:posL s.act c.id=some k) :
  Calls Tryz.prog 55 #[vT r,vC c] w (RhP F s [] [] 7 w):=by
 have HN:=Lib.hid (And.intro hn ht)
 have HND:=Lib.hid (And.intro hndk hz)
 have HCA:=Lib.hid (show s.act.length≤r.act.2.2 by rw[h.act.1];exact h.act.2.1)
 have HCK:=Lib.hid (show s.kept.length≤r.kept.2.2 by rw[h.kept.1];exact h.kept.2.1)
 obtain⟨g,W1,m,W2,r0,W3,G,hg,hW1,hm,hW2,hr0,hW3,hB⟩:=BxH.new h hF c
 obtain⟨-, -, -, -, -, -,c6,c7⟩:=hB.cmd
 obtain⟨l31,l32,ro3⟩:=hB.t.ld
 have o1:W3.cell? ⟨g,1,none⟩=some (.bool s.opn):=by rw[← hB.t.rf.opn];exact hB.t.rg.cell 1
 rw[ho] at o1
 have HB:=Lib.hid hB
 clear hB h hF hn ht hndk hz
 have HC:=Lib.hid hc
 have HV:=Lib.hid hv
 clear hc hv
 have HI:=Lib.hid (idx_some hp)
 have z0:(0:Int)≤(k:Int):=Int.natCast_nonneg k
 clear hp
 go_enter Tryz.func55,Tryz.ntmps55
 go_wp2_with (first
  | (go_at_call 49;refine (refFind49 r.act.1 r.act.2.2 s.act c.id w4 H4.out.t.rf.act.2.2.1 (by omega)).mono ?_;rw[HI.out];rintro e w5 ⟨rfl,hb5⟩;have hB5:=H4.out.keep hb5;have ja5:=hB5.t.ca;obtain⟨l51,l52,ro5⟩:=hB5.t.ld;obtain⟨e0,e1,e2,e3,e4,e5, -, -⟩:=hB5.cmd;have o5:w5.cell? ⟨g,0,none⟩=some (.int .i64 s.win):=(by rw[← hB5.t.rf.win];exact hB5.t.rg.cell 0);rw[HV.out] at e0;have jk5:=hB5.t.ck;have H5:=Lib.hid hB5;clear hb5 hB5)
  | (go_at_call 72;refine (refCheck22 c W3 HN.out.1 HN.out.2).mono ?_;rintro e w4 ⟨rfl,hb4⟩;rw[HC.out];have hB4:=HB.out.keep hb4;obtain⟨l41,l42,ro4⟩:=hB4.t.ld;obtain⟨-,d1,d2, -, -, -, -, -⟩:=hB4.cmd;have ja4:=hB4.t.ca;have H4:=Lib.hid hB4;clear hb4 hB4))
 exact bodyPost_ret (v:=.tuple #[vT r,.slice none 0 0,.slice none 0 0,.int .i64 7]) (results_c4 (ad:=⟨r0,0,none⟩) rfl rfl (ld_setRowT _ ro5) rfl rfl rfl) rfl (RhP.none H5.out.t.fin)
theorem refHear_full (F:List Nat) (s:Tk) (r:Rt) (c:Cm) (w:World) (h:RfAt F s r w) (hF:∀ k∈F,k<w.heap.size) (hn:c.name.size≤1000000) (ht:c.text.size≤1000000) (ha:s.act.length≤100) (hk8:s.kept.length≤100) (hndk:(s.kept.map Pt.id).Nodup) (hz:∀ p∈s.act,p.bytes.size≤1000000) (ho:s.opn=true) (hc:chk c=0) (hv:c.verb=2) (hp:posL s.act c.id=none) (hf:s.win≤s.act.length) :
  Calls Tryz.prog 55 #[vT r,vC c] w (RhP F s [] [] 9 w):=by
 have HN:=Lib.hid (And.intro hn ht)
 have HND:=Lib.hid (And.intro hndk hz)
 have HCA:=Lib.hid (show s.act.length≤r.act.2.2 by rw[h.act.1];exact h.act.2.1)
 have HCK:=Lib.hid (show s.kept.length≤r.kept.2.2 by rw[h.kept.1];exact h.kept.2.1)
 obtain⟨g,W1,m,W2,r0,W3,G,hg,hW1,hm,hW2,hr0,hW3,hB⟩:=BxH.new h hF c
 obtain⟨-, -, -, -, -, -,c6,c7⟩:=hB.cmd
 obtain⟨l31,l32,ro3⟩:=hB.t.ld
 have o1:W3.cell? ⟨g,1,none⟩=some (.bool s.opn):=by rw[← hB.t.rf.opn];exact hB.t.rg.cell 1
 rw[ho] at o1
 have HB:=Lib.hid hB
 clear hB h hF hn ht hndk hz
 have HC:=Lib.hid hc
 have HV:=Lib.hid hv
 clear hc hv
 have z0:((0:Int)≤-1)=False:=by simp
 have HI:=Lib.hid (idx_none hp)
 clear hp
 go_enter Tryz.func55,Tryz.ntmps55
 go_wp2_with (first
  | (go_at_call 49;refine (refFind49 r.act.1 r.act.2.2 s.act c.id w4 H4.out.t.rf.act.2.2.1 (by omega)).mono ?_;rw[HI.out];rintro e w5 ⟨rfl,hb5⟩;have hB5:=H4.out.keep hb5;have ja5:=hB5.t.ca;obtain⟨l51,l52,ro5⟩:=hB5.t.ld;obtain⟨e0,e1,e2,e3,e4,e5, -, -⟩:=hB5.cmd;have o5:w5.cell? ⟨g,0,none⟩=some (.int .i64 s.win):=(by rw[← hB5.t.rf.win];exact hB5.t.rg.cell 0);rw[HV.out] at e0;have jk5:=hB5.t.ck;have H5:=Lib.hid hB5;clear hb5 hB5)
  | (go_at_call 72;refine (refCheck22 c W3 HN.out.1 HN.out.2).mono ?_;rintro e w4 ⟨rfl,hb4⟩;rw[HC.out];have hB4:=HB.out.keep hb4;obtain⟨l41,l42,ro4⟩:=hB4.t.ld;obtain⟨-,d1,d2, -, -, -, -, -⟩:=hB4.cmd;have ja4:=hB4.t.ca;have H4:=Lib.hid hB4;clear hb4 hB4))
 exact bodyPost_ret (v:=.tuple #[vT r,.slice none 0 0,.slice none 0 0,.int .i64 9]) (results_c4 (ad:=⟨r0,0,none⟩) rfl rfl (ld_setRowT _ ro5) rfl rfl rfl) rfl (RhP.none H5.out.t.fin)
theorem refHear_data_none (F:List Nat) (s:Tk) (r:Rt) (c:Cm) (w:World) (h:RfAt F s r w) (hF:∀ k∈F,k<w.heap.size) (hn:c.name.size≤1000000) (ht:c.text.size≤1000000) (ha:s.act.length≤100) (hk8:s.kept.length≤100) (hndk:(s.kept.map Pt.id).Nodup) (hz:∀ p∈s.act,p.bytes.size≤1000000) (ho:s.opn=true) (hc:chk c=0) (hv:c.verb=7) (hp:posL s.act c.id=none) :
  Calls Tryz.prog 55 #[vT r,vC c] w (RhP F s [] [] 0 w):=by
 have HN:=Lib.hid (And.intro hn ht)
 have HND:=Lib.hid (And.intro hndk hz)
 have HCA:=Lib.hid (show s.act.length≤r.act.2.2 by rw[h.act.1];exact h.act.2.1)
 have HCK:=Lib.hid (show s.kept.length≤r.kept.2.2 by rw[h.kept.1];exact h.kept.2.1)
 obtain⟨g,W1,m,W2,r0,W3,G,hg,hW1,hm,hW2,hr0,hW3,hB⟩:=BxH.new h hF c
 obtain⟨-, -, -, -, -, -,c6,c7⟩:=hB.cmd
 obtain⟨l31,l32,ro3⟩:=hB.t.ld
 have o1:W3.cell? ⟨g,1,none⟩=some (.bool s.opn):=by rw[← hB.t.rf.opn];exact hB.t.rg.cell 1
 rw[ho] at o1
 have HB:=Lib.hid hB
 clear hB h hF hn ht hndk hz
 have HC:=Lib.hid hc
 have HV:=Lib.hid hv
 clear hc hv
 have z0:((0:Int)≤-1)=False:=by simp
 have HI:=Lib.hid (idx_none hp)
 clear hp
 go_enter Tryz.func55,Tryz.ntmps55
 go_wp2_with (first
  | (go_at_call 49;refine (refFind49 r.act.1 r.act.2.2 s.act c.id w4 H4.out.t.rf.act.2.2.1 (by omega)).mono ?_;rw[HI.out];rintro e w5 ⟨rfl,hb5⟩;have hB5:=H4.out.keep hb5;have ja5:=hB5.t.ca;obtain⟨l51,l52,ro5⟩:=hB5.t.ld;obtain⟨e0,e1,e2,e3,e4,e5, -, -⟩:=hB5.cmd;have o5:w5.cell? ⟨g,0,none⟩=some (.int .i64 s.win):=(by rw[← hB5.t.rf.win];exact hB5.t.rg.cell 0);rw[HV.out] at e0;have jk5:=hB5.t.ck;have H5:=Lib.hid hB5;clear hb5 hB5)
  | (go_at_call 72;refine (refCheck22 c W3 HN.out.1 HN.out.2).mono ?_;rintro e w4 ⟨rfl,hb4⟩;rw[HC.out];have hB4:=HB.out.keep hb4;obtain⟨l41,l42,ro4⟩:=hB4.t.ld;obtain⟨-,d1,d2, -, -, -, -, -⟩:=hB4.cmd;have ja4:=hB4.t.ca;have H4:=Lib.hid hB4;clear hb4 hB4))
 exact bodyPost_ret (v:=.tuple #[vT r,.slice none 0 0,.slice none 0 0,.int .i64 0]) (results_c4 (ad:=⟨r0,0,none⟩) rfl rfl (ld_setRowT _ ro5) rfl rfl rfl) rfl (RhP.none H5.out.t.fin)
theorem refHear_data_odd (F:List Nat) (s:Tk) (r:Rt) (c:Cm) (w:World) (h:RfAt F s r w) (hF:∀ k∈F,k<w.heap.size) (hn:c.name.size≤1000000) (ht:c.text.size≤1000000) (ha:s.act.length≤100) (hk8:s.kept.length≤100) (hndk:(s.kept.map Pt.id).Nodup) (hz:∀ p∈s.act,p.bytes.size≤1000000) (ho:s.opn=true) (hc:chk c=0) (hv:c.verb=7) (k:Nat) (hp:posL s.act c.id=some k) (h1:(ptK s.act k).state≠2) :
  Calls Tryz.prog 55 #[vT r,vC c] w (RhP F s [] [] 0 w):=by
 have HN:=Lib.hid (And.intro hn ht)
 have HND:=Lib.hid (And.intro hndk hz)
 have HCA:=Lib.hid (show s.act.length≤r.act.2.2 by rw[h.act.1];exact h.act.2.1)
 have HCK:=Lib.hid (show s.kept.length≤r.kept.2.2 by rw[h.kept.1];exact h.kept.2.1)
 obtain⟨g,W1,m,W2,r0,W3,G,hg,hW1,hm,hW2,hr0,hW3,hB⟩:=BxH.new h hF c
 obtain⟨-, -, -, -, -, -,c6,c7⟩:=hB.cmd
 obtain⟨l31,l32,ro3⟩:=hB.t.ld
 have o1:W3.cell? ⟨g,1,none⟩=some (.bool s.opn):=by rw[← hB.t.rf.opn];exact hB.t.rg.cell 1
 rw[ho] at o1
 have HB:=Lib.hid hB
 clear hB h hF hn ht hndk hz
 have HC:=Lib.hid hc
 have HV:=Lib.hid hv
 clear hc hv
 obtain⟨hk, -, -⟩:=pos_some hp
 have HI:=Lib.hid (idx_some hp)
 clear hp
 have hk1:(k:Int)<(s.act.length:Int):=by omega
 have hpk:ptK s.act k=s.act[k]:=ptK_eq hk
 obtain⟨ad,hae, -⟩:=Sl.pt (HB.out.t.rf.act.2.2.1) hk
 have HAE:=Lib.hid hae
 obtain⟨pp,hpp⟩:∃ pp,s.act[k]=pp:=⟨_,rfl⟩
 have HPP:=Lib.hid hpp
 rw[hpk,hpp] at h1
 have q3:(pp.state != 2)=true:=by simpa using h1
 have z1:¬ (k:Int)<0:=by omega
 clear hae hpk hpp h1
 go_enter Tryz.func55,Tryz.ntmps55
 go_wp2_with (first
  | (go_at_call 49;refine (refFind49 (some ad) r.act.2.2 s.act c.id w4 (by have hq:=H4.out.t.rf.act.2.2.1;rw[HAE.out] at hq;exact hq) (by omega)).mono ?_;rw[HI.out];rintro e w5 ⟨rfl,hb5⟩;have hB5:=H4.out.keep hb5;have ja5:=hB5.t.ca;rw[HAE.out] at ja5;obtain⟨ad2,hae2,pa1,pa2,hat5⟩:=Sl.pt (hB5.t.rf.act.2.2.1) hk;obtain rfl:ad=ad2:=Option.some.inj (HAE.out.symm.trans hae2);rw[HPP.out] at pa2 hat5;have r33:=hat5.f33;clear hae2 hat5;obtain⟨l51,l52,ro5⟩:=hB5.t.ld;obtain⟨e0,e1,e2,e3,e4,e5, -, -⟩:=hB5.cmd;have o5:w5.cell? ⟨g,0,none⟩=some (.int .i64 s.win):=(by rw[← hB5.t.rf.win];exact hB5.t.rg.cell 0);rw[HV.out] at e0;have jk5:=hB5.t.ck;have H5:=Lib.hid hB5;clear hb5 hB5)
  | (go_at_call 72;refine (refCheck22 c W3 HN.out.1 HN.out.2).mono ?_;rintro e w4 ⟨rfl,hb4⟩;rw[HC.out];have hB4:=HB.out.keep hb4;obtain⟨l41,l42,ro4⟩:=hB4.t.ld;obtain⟨-,d1,d2, -, -, -, -, -⟩:=hB4.cmd;have ja4:=hB4.t.ca;rw[HAE.out] at ja4;have H4:=Lib.hid hB4;clear hb4 hB4))
 exact bodyPost_ret (v:=.tuple #[vT r,.slice none 0 0,.slice none 0 0,.int .i64 0]) (results_c4 (ad:=⟨r0,0,none⟩) rfl rfl (ld_setRowT _ ro5) rfl rfl rfl) rfl (RhP.none H5.out.t.fin)
theorem refHear_done_none (F:List Nat) (s:Tk) (r:Rt) (c:Cm) (w:World) (h:RfAt F s r w) (hF:∀ k∈F,k<w.heap.size) (hn:c.name.size≤1000000) (ht:c.text.size≤1000000) (ha:s.act.length≤100) (hk8:s.kept.length≤100) (hndk:(s.kept.map Pt.id).Nodup) (hz:∀ p∈s.act,p.bytes.size≤1000000) (ho:s.opn=true) (hc:chk c=0) (hv:c.verb=8) (hp:posL s.act c.id=none) :
  Calls Tryz.prog 55 #[vT r,vC c] w (RhP F s [] [] 0 w):=by
 have HN:=Lib.hid (And.intro hn ht)
 have HND:=Lib.hid (And.intro hndk hz)
 have HCA:=Lib.hid (show s.act.length≤r.act.2.2 by rw[h.act.1];exact h.act.2.1)
 have HCK:=Lib.hid (show s.kept.length≤r.kept.2.2 by rw[h.kept.1];exact h.kept.2.1)
 obtain⟨g,W1,m,W2,r0,W3,G,hg,hW1,hm,hW2,hr0,hW3,hB⟩:=BxH.new h hF c
 obtain⟨-, -, -, -, -, -,c6,c7⟩:=hB.cmd
 obtain⟨l31,l32,ro3⟩:=hB.t.ld
 have o1:W3.cell? ⟨g,1,none⟩=some (.bool s.opn):=by rw[← hB.t.rf.opn];exact hB.t.rg.cell 1
 rw[ho] at o1
 have HB:=Lib.hid hB
 clear hB h hF hn ht hndk hz
 have HC:=Lib.hid hc
 have HV:=Lib.hid hv
 clear hc hv
 have z0:((0:Int)≤-1)=False:=by simp
 have HI:=Lib.hid (idx_none hp)
 clear hp
 go_enter Tryz.func55,Tryz.ntmps55
 go_wp2_with (first
  | (go_at_call 49;refine (refFind49 r.act.1 r.act.2.2 s.act c.id w4 H4.out.t.rf.act.2.2.1 (by omega)).mono ?_;rw[HI.out];rintro e w5 ⟨rfl,hb5⟩;have hB5:=H4.out.keep hb5;have ja5:=hB5.t.ca;obtain⟨l51,l52,ro5⟩:=hB5.t.ld;obtain⟨e0,e1,e2,e3,e4,e5, -, -⟩:=hB5.cmd;have o5:w5.cell? ⟨g,0,none⟩=some (.int .i64 s.win):=(by rw[← hB5.t.rf.win];exact hB5.t.rg.cell 0);rw[HV.out] at e0;have jk5:=hB5.t.ck;have H5:=Lib.hid hB5;clear hb5 hB5)
  | (go_at_call 72;refine (refCheck22 c W3 HN.out.1 HN.out.2).mono ?_;rintro e w4 ⟨rfl,hb4⟩;rw[HC.out];have hB4:=HB.out.keep hb4;obtain⟨l41,l42,ro4⟩:=hB4.t.ld;obtain⟨-,d1,d2, -, -, -, -, -⟩:=hB4.cmd;have ja4:=hB4.t.ca;have H4:=Lib.hid hB4;clear hb4 hB4))
 exact bodyPost_ret (v:=.tuple #[vT r,.slice none 0 0,.slice none 0 0,.int .i64 0]) (results_c4 (ad:=⟨r0,0,none⟩) rfl rfl (ld_setRowT _ ro5) rfl rfl rfl) rfl (RhP.none H5.out.t.fin)
theorem refHear_done_odd (F:List Nat) (s:Tk) (r:Rt) (c:Cm) (w:World) (h:RfAt F s r w) (hF:∀ k∈F,k<w.heap.size) (hn:c.name.size≤1000000) (ht:c.text.size≤1000000) (ha:s.act.length≤100) (hk8:s.kept.length≤100) (hndk:(s.kept.map Pt.id).Nodup) (hz:∀ p∈s.act,p.bytes.size≤1000000) (ho:s.opn=true) (hc:chk c=0) (hv:c.verb=8) (k:Nat) (hp:posL s.act c.id=some k) (h1:(ptK s.act k).state≠2) :
  Calls Tryz.prog 55 #[vT r,vC c] w (RhP F s [] [] 0 w):=by
 have HN:=Lib.hid (And.intro hn ht)
 have HND:=Lib.hid (And.intro hndk hz)
 have HCA:=Lib.hid (show s.act.length≤r.act.2.2 by rw[h.act.1];exact h.act.2.1)
 have HCK:=Lib.hid (show s.kept.length≤r.kept.2.2 by rw[h.kept.1];exact h.kept.2.1)
 obtain⟨g,W1,m,W2,r0,W3,G,hg,hW1,hm,hW2,hr0,hW3,hB⟩:=BxH.new h hF c
 obtain⟨-, -, -, -, -, -,c6,c7⟩:=hB.cmd
 obtain⟨l31,l32,ro3⟩:=hB.t.ld
 have o1:W3.cell? ⟨g,1,none⟩=some (.bool s.opn):=by rw[← hB.t.rf.opn];exact hB.t.rg.cell 1
 rw[ho] at o1
 have HB:=Lib.hid hB
 clear hB h hF hn ht hndk hz
 have HC:=Lib.hid hc
 have HV:=Lib.hid hv
 clear hc hv
 obtain⟨hk, -, -⟩:=pos_some hp
 have HI:=Lib.hid (idx_some hp)
 clear hp
 have hk1:(k:Int)<(s.act.length:Int):=by omega
 have hpk:ptK s.act k=s.act[k]:=ptK_eq hk
 obtain⟨ad,hae, -⟩:=Sl.pt (HB.out.t.rf.act.2.2.1) hk
 have HAE:=Lib.hid hae
 obtain⟨pp,hpp⟩:∃ pp,s.act[k]=pp:=⟨_,rfl⟩
 have HPP:=Lib.hid hpp
 rw[hpk,hpp] at h1
 have q3:(pp.state != 2)=true:=by simpa using h1
 have z1:¬ (k:Int)<0:=by omega
 clear hae hpk hpp h1
 go_enter Tryz.func55,Tryz.ntmps55
 go_wp2_with (first
  | (go_at_call 49;refine (refFind49 (some ad) r.act.2.2 s.act c.id w4 (by have hq:=H4.out.t.rf.act.2.2.1;rw[HAE.out] at hq;exact hq) (by omega)).mono ?_;rw[HI.out];rintro e w5 ⟨rfl,hb5⟩;have hB5:=H4.out.keep hb5;have ja5:=hB5.t.ca;rw[HAE.out] at ja5;obtain⟨ad2,hae2,pa1,pa2,hat5⟩:=Sl.pt (hB5.t.rf.act.2.2.1) hk;obtain rfl:ad=ad2:=Option.some.inj (HAE.out.symm.trans hae2);rw[HPP.out] at pa2 hat5;have r33:=hat5.f33;clear hae2 hat5;obtain⟨l51,l52,ro5⟩:=hB5.t.ld;obtain⟨e0,e1,e2,e3,e4,e5, -, -⟩:=hB5.cmd;have o5:w5.cell? ⟨g,0,none⟩=some (.int .i64 s.win):=(by rw[← hB5.t.rf.win];exact hB5.t.rg.cell 0);rw[HV.out] at e0;have jk5:=hB5.t.ck;have H5:=Lib.hid hB5;clear hb5 hB5)
  | (go_at_call 72;refine (refCheck22 c W3 HN.out.1 HN.out.2).mono ?_;rintro e w4 ⟨rfl,hb4⟩;rw[HC.out];have hB4:=HB.out.keep hb4;obtain⟨l41,l42,ro4⟩:=hB4.t.ld;obtain⟨-,d1,d2, -, -, -, -, -⟩:=hB4.cmd;have ja4:=hB4.t.ca;rw[HAE.out] at ja4;have H4:=Lib.hid hB4;clear hb4 hB4))
 exact bodyPost_ret (v:=.tuple #[vT r,.slice none 0 0,.slice none 0 0,.int .i64 0]) (results_c4 (ad:=⟨r0,0,none⟩) rfl rfl (ld_setRowT _ ro5) rfl rfl rfl) rfl (RhP.none H5.out.t.fin)
end
end Go.Proofs.YtgojaelkdpabkaaGreatDoor
