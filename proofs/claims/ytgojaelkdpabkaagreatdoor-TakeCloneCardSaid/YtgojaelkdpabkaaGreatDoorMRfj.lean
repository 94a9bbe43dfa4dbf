/- The reference's Hear: data and ends. -/
import Derived.Test.YtgojaelkdpabkaaGreatDoorMRf3
namespace Go.Proofs.YtgojaelkdpabkaaGreatDoor
open Go.RowKit
section
set_option maxRecDepth 100000
set_option maxHeartbeats 3200000
theorem refHear_data_seq (F:List Nat) (s:Tk) (r:Rt) (c:Cm) (w:World) (h:RfAt F s r w) (hF:∀ k∈F,k<w.heap.size) (hn:c.name.size≤1000000) (ht:c.text.size≤1000000) (ha:s.act.length≤100) (hk8:s.kept.length≤100) (hndk:(s.kept.map Pt.id).Nodup) (hz:∀ p∈s.act,p.bytes.size≤1000000) (ho:s.opn=true) (hc:chk c=0) (hv:c.verb=7) (k:Nat) (hp:posL s.act c.id=some k) (h1:(ptK s.act k).state=2) (hf:c.from_≠(ptK s.act k).bytes.size) :
  Calls Tryz.prog 55 #[vT r,vC c] w (RhP F s [] [] 30 w):=by
 have HN:=Lib.hid (And.intro hn ht)
 have HND:=Lib.hid (And.intro hndk hz)
 have HCA:=Lib.hid (show s.act.length≤r.act.2.2 by rw[h.act.1];exact h.act.2.1)
 have HCK:=Lib.hid (show s.kept.length≤r.kept.2.2 by rw[h.kept.1];exact h.kept.2.1)
 obtain⟨g,W1,m,W2,r0,W3,G,hg,hW1,hm,hW2,hr0,hW3,hB⟩:=BxH.new h hF c
 obtain⟨-, -, -, -, -, -,c6,c7⟩:=hB.cmd
 obtain⟨l31,l32,ro3⟩:=hB.t.ld
 have o1:W3.cell? ⟨g,1,none⟩=some (.bool s.opn):=by rw[← hB.t.rf.opn];exact hB.t.rg.cell 1
 rw[ho] at o1
 have HB:=Lib.hid hB
 clear hB h hF hn ht hndk hz
 have HC:=Lib.hid hc
 have HV:=Lib.hid hv
 clear hc hv
 obtain⟨hk, -, -⟩:=pos_some hp
 have HI:=Lib.hid (idx_some hp)
 clear hp
 have hk1:(k:Int)<(s.act.length:Int):=by omega
 have hpk:ptK s.act k=s.act[k]:=ptK_eq hk
 obtain⟨ad,hae, -⟩:=Sl.pt (HB.out.t.rf.act.2.2.1) hk
 have HAE:=Lib.hid hae
 obtain⟨pp,hpp⟩:∃ pp,s.act[k]=pp:=⟨_,rfl⟩
 have HPP:=Lib.hid hpp
 rw[hpk,hpp] at h1
 have z1:¬ (k:Int)<0:=by omega
 have hsz:pp.bytes.size≤1000000:=by rw[← hpp];exact HND.out.2 _ (List.getElem_mem hk)
 rw[hpk,hpp] at hf
 have z2:(c.from_ != ((pp.bytes.size:Nat):Int))=true:=by simpa using hf
 clear hf
 clear hae hpk hpp
 go_enter Tryz.func55,Tryz.ntmps55
 go_wp2_with (first
  | (go_at_call 49;refine (refFind49 (some ad) r.act.2.2 s.act c.id w4 (by have hq:=H4.out.t.rf.act.2.2.1;rw[HAE.out] at hq;exact hq) (by omega)).mono ?_;rw[HI.out];rintro e w5 ⟨rfl,hb5⟩;have hB5:=H4.out.keep hb5;have ja5:=hB5.t.ca;rw[HAE.out] at ja5;obtain⟨ad2,hae2,pa1,pa2,hat5⟩:=Sl.pt (hB5.t.rf.act.2.2.1) hk;obtain rfl:ad=ad2:=Option.some.inj (HAE.out.symm.trans hae2);rw[HPP.out] at pa2 hat5;have r33:=hat5.f33;rw[h1] at r33;clear hae2 hat5;obtain⟨l51,l52,ro5⟩:=hB5.t.ld;obtain⟨e0,e1,e2,e3,e4,e5, -, -⟩:=hB5.cmd;have o5:w5.cell? ⟨g,0,none⟩=some (.int .i64 s.win):=(by rw[← hB5.t.rf.win];exact hB5.t.rg.cell 0);rw[HV.out] at e0;have jk5:=hB5.t.ck;obtain⟨q,U,hq,rq,hU,hrq,hBU,ngq,nrq,nmq,leq⟩:=hB5.part pp;obtain⟨-, -, -,u3, -,u5, -, -⟩:=hBU.cmd;have u32:=(hrq.cell 32).trans (cA_at (aA_32 pp));have u34:=(hrq.cell 34).trans (cA_at (aA_34 pp));have HNE:=Lib.hid (And.intro ngq (And.intro nrq (And.intro nmq leq)));obtain⟨lu1,lu2,rou⟩:=hBU.t.ld;have HU:=Lib.hid hBU;clear hrq hBU;have H5:=Lib.hid hB5;clear hb5 hB5)
  | (go_at_call 72;refine (refCheck22 c W3 HN.out.1 HN.out.2).mono ?_;rintro e w4 ⟨rfl,hb4⟩;rw[HC.out];have hB4:=HB.out.keep hb4;obtain⟨l41,l42,ro4⟩:=hB4.t.ld;obtain⟨-,d1,d2, -, -, -, -, -⟩:=hB4.cmd;have ja4:=hB4.t.ca;rw[HAE.out] at ja4;have H4:=Lib.hid hB4;clear hb4 hB4))
 exact bodyPost_ret (v:=.tuple #[vT r,.slice none 0 0,.slice none 0 0,.int .i64 30]) (results_c4 (ad:=⟨r0,0,none⟩) rfl rfl (ld_setRowT _ rou) rfl rfl rfl) rfl (RhP.none HU.out.t.fin)
theorem refHear_data_long (F:List Nat) (s:Tk) (r:Rt) (c:Cm) (w:World) (h:RfAt F s r w) (hF:∀ k∈F,k<w.heap.size) (hn:c.name.size≤1000000) (ht:c.text.size≤1000000) (ha:s.act.length≤100) (hk8:s.kept.length≤100) (hndk:(s.kept.map Pt.id).Nodup) (hz:∀ p∈s.act,p.bytes.size≤1000000) (ho:s.opn=true) (hc:chk c=0) (hv:c.verb=7) (k:Nat) (hp:posL s.act c.id=some k) (h1:(ptK s.act k).state=2) (hf:c.from_=(ptK s.act k).bytes.size) (hl:(ptK s.act k).size<(ptK s.act k).bytes.size+c.text.size) :
  Calls Tryz.prog 55 #[vT r,vC c] w (RhP F s [] [] 5 w):=by
 have HN:=Lib.hid (And.intro hn ht)
 have HND:=Lib.hid (And.intro hndk hz)
 have HCA:=Lib.hid (show s.act.length≤r.act.2.2 by rw[h.act.1];exact h.act.2.1)
 have HCK:=Lib.hid (show s.kept.length≤r.kept.2.2 by rw[h.kept.1];exact h.kept.2.1)
 obtain⟨g,W1,m,W2,r0,W3,G,hg,hW1,hm,hW2,hr0,hW3,hB⟩:=BxH.new h hF c
 obtain⟨-, -, -, -, -, -,c6,c7⟩:=hB.cmd
 obtain⟨l31,l32,ro3⟩:=hB.t.ld
 have o1:W3.cell? ⟨g,1,none⟩=some (.bool s.opn):=by rw[← hB.t.rf.opn];exact hB.t.rg.cell 1
 rw[ho] at o1
 have HB:=Lib.hid hB
 clear hB h hF hn ht hndk hz
 have HC:=Lib.hid hc
 have HV:=Lib.hid hv
 clear hc hv
 obtain⟨hk, -, -⟩:=pos_some hp
 have HI:=Lib.hid (idx_some hp)
 clear hp
 have hk1:(k:Int)<(s.act.length:Int):=by omega
 have hpk:ptK s.act k=s.act[k]:=ptK_eq hk
 obtain⟨ad,hae, -⟩:=Sl.pt (HB.out.t.rf.act.2.2.1) hk
 have HAE:=Lib.hid hae
 obtain⟨pp,hpp⟩:∃ pp,s.act[k]=pp:=⟨_,rfl⟩
 have HPP:=Lib.hid hpp
 rw[hpk,hpp] at h1
 have z1:¬ (k:Int)<0:=by omega
 have hsz:pp.bytes.size≤1000000:=by rw[← hpp];exact HND.out.2 _ (List.getElem_mem hk)
 rw[hpk,hpp] at hf
 have HF0:=Lib.hid hf
 have hwr:IntKind.i64.wrap (((pp.bytes.size:Nat):Int)+((c.text.size:Nat):Int))=((pp.bytes.size:Nat):Int)+((c.text.size:Nat):Int):=by have:=HN.out.2;rw[IntKind.wrap_i64];omega
 rw[hpk,hpp] at hl
 clear hf
 clear hae hpk hpp
 go_enter Tryz.func55,Tryz.ntmps55
 go_wp2_with (first
  | (go_at_call 49;refine (refFind49 (some ad) r.act.2.2 s.act c.id w4 (by have hq:=H4.out.t.rf.act.2.2.1;rw[HAE.out] at hq;exact hq) (by omega)).mono ?_;rw[HI.out];rintro e w5 ⟨rfl,hb5⟩;have hB5:=H4.out.keep hb5;have ja5:=hB5.t.ca;rw[HAE.out] at ja5;obtain⟨ad2,hae2,pa1,pa2,hat5⟩:=Sl.pt (hB5.t.rf.act.2.2.1) hk;obtain rfl:ad=ad2:=Option.some.inj (HAE.out.symm.trans hae2);rw[HPP.out] at pa2 hat5;have r33:=hat5.f33;rw[h1] at r33;clear hae2 hat5;obtain⟨l51,l52,ro5⟩:=hB5.t.ld;obtain⟨e0,e1,e2,e3,e4,e5, -, -⟩:=hB5.cmd;have o5:w5.cell? ⟨g,0,none⟩=some (.int .i64 s.win):=(by rw[← hB5.t.rf.win];exact hB5.t.rg.cell 0);rw[HV.out] at e0;have jk5:=hB5.t.ck;obtain⟨q,U,hq,rq,hU,hrq,hBU,ngq,nrq,nmq,leq⟩:=hB5.part pp;obtain⟨-, -, -,u3, -,u5, -, -⟩:=hBU.cmd;have u32:=(hrq.cell 32).trans (cA_at (aA_32 pp));have u34:=(hrq.cell 34).trans (cA_at (aA_34 pp));have HNE:=Lib.hid (And.intro ngq (And.intro nrq (And.intro nmq leq)));rw[HF0.out] at u3;obtain⟨lu1,lu2,rou⟩:=hBU.t.ld;have HU:=Lib.hid hBU;clear hrq hBU;have H5:=Lib.hid hB5;clear hb5 hB5)
  | (go_at_call 72;refine (refCheck22 c W3 HN.out.1 HN.out.2).mono ?_;rintro e w4 ⟨rfl,hb4⟩;rw[HC.out];have hB4:=HB.out.keep hb4;obtain⟨l41,l42,ro4⟩:=hB4.t.ld;obtain⟨-,d1,d2, -, -, -, -, -⟩:=hB4.cmd;have ja4:=hB4.t.ca;rw[HAE.out] at ja4;have H4:=Lib.hid hB4;clear hb4 hB4))
 exact bodyPost_ret (v:=.tuple #[vT r,.slice none 0 0,.slice none 0 0,.int .i64 5]) (results_c4 (ad:=⟨r0,0,none⟩) rfl rfl (ld_setRowT _ rou) rfl rfl rfl) rfl (RhP.none HU.out.t.fin)
theorem refHear_data_ok (F:List Nat) (s:Tk) (r:Rt) (c:Cm) (w:World) (h:RfAt F s r w) (hF:∀ k∈F,k<w.heap.size) (hn:c.name.size≤1000000) (ht:c.text.size≤1000000) (ha:s.act.length≤100) (hk8:s.kept.length≤100) (hndk:(s.kept.map Pt.id).Nodup) (hz:∀ p∈s.act,p.bytes.size≤1000000) (ho:s.opn=true) (hc:chk c=0) (hv:c.verb=7) (k:Nat) (hp:posL s.act c.id=some k) (h1:(ptK s.act k).state=2) (hf:c.from_=(ptK s.act k).bytes.size) (hl:¬ (ptK s.act k).size<(ptK s.act k).bytes.size+c.text.size) :
  Calls Tryz.prog 55 #[vT r,vC c] w (RhP F { s with act:=s.act.set k (addB (ptK s.act k) c.text) } [] [] 0 w):=by
 have HN:=Lib.hid (And.intro hn ht)
 have HND:=Lib.hid (And.intro hndk hz)
 have HCA:=Lib.hid (show s.act.length≤r.act.2.2 by rw[h.act.1];exact h.act.2.1)
 have HCK:=Lib.hid (show s.kept.length≤r.kept.2.2 by rw[h.kept.1];exact h.kept.2.1)
 obtain⟨g,W1,m,W2,r0,W3,G,hg,hW1,hm,hW2,hr0,hW3,hB⟩:=BxH.new h hF c
 obtain⟨-, -, -, -, -, -,c6,c7⟩:=hB.cmd
 obtain⟨l31,l32,ro3⟩:=hB.t.ld
 have o1:W3.cell? ⟨g,1,none⟩=some (.bool s.opn):=by rw[← hB.t.rf.opn];exact hB.t.rg.cell 1
 rw[ho] at o1
 have HB:=Lib.hid hB
 clear hB h hF hn ht hndk hz
 have HC:=Lib.hid hc
 have HV:=Lib.hid hv
 clear hc hv
 obtain⟨hk, -, -⟩:=pos_some hp
 have HI:=Lib.hid (idx_some hp)
 clear hp
 have hk1:(k:Int)<(s.act.length:Int):=by omega
 have hpk:ptK s.act k=s.act[k]:=ptK_eq hk
 obtain⟨ad,hae, -⟩:=Sl.pt (HB.out.t.rf.act.2.2.1) hk
 have HAE:=Lib.hid hae
 obtain⟨pp,hpp⟩:∃ pp,s.act[k]=pp:=⟨_,rfl⟩
 have HPP:=Lib.hid hpp
 rw[hpk,hpp] at h1
 have z1:¬ (k:Int)<0:=by omega
 have hsz:pp.bytes.size≤1000000:=by rw[← hpp];exact HND.out.2 _ (List.getElem_mem hk)
 rw[hpk,hpp] at hf
 have HF0:=Lib.hid hf
 have hwr:IntKind.i64.wrap (((pp.bytes.size:Nat):Int)+((c.text.size:Nat):Int))=((pp.bytes.size:Nat):Int)+((c.text.size:Nat):Int):=by have:=HN.out.2;rw[IntKind.wrap_i64];omega
 rw[hpk,hpp] at hl
 obtain⟨aQ,haQ⟩:∃ aQ:Pt,{ pp with bytes:=pp.bytes++c.text }=aQ:=⟨_,rfl⟩
 have HQ:=Lib.hid haQ
 have hcat:¬ 9223372036854775807<pp.bytes.size+c.text.size:=by have:=HN.out.2;omega
 rw[show addB (ptK s.act k) c.text=aQ by rw[hpk,hpp];exact haQ]
 clear hf haQ
 clear hae hpk hpp
 go_enter Tryz.func55,Tryz.ntmps55
 go_wp2_with (first
  | (go_at_call 74;refine (refChanged74 (q :: G) _ _ k aQ U2 H7.out.t.rf H7.out.t.lt hk ha).mono ?_;rintro e w9 ⟨r9,rfl,hr9,hb9⟩;obtain⟨ro9,fin9⟩:=H7.out.finC hr9 hb9;have FIN:=Lib.hid fin9;clear hr9 hb9 fin9)
  | (go_at_call 49;refine (refFind49 (some ad) r.act.2.2 s.act c.id w4 (by have hq:=H4.out.t.rf.act.2.2.1;rw[HAE.out] at hq;exact hq) (by omega)).mono ?_;rw[HI.out];rintro e w5 ⟨rfl,hb5⟩;have hB5:=H4.out.keep hb5;have ja5:=hB5.t.ca;rw[HAE.out] at ja5;obtain⟨ad2,hae2,pa1,pa2,hat5⟩:=Sl.pt (hB5.t.rf.act.2.2.1) hk;obtain rfl:ad=ad2:=Option.some.inj (HAE.out.symm.trans hae2);rw[HPP.out] at pa2 hat5;have r33:=hat5.f33;rw[h1] at r33;clear hae2 hat5;obtain⟨l51,l52,ro5⟩:=hB5.t.ld;obtain⟨e0,e1,e2,e3,e4,e5, -, -⟩:=hB5.cmd;have o5:w5.cell? ⟨g,0,none⟩=some (.int .i64 s.win):=(by rw[← hB5.t.rf.win];exact hB5.t.rg.cell 0);rw[HV.out] at e0;have jk5:=hB5.t.ck;obtain⟨q,U,hq,rq,hU,hrq,hBU,ngq,nrq,nmq,leq⟩:=hB5.part pp;obtain⟨-, -, -,u3, -,u5, -, -⟩:=hBU.cmd;have u32:=(hrq.cell 32).trans (cA_at (aA_32 pp));have u34:=(hrq.cell 34).trans (cA_at (aA_34 pp));have HNE:=Lib.hid (And.intro ngq (And.intro nrq (And.intro nmq leq)));rw[HF0.out] at u3;obtain⟨z33,hr7,hB7⟩:=hBU.setP hrq List.mem_cons_self ngq nrq nmq leq 34 (.string (pp.bytes++c.text)) (a':=aQ) ((cA_set34 pp (pp.bytes++c.text)).trans (congrArg cA HQ.out));obtain⟨U2,hU2⟩:∃ U2,U.setCell ⟨q,34,none⟩ (.string (pp.bytes++c.text))=U2:=⟨_,rfl⟩;rw[hU2] at hr7 hB7;obtain⟨l71,l72,ro7⟩:=hB7.t.ld;have p71:=(Row.okw hr7 (cA_length _)).1;have p72:rdA U2 ⟨q,0,none⟩ 35=vA aQ:=(Row.okw hr7 (cA_length _)).2;have H7:=Lib.hid hB7;have HR7:=Lib.hid hr7;clear hr7 hB7;clear hrq hBU;have H5:=Lib.hid hB5;clear hb5 hB5)
  | (go_at_call 72;refine (refCheck22 c W3 HN.out.1 HN.out.2).mono ?_;rintro e w4 ⟨rfl,hb4⟩;rw[HC.out];have hB4:=HB.out.keep hb4;obtain⟨l41,l42,ro4⟩:=hB4.t.ld;obtain⟨-,d1,d2, -, -, -, -, -⟩:=hB4.cmd;have ja4:=hB4.t.ca;rw[HAE.out] at ja4;have H4:=Lib.hid hB4;clear hb4 hB4))
 exact bodyPost_ret (v:=.tuple #[vT r9,.slice none 0 0,.slice none 0 0,.int .i64 0]) (results_c4 (ad:=⟨r0,0,none⟩) rfl rfl (ld_setRowT _ ro9) rfl rfl rfl) rfl (RhP.none FIN.out)
theorem refHear_done_short (F:List Nat) (s:Tk) (r:Rt) (c:Cm) (w:World) (h:RfAt F s r w) (hF:∀ k∈F,k<w.heap.size) (hn:c.name.size≤1000000) (ht:c.text.size≤1000000) (ha:s.act.length≤100) (hk8:s.kept.length≤100) (hndk:(s.kept.map Pt.id).Nodup) (hz:∀ p∈s.act,p.bytes.size≤1000000) (ho:s.opn=true) (hc:chk c=0) (hv:c.verb=8) (k:Nat) (hp:posL s.act c.id=some k) (h1:(ptK s.act k).state=2) (hl:((ptK s.act k).bytes.size:Int)<(ptK s.act k).size) :
  Calls Tryz.prog 55 #[vT r,vC c] w (RhP F s [] [] 4 w):=by
 have HN:=Lib.hid (And.intro hn ht)
 have HND:=Lib.hid (And.intro hndk hz)
 have HCA:=Lib.hid (show s.act.length≤r.act.2.2 by rw[h.act.1];exact h.act.2.1)
 have HCK:=Lib.hid (show s.kept.length≤r.kept.2.2 by rw[h.kept.1];exact h.kept.2.1)
 obtain⟨g,W1,m,W2,r0,W3,G,hg,hW1,hm,hW2,hr0,hW3,hB⟩:=BxH.new h hF c
 obtain⟨-, -, -, -, -, -,c6,c7⟩:=hB.cmd
 obtain⟨l31,l32,ro3⟩:=hB.t.ld
 have o1:W3.cell? ⟨g,1,none⟩=some (.bool s.opn):=by rw[← hB.t.rf.opn];exact hB.t.rg.cell 1
 rw[ho] at o1
 have HB:=Lib.hid hB
 clear hB h hF hn ht hndk hz
 have HC:=Lib.hid hc
 have HV:=Lib.hid hv
 clear hc hv
 obtain⟨hk, -, -⟩:=pos_some hp
 have HI:=Lib.hid (idx_some hp)
 clear hp
 have hk1:(k:Int)<(s.act.length:Int):=by omega
 have hpk:ptK s.act k=s.act[k]:=ptK_eq hk
 obtain⟨ad,hae, -⟩:=Sl.pt (HB.out.t.rf.act.2.2.1) hk
 have HAE:=Lib.hid hae
 obtain⟨pp,hpp⟩:∃ pp,s.act[k]=pp:=⟨_,rfl⟩
 have HPP:=Lib.hid hpp
 rw[hpk,hpp] at h1
 have z1:¬ (k:Int)<0:=by omega
 have hsz:pp.bytes.size≤1000000:=by rw[← hpp];exact HND.out.2 _ (List.getElem_mem hk)
 rw[hpk,hpp] at hl
 clear hae hpk hpp
 go_enter Tryz.func55,Tryz.ntmps55
 go_wp2_with (first
  | (go_at_call 49;refine (refFind49 (some ad) r.act.2.2 s.act c.id w4 (by have hq:=H4.out.t.rf.act.2.2.1;rw[HAE.out] at hq;exact hq) (by omega)).mono ?_;rw[HI.out];rintro e w5 ⟨rfl,hb5⟩;have hB5:=H4.out.keep hb5;have ja5:=hB5.t.ca;rw[HAE.out] at ja5;obtain⟨ad2,hae2,pa1,pa2,hat5⟩:=Sl.pt (hB5.t.rf.act.2.2.1) hk;obtain rfl:ad=ad2:=Option.some.inj (HAE.out.symm.trans hae2);rw[HPP.out] at pa2 hat5;have r33:=hat5.f33;rw[h1] at r33;clear hae2 hat5;obtain⟨l51,l52,ro5⟩:=hB5.t.ld;obtain⟨e0,e1,e2,e3,e4,e5, -, -⟩:=hB5.cmd;have o5:w5.cell? ⟨g,0,none⟩=some (.int .i64 s.win):=(by rw[← hB5.t.rf.win];exact hB5.t.rg.cell 0);rw[HV.out] at e0;have jk5:=hB5.t.ck;obtain⟨q,U,hq,rq,hU,hrq,hBU,ngq,nrq,nmq,leq⟩:=hB5.part pp;obtain⟨-, -, -,u3, -,u5, -, -⟩:=hBU.cmd;have u32:=(hrq.cell 32).trans (cA_at (aA_32 pp));have u34:=(hrq.cell 34).trans (cA_at (aA_34 pp));have HNE:=Lib.hid (And.intro ngq (And.intro nrq (And.intro nmq leq)));obtain⟨lu1,lu2,rou⟩:=hBU.t.ld;have HU:=Lib.hid hBU;clear hrq hBU;have H5:=Lib.hid hB5;clear hb5 hB5)
  | (go_at_call 72;refine (refCheck22 c W3 HN.out.1 HN.out.2).mono ?_;rintro e w4 ⟨rfl,hb4⟩;rw[HC.out];have hB4:=HB.out.keep hb4;obtain⟨l41,l42,ro4⟩:=hB4.t.ld;obtain⟨-,d1,d2, -, -, -, -, -⟩:=hB4.cmd;have ja4:=hB4.t.ca;rw[HAE.out] at ja4;have H4:=Lib.hid hB4;clear hb4 hB4))
 exact bodyPost_ret (v:=.tuple #[vT r,.slice none 0 0,.slice none 0 0,.int .i64 4]) (results_c4 (ad:=⟨r0,0,none⟩) rfl rfl (ld_setRowT _ rou) rfl rfl rfl) rfl (RhP.none HU.out.t.fin)
theorem refHear_done_ok (F:List Nat) (s:Tk) (r:Rt) (c:Cm) (w:World) (h:RfAt F s r w) (hF:∀ k∈F,k<w.heap.size) (hn:c.name.size≤1000000) (ht:c.text.size≤1000000) (ha:s.act.length≤100) (hk8:s.kept.length≤100) (hndk:(s.kept.map Pt.id).Nodup) (hz:∀ p∈s.act,p.bytes.size≤1000000) (ho:s.opn=true) (hc:chk c=0) (hv:c.verb=8) (k:Nat) (hp:posL s.act c.id=some k) (h1:(ptK s.act k).state=2) (hl:¬ ((ptK s.act k).bytes.size:Int)<(ptK s.act k).size) :
  Calls Tryz.prog 55 #[vT r,vC c] w (RhP F { s with act:=s.act.set k (endB (ptK s.act k)) } [] [endB (ptK s.act k)] 0 w):=by
 have HN:=Lib.hid (And.intro hn ht)
 have HND:=Lib.hid (And.intro hndk hz)
 have HCA:=Lib.hid (show s.act.length≤r.act.2.2 by rw[h.act.1];exact h.act.2.1)
 have HCK:=Lib.hid (show s.kept.length≤r.kept.2.2 by rw[h.kept.1];exact h.kept.2.1)
 obtain⟨g,W1,m,W2,r0,W3,G,hg,hW1,hm,hW2,hr0,hW3,hB⟩:=BxH.new h hF c
 obtain⟨-, -, -, -, -, -,c6,c7⟩:=hB.cmd
 obtain⟨l31,l32,ro3⟩:=hB.t.ld
 have o1:W3.cell? ⟨g,1,none⟩=some (.bool s.opn):=by rw[← hB.t.rf.opn];exact hB.t.rg.cell 1
 rw[ho] at o1
 have HB:=Lib.hid hB
 clear hB h hF hn ht hndk hz
 have HC:=Lib.hid hc
 have HV:=Lib.hid hv
 clear hc hv
 obtain⟨hk, -, -⟩:=pos_some hp
 have HI:=Lib.hid (idx_some hp)
 clear hp
 have hk1:(k:Int)<(s.act.length:Int):=by omega
 have hpk:ptK s.act k=s.act[k]:=ptK_eq hk
 obtain⟨ad,hae, -⟩:=Sl.pt (HB.out.t.rf.act.2.2.1) hk
 have HAE:=Lib.hid hae
 obtain⟨pp,hpp⟩:∃ pp,s.act[k]=pp:=⟨_,rfl⟩
 have HPP:=Lib.hid hpp
 rw[hpk,hpp] at h1
 have z1:¬ (k:Int)<0:=by omega
 have hsz:pp.bytes.size≤1000000:=by rw[← hpp];exact HND.out.2 _ (List.getElem_mem hk)
 rw[hpk,hpp] at hl
 obtain⟨aQ,haQ⟩:∃ aQ:Pt,{ pp with state:=3 }=aQ:=⟨_,rfl⟩
 have HQ:=Lib.hid haQ
 rw[show endB (ptK s.act k)=aQ by rw[hpk,hpp];exact haQ]
 clear haQ
 clear hae hpk hpp
 go_enter Tryz.func55,Tryz.ntmps55
 go_upto_region 38 with (first
  | (go_at_call 49;refine (refFind49 (some ad) r.act.2.2 s.act c.id w4 (by have hq:=H4.out.t.rf.act.2.2.1;rw[HAE.out] at hq;exact hq) (by omega)).mono ?_;rw[HI.out];rintro e w5 ⟨rfl,hb5⟩;have hB5:=H4.out.keep hb5;have ja5:=hB5.t.ca;rw[HAE.out] at ja5;obtain⟨ad2,hae2,pa1,pa2,hat5⟩:=Sl.pt (hB5.t.rf.act.2.2.1) hk;obtain rfl:ad=ad2:=Option.some.inj (HAE.out.symm.trans hae2);rw[HPP.out] at pa2 hat5;have r33:=hat5.f33;rw[h1] at r33;clear hae2 hat5;obtain⟨l51,l52,ro5⟩:=hB5.t.ld;obtain⟨e0,e1,e2,e3,e4,e5, -, -⟩:=hB5.cmd;have o5:w5.cell? ⟨g,0,none⟩=some (.int .i64 s.win):=(by rw[← hB5.t.rf.win];exact hB5.t.rg.cell 0);rw[HV.out] at e0;have jk5:=hB5.t.ck;obtain⟨q,U,hq,rq,hU,hrq,hBU,ngq,nrq,nmq,leq⟩:=hB5.part pp;obtain⟨-, -, -,u3, -,u5, -, -⟩:=hBU.cmd;have u32:=(hrq.cell 32).trans (cA_at (aA_32 pp));have u34:=(hrq.cell 34).trans (cA_at (aA_34 pp));have HNE:=Lib.hid (And.intro ngq (And.intro nrq (And.intro nmq leq)));have u33:=(hrq.cell 33).trans (cA_at (aA_33 pp));obtain⟨z33,hr7,hB7⟩:=hBU.setP hrq List.mem_cons_self ngq nrq nmq leq 33 (.int .i64 3) (a':=aQ) ((cA_set33 pp 3).trans (congrArg cA HQ.out));obtain⟨U2,hU2⟩:∃ U2,U.setCell ⟨q,33,none⟩ (.int .i64 3)=U2:=⟨_,rfl⟩;rw[hU2] at hr7 hB7;obtain⟨l71,l72,ro7⟩:=hB7.t.ld;have p71:=(Row.okw hr7 (cA_length _)).1;have p72:rdA U2 ⟨q,0,none⟩ 35=vA aQ:=(Row.okw hr7 (cA_length _)).2;have H7:=Lib.hid hB7;have HR7:=Lib.hid hr7;clear hr7 hB7;clear hrq hBU;have H5:=Lib.hid hB5;clear hb5 hB5)
  | (go_at_call 72;refine (refCheck22 c W3 HN.out.1 HN.out.2).mono ?_;rintro e w4 ⟨rfl,hb4⟩;rw[HC.out];have hB4:=HB.out.keep hb4;obtain⟨l41,l42,ro4⟩:=hB4.t.ld;obtain⟨-,d1,d2, -, -, -, -, -⟩:=hB4.cmd;have ja4:=hB4.t.ca;rw[HAE.out] at ja4;have H4:=Lib.hid hB4;clear hb4 hB4))
 have HFL:=Lib.hid (show ∀ k∈F,k<U2.heap.size from fun k hk=>H7.out.t.lt k (H7.out.t.FG k hk))
 clear l71 l72 p71 p72 ro7
 refine AnyO.wp_anyI (by kernel_rfl) (by kernel_rfl) (AnyO.InvG (σ:=Rt×Nat) (fun σ=>AnyO.pvL [some (vT r),some (.int .i64 (k:Int)),some (vA aQ),some (vT σ.1),some (vA aQ),some (.slice (some ⟨σ.2,0,none⟩) 1 1),none,some (Value.slice none 0 0),some (.slice (some ⟨σ.2,0,none⟩) 1 1),some (Value.int IntKind.i64 0)]) (fun σ D u=>RQ cA F (q :: G) { s with act:=s.act.set k aQ } σ.1 w U2 r0 aQ σ.2 (D 3) (D 5) (D 6) u)) (AnyO.InvG.start (g:=(r,0)) (RQ.start (below_drew _))) ?_ ?_
 ·intro i hi
  have hi2:i=0∨i=2∨i=3∨i=4∨i=5∨i=6∨i=1∨i=7∨i=8∨i=9:=by simp only[List.size_toArray,List.length_cons,List.length_nil] at hi;omega
  clear hi
  rcases hi2 with rfl|rfl|rfl|rfl|rfl|rfl|rfl|rfl|rfl|rfl
  ·refine AnyO.I rfl [] ?_;rintro D vs u σ Q h0 hC hp ac hb K hK
   have s2:=AnyO.sz (v:=.pointer (some ⟨g,0,none⟩)) 2 hb
   have hf3:=AnyO.fls (hC.out 3) h0 (show AnyO.pre _ 3=[0,1,2] from by kernel_rfl) (by decide)
   have hf6:=AnyO.fls (hC.out 6) hf3 (show AnyO.pre _ 6=[3,3,0,1,2,3] from by kernel_rfl) (by decide)
   have hst:=Q.out.2.lo hf6
   have lk:=(H7.out.keep hst).t.ld
   have rr1:=lk.1
   have rr2:=lk.2.1
   clear hst hf3 hf6 lk
   go_simp;exact hK _ _ (AnyO.InvG.step (g:=σ) Q.out.1 rfl Q.out.2)
  ·refine AnyO.I rfl [] ?_;rintro D vs u σ Q h0 hC hp ac hb K hK
   have s13:=AnyO.sz (v:=.pointer (some ⟨q,0,none⟩)) 13 hb
   have lk:=Row.okw (Q.out.2.row HR7.out HNE.out.2.1.symm) (cA_length aQ)
   have rr1:=lk.1
   have rr2:rdA u ⟨q,0,none⟩ 35=vA aQ:=lk.2
   clear lk
   go_simp;exact hK _ _ (AnyO.InvG.step (g:=σ) Q.out.1 rfl Q.out.2)
  ·refine AnyO.I rfl [0,1,2] ?_;rintro D vs u σ Q h0 hC hp ac hb K hK
   have s164:_=_:=AnyO.sv 164 0 hb hp Q
   have s165:_=_:=AnyO.sv 165 1 hb hp Q
   have s166:_=_:=AnyO.sv 166 2 hb hp Q
   have hf6:=AnyO.fls (hC.out 6) h0 (show AnyO.pre _ 6=[3,3,0,1,2,3] from by kernel_rfl) (by decide)
   go_simp
   have hst:=Q.out.2
   rw[show D 3=false from h0,show D 6=false from hf6] at hst
   go_at_call 74
   refine (refChanged74 (q :: G) _ _ k aQ u (H7.out.t.rf.keep (hst.lo rfl)) (fun j hj=>Nat.lt_of_lt_of_le (H7.out.t.lt j hj) hst.n) hk ha).mono ?_
   rintro e w2 ⟨r',rfl,hr',hb'⟩
   refine hK _ _ (AnyO.InvG.ghost (g:=σ) (r',σ.2) Q.out.1 ?_ rfl ?_)
   ·intro j hj hq
    rcases j with _|_|_|_|_|_|_|_|_|_|j
    all_goals first|exact hq|exact absurd (show D 3=true from hj) (by rw[h0];decide)|exact absurd (show D 6=true from hj) (by rw[hf6];decide)
   rw[show AnyO.addD D 3 3=true from rfl,show AnyO.addD D 3 5=D 5 from rfl,show AnyO.addD D 3 6=D 6 from rfl,hf6]
   exact hst.called hb' hr'
  ·refine AnyO.I rfl [] ?_;rintro D vs u σ Q h0 hC hp ac hb K hK
   have s13:=AnyO.sz (v:=.pointer (some ⟨q,0,none⟩)) 13 hb
   have lk:=Row.okw (Q.out.2.row HR7.out HNE.out.2.1.symm) (cA_length aQ)
   have rr1:=lk.1
   have rr2:rdA u ⟨q,0,none⟩ 35=vA aQ:=lk.2
   clear lk
   go_simp;exact hK _ _ (AnyO.InvG.step (g:=σ) Q.out.1 rfl Q.out.2)
  ·refine AnyO.I rfl [4] ?_;rintro D vs u σ Q h0 hC hp ac hb K hK
   have s168:_=_:=AnyO.sv 168 4 hb hp Q
   have hf8:=AnyO.fls (hC.out 8) h0 (show AnyO.pre _ 8=[5,7,0,1,2,3,4,5,6,7] from by kernel_rfl) (by decide)
   go_simp
   refine hK _ _ (AnyO.InvG.ghost (g:=σ) (σ.1,u.heap.size) Q.out.1 ?_ rfl ?_)
   ·intro j hj hq
    rcases j with _|_|_|_|_|_|_|_|_|_|j
    all_goals first|exact hq|exact absurd (show D 5=true from hj) (by rw[h0];decide)|exact absurd (show D 8=true from hj) (by rw[hf8];decide)
   exact Q.out.2.newq _
  ·refine AnyO.I rfl [3,3,0,1,2,3] ?_;rintro D vs u σ Q h0 hC hp ac hb K hK
   have s4:=AnyO.sz (v:=.pointer (some ⟨r0,0,none⟩)) 4 hb
   have s167:_=_:=AnyO.sv 167 3 hb hp Q
   have hp3:D 3=true:=hp.out 3 (by decide)
   have hst:=Q.out.2
   rw[show D 3=true from hp3,show D 6=false from h0] at hst
   have SS:=hst.stored H7.out
   have ro:=SS.1
   have RP:=Lib.hid SS.2
   clear hst SS
   go_simp
   exact hK undef _ (AnyO.InvG.step (g:=σ) Q.out.1 trivial (by rw[show AnyO.addD D 6 3=D 3 from rfl,hp3,show AnyO.addD D 6 5=D 5 from rfl,show AnyO.addD D 6 6=true from rfl];exact RP.out))
  all_goals
   refine AnyO.J rfl ?_;rintro D vs u σ Q h0 hC hp ac hb K hK
   try have s9:ac.tmps[9]?.getD undef=.int .i64 (k:Int):=by rw[hb.out];kernel_rfl
   try have s169:_=_:=AnyO.sv 169 5 hb hp Q
   go_simp
   exact hK _ _ (AnyO.InvG.step (g:=σ) Q.out.1 rfl Q.out.2)
 ·intro D vs u hI hD
  obtain⟨σ,hP,hW⟩:=hI
  have e0:_=_:=hP 0 (hD 0 (by decide))
  have e1:_=_:=hP 1 (hD 1 (by decide))
  have e2:_=_:=hP 2 (hD 2 (by decide))
  have e3:_=_:=hP 3 (hD 3 (by decide))
  have e4:_=_:=hP 4 (hD 4 (by decide))
  have e5:_=_:=hP 5 (hD 5 (by decide))
  have e7:_=_:=hP 7 (hD 7 (by decide))
  have e8:_=_:=hP 8 (hD 8 (by decide))
  have e9:_=_:=hP 9 (hD 9 (by decide))
  have hst:=hW
  rw[show D 3=true from hD 3 (by decide),show D 5=true from hD 5 (by decide),show D 6=true from hD 6 (by decide)] at hst
  have HST:=Lib.hid hst
  have hld:=load_T (hst.hi rfl).2.2
  clear hst
  have HW:=Lib.hid hW
  clear hW hP hD
  rw[puts_range [some 164,some 165,some 166,some 167,some 168,some 169,none,some 5,some 6,some 7] (by kernel_rfl)]
  simp only[putL,Nat.reduceAdd,e0,e1,e2,e3,e4,e5,e7,e8,e9]
  clear e0 e1 e2 e3 e4 e5 e7 e8 e9
  have HL:=Lib.hid hld
  clear hld
  go_simp
  go_wp2
  exact bodyPost_ret (v:=.tuple #[vT σ.1,.slice none 0 0,.slice (some ⟨σ.2,0,none⟩) 1 1,.int .i64 0]) (results_c4 (ad:=⟨r0,0,none⟩) rfl rfl HL.out rfl rfl rfl) rfl ⟨σ.1,(none,0,0),(some ⟨σ.2,0,none⟩,1,1),rfl,(HST.out.hi rfl).1,SlF.nil _ _ _,HST.out.slF HFL.out,(HST.out.hi rfl).2.1⟩
end
end Go.Proofs.YtgojaelkdpabkaaGreatDoor
