/- Taker's Hear. -/
import Derived.Test.YtgojaelkdpabkaaGreatDoorMMpf
import Derived.Test.YtgojaelkdpabkaaGreatDoorMOfN
namespace Go.Proofs.YtgojaelkdpabkaaGreatDoor
open Go.RowKit
def hearT (s:Tk) (c:Cm):Tk×List Qn×List Txt×Int :=
 if s.opn=false then (s,[],[],10)
 else if chk c≠0 then (s,[],[],chk c)
 else if c.verb=2 then ((offerT s c).1,(offerT s c).2.1,[],(offerT s c).2.2)
 else if c.verb=7 then ((dataT s c).1,[],[],(dataT s c).2)
 else if c.verb=8 then ((doneT s c).1,[],(doneT s c).2.1,(doneT s c).2.2)
 else (s,[],[],11)
def hearF (v:Int):Option Value:=if v=8 then some (.func (.func 39) #[] #[]) else if v=7 then some (.func (.func 38) #[] #[]) else if v=2 then some (.func (.func 37) #[] #[]) else none
theorem hear_map (w:World):∃ g W3 W4 W5 W6,(Instr.makeMap 83 none).run Tryz.prog w=.ok (.map (some g)) W3∧(Instr.mapUpdate 83 (.map (some g)) (.int .i64 2) (.func (.func 37) #[] #[])).run Tryz.prog W3=.ok () W4∧(Instr.mapUpdate 83 (.map (some g)) (.int .i64 7) (.func (.func 38) #[] #[])).run Tryz.prog W4=.ok () W5∧(Instr.mapUpdate 83 (.map (some g)) (.int .i64 8) (.func (.func 39) #[] #[])).run Tryz.prog W5=.ok () W6∧FM W6 g hearF∧Below w.heap.size w W6:=by
 have h3:=FM.made w
 obtain⟨W4,e4,h4,o4⟩:=h3.put 2 rfl (.func (.func 37) #[] #[])
 obtain⟨W5,e5,h5,o5⟩:=h4.put 7 rfl (.func (.func 38) #[] #[])
 obtain⟨W6,e6,h6,o6⟩:=h5.put 8 rfl (.func (.func 39) #[] #[])
 refine⟨w.heap.size,_,W4,W5,W6,rfl,e4,e5,e6,h6,?_⟩
 have hb:=below_alloc w (.map #[] 0)
 have:=hb.size
 have o:=(o4.trans o5).trans o6
 exact⟨o.os.trans hb.os,o.tape.trans hb.tape,o.output.trans hb.output,Nat.le_trans hb.size o.size,fun k hk=>(o.out k (by omega) (by omega)).trans (hb.block k hk)⟩
theorem HearP.under {b:Nat} {s':Tk} {qs:List Qn} {ts:List Txt} {no:Int} {F F0:List Nat} {w w1:World} {e:Ending} {w':World} (h:HearP b s' qs ts no F0 w1 e w') (hk:Kp F F0 w w1):HearP b s' qs ts no F w e w':=by
 obtain⟨q,l,h1,F',h2,h3,h4,h5⟩:=h
 exact⟨q,l,h1,F',h2,hk.trans h3,h4,h5⟩
section
set_option maxRecDepth 100000
set_option maxHeartbeats 3200000
theorem hear15_shut (b:Nat) (s:Tk) (F:List Nat) (c:Cm) (w:World) (h:TkAt b s F w) (ho:s.opn=false) :
  Calls Tryz.prog 15 #[.pointer (some ⟨b,0,none⟩),vC c] w (HearP b s [] [] 10 F w):=by
 obtain⟨va,vk,h⟩:=h
 have h1:=h.keep (below_alloc w (.cells (aC c) 32))
 have c1:=h1.c1
 rw[ho] at c1
 have H1:=Lib.hid h1
 clear h h1
 go_enter Tryz.func15,Tryz.ntmps15
 go_wp2
 go_ret3
 exact HearP.none (F':=F) ⟨va,vk,H1.out⟩ (Kp.of_below (below_alloc _ _))
theorem hear15_bad (b:Nat) (s:Tk) (F:List Nat) (c:Cm) (w:World) (h:TkAt b s F w) (hL:FormsAt w) (hn:c.name.size≤1000000) (ho:s.opn=true) (hc:chk c≠0) :
  Calls Tryz.prog 15 #[.pointer (some ⟨b,0,none⟩),vC c] w (HearP b s [] [] (chk c) F w):=by
 obtain⟨va,vk,h⟩:=h
 obtain⟨g,hg⟩:∃ g,w.heap.size=g:=⟨_,rfl⟩
 obtain⟨W1,hW1⟩:∃ W1,w.alloc (.cells (aC c) 32)=W1:=⟨_,rfl⟩
 have hb1:Below w.heap.size w W1:=by rw[← hW1];exact below_alloc _ _
 have hrow:Row W1 g (cC c) 32:=by rw[← hW1,← hg];exact Row.new w (cC c) _
 have r1:=(Row.okw hrow (cC_length c)).1
 have r2:rdA W1 ⟨g,0,none⟩ 39=vC c:=(Row.okw hrow (cC_length c)).2
 have c1:=(h.keep hb1).c1
 rw[ho] at c1
 have H1:=Lib.hid (And.intro (h.keep hb1) (And.intro hb1 (hL.keep hb1)))
 have HN:=Lib.hid hn
 obtain⟨n,hnn⟩:∃ n,chk c=n:=⟨_,rfl⟩
 rw[hnn] at hc ⊢
 have HC:=Lib.hid hnn
 have q1:(n != 0)=true:=by simpa using hc
 clear h hb1 hrow hL hn hnn
 go_enter Tryz.func15,Tryz.ntmps15
 go_wp2_with (go_at_call 32;refine (check16 c W1 H1.out.2.2 HN.out).mono ?_;rintro e w2 ⟨rfl,hb2⟩;rw[HC.out];have H2:=Lib.hid hb2;clear hb2)
 go_ret3
 exact HearP.none (F':=F) ⟨va,vk,H1.out.1.keep H2.out⟩ (Kp.of_below (Below.step H1.out.2.1 H2.out))
theorem hear15_go (b:Nat) (s s':Tk) (qs:List Qn) (ts:List Txt) (no:Int) (F:List Nat) (c:Cm) (w:World) (h:TkAt b s F w) (hL:FormsAt w) (hn:c.name.size≤1000000) (ho:s.opn=true) (hc:chk c=0) (f:Nat) (hf:hearF c.verb=some (.func (.func f) #[] #[]))
  (he:∀ (args:Array Value) (W:World),Sem.run Tryz.prog (callFunc f args) W=.ok (.enter f args) W) (hcall:∀ u,TkAt b s F u→Calls Tryz.prog f #[.pointer (some ⟨b,0,none⟩),vC c] u (HearP b s' qs ts no F u)) :
  Calls Tryz.prog 15 #[.pointer (some ⟨b,0,none⟩),vC c] w (HearP b s' qs ts no F w):=by
 obtain⟨va,vk,h⟩:=h
 obtain⟨g,hg⟩:∃ g,w.heap.size=g:=⟨_,rfl⟩
 obtain⟨W1,hW1⟩:∃ W1,w.alloc (.cells (aC c) 32)=W1:=⟨_,rfl⟩
 have hb1:Below w.heap.size w W1:=by rw[← hW1];exact below_alloc _ _
 have hrow:Row W1 g (cC c) 32:=by rw[← hW1,← hg];exact Row.new w (cC c) _
 have r1:=(Row.okw hrow (cC_length c)).1
 have r2:rdA W1 ⟨g,0,none⟩ 39=vC c:=(Row.okw hrow (cC_length c)).2
 have c1:=(h.keep hb1).c1
 rw[ho] at c1
 have H1:=Lib.hid (And.intro (h.keep hb1) (And.intro hb1 (And.intro (hL.keep hb1) hrow)))
 have HN:=Lib.hid hn
 have HC:=Lib.hid hc
 have HF:=Lib.hid hf
 have HE:=Lib.hid hcall
 clear h hb1 hrow hL hn hc hf hcall
 go_enter Tryz.func15,Tryz.ntmps15
 go_wp2_with (go_at_call 32;refine (check16 c W1 H1.out.2.2.1 HN.out).mono ?_;rintro e w2 ⟨rfl,hb2⟩;rw[HC.out];obtain⟨g3,W3,W4,W5,W6,m3,m4,m5,m6,hF6,hB6⟩:=hear_map w2;have ml:=hF6.look c.verb _ HF.out;have hb6:=Below.step hb2 hB6;have hr6:=H1.out.2.2.2.keep hb6;have j0:W6.cell? ⟨g,0,none⟩=some (.int .i64 c.verb):=hr6.cell 0;have j1:=(Row.okw hr6 (cC_length c)).1;have j2:rdA W6 ⟨g,0,none⟩ 39=vC c:=(Row.okw hr6 (cC_length c)).2;have H2:=Lib.hid hb6;clear hb2 hF6 hB6 hb6 hr6)
 go_wp2_with (refine (HE.out W6 ⟨va,vk,H1.out.1.keep H2.out⟩).mono ?_;rintro e w7 ⟨q,l,rfl,h7⟩;have H7:=Lib.hid h7;clear h7)
 go_ret3
 obtain⟨F',h2,h3,h4,h5⟩:=H7.out
 exact⟨q,l,rfl,F',h2,(Kp.of_below (Below.step H1.out.2.1 H2.out)).trans h3,h4,h5⟩
theorem hear15_kind (b:Nat) (s:Tk) (F:List Nat) (c:Cm) (w:World) (h:TkAt b s F w) (hL:FormsAt w) (hn:c.name.size≤1000000) (ho:s.opn=true) (hc:chk c=0) (hf:hearF c.verb=none) :
  Calls Tryz.prog 15 #[.pointer (some ⟨b,0,none⟩),vC c] w (HearP b s [] [] 11 F w):=by
 obtain⟨va,vk,h⟩:=h
 obtain⟨g,hg⟩:∃ g,w.heap.size=g:=⟨_,rfl⟩
 obtain⟨W1,hW1⟩:∃ W1,w.alloc (.cells (aC c) 32)=W1:=⟨_,rfl⟩
 have hb1:Below w.heap.size w W1:=by rw[← hW1];exact below_alloc _ _
 have hrow:Row W1 g (cC c) 32:=by rw[← hW1,← hg];exact Row.new w (cC c) _
 have r1:=(Row.okw hrow (cC_length c)).1
 have r2:rdA W1 ⟨g,0,none⟩ 39=vC c:=(Row.okw hrow (cC_length c)).2
 have c1:=(h.keep hb1).c1
 rw[ho] at c1
 have H1:=Lib.hid (And.intro (h.keep hb1) (And.intro hb1 (And.intro (hL.keep hb1) hrow)))
 have HN:=Lib.hid hn
 have HC:=Lib.hid hc
 have HF:=Lib.hid hf
 clear h hb1 hrow hL hn hc hf
 go_enter Tryz.func15,Tryz.ntmps15
 go_wp2_with (go_at_call 32;refine (check16 c W1 H1.out.2.2.1 HN.out).mono ?_;rintro e w2 ⟨rfl,hb2⟩;rw[HC.out];obtain⟨g3,W3,W4,W5,W6,m3,m4,m5,m6,hF6,hB6⟩:=hear_map w2;have ml:=hF6.look_none c.verb HF.out;have hb6:=Below.step hb2 hB6;have hr6:=H1.out.2.2.2.keep hb6;have j0:W6.cell? ⟨g,0,none⟩=some (.int .i64 c.verb):=hr6.cell 0;have j1:=(Row.okw hr6 (cC_length c)).1;have j2:rdA W6 ⟨g,0,none⟩ 39=vC c:=(Row.okw hr6 (cC_length c)).2;have H2:=Lib.hid hb6;clear hb2 hF6 hB6 hb6 hr6)
 go_wp2
 go_ret3
 exact HearP.none (F':=F) ⟨va,vk,H1.out.1.keep H2.out⟩ (Kp.of_below (Below.step H1.out.2.1 H2.out))
end
open Go.RowKit
def AnsP (b:Nat) (s':Tk) (d:Cm) (no:Int) (F:List Nat) (w:World) (e:Ending) (w':World):Prop:=e=.returned (.tuple #[vC d,.int .i64 no])∧∃ F',TkAt b s' F' w'∧Kp F F' w w'
theorem fin_row {b r0:Nat} {s':Tk} {F FN:List Nat} {va vk:SlV} {w u:World} (hT:TkR b s' FN va vk u) (hK:Kp F FN w u) (hr:r0∉FN) (hr2:w.heap.size≤r0) (d:Cm):∃ F',TkAt b s' F' (u.setRow r0 (aC d))∧Kp F F' w (u.setRow r0 (aC d)):=by
 refine⟨FN,⟨va,vk,hT.same fun k hk=>heap_setRow_other u r0 k _ (fun e=>hr (e▸hk))⟩,⟨hK.os,hK.tape,hK.output,by simpa[World.setRow] using hK.size,fun k hk hF=>⟨(hK.out k hk hF).1,?_⟩⟩⟩
 rw[heap_setRow_other u r0 k _ (by omega)]
 exact (hK.out k hk hF).2
def wantP (s:Tk) (c:Cm) (k:Nat):Pt:=⟨(ptK s.act k).id,(ptK s.act k).size,2,if 0<c.from_ then (match posL s.kept c.id with|some j=>(ptK s.kept j).bytes|none=>⟨#[]⟩) else (ptK s.act k).bytes⟩
def answerT (s:Tk) (c:Cm):Tk×Cm×Int :=
 if chk c≠0 then (s,zC,chk c)
 else if c.verb<3∨6<c.verb then (s,zC,11)
 else match posL s.act c.id with
 | none=>(s,zC,8)
 | some k=>if (ptK s.act k).state≠1 then (s,zC,10)
  else if c.verb=3∧c.from_≠0∧c.from_≠gotL s.kept c.id then (s,zC,2)
  else if c.verb=3 then (⟨s.win,s.opn,s.act.set k (wantP s c k),withoutL s.kept c.id⟩,c,0)
  else if c.verb=5 then (⟨s.win,s.opn,withoutL s.act c.id,s.kept⟩,c,0)
  else (⟨s.win,s.opn,withoutL s.act c.id,withoutL s.kept c.id⟩,c,0)
section
set_option maxRecDepth 100000
set_option maxHeartbeats 6400000
theorem answer16_bad (b:Nat) (s:Tk) (F:List Nat) (c:Cm) (w:World) (h:TkAt b s F w) (hL:FormsAt w) (hn:c.name.size≤1000000) (hna:s.act.length≤100) (hnk:s.kept.length≤100) (hc:chk c≠0) :
  Calls Tryz.prog 16 #[.pointer (some ⟨b,0,none⟩),vC c] w (AnsP b s zC (chk c) F w):=by
 obtain⟨va,vk,h⟩:=h
 obtain⟨F0,h0,hK0,hlt⟩:=h.shrink
 obtain⟨g,hg⟩:∃ g,w.heap.size=g:=⟨_,rfl⟩
 obtain⟨W1,hW1⟩:∃ W1,w.alloc (.cells (aC c) 32)=W1:=⟨_,rfl⟩
 obtain⟨r0,hr0⟩:∃ r0,W1.heap.size=r0:=⟨_,rfl⟩
 obtain⟨W2,hW2⟩:∃ W2,W1.alloc (.cells (aC zC) 32)=W2:=⟨_,rfl⟩
 have hb1:Below w.heap.size w W1:=by rw[← hW1];exact below_alloc _ _
 have hb2:Below W1.heap.size W1 W2:=by rw[← hW2];exact below_alloc _ _
 have hb:=Below.step hb1 hb2
 have hrow:Row W1 g (cC c) 32:=by rw[← hW1,← hg];exact Row.new w (cC c) _
 have hro:Row W2 r0 (cC zC) 32:=by rw[← hW2,← hr0];exact Row.new W1 (cC zC) _
 have hs1:=hb1.size
 have r1:=(Row.okw (hrow.keep hb2) (cC_length c)).1
 have r2:rdA W2 ⟨g,0,none⟩ 39=vC c:=(Row.okw (hrow.keep hb2) (cC_length c)).2
 have H1:=Lib.hid (And.intro (hrow.keep hb2) (And.intro hro (And.intro (h0.keep hb) (And.intro (hK0.trans (Kp.of_below hb)) (And.intro (show g∉F0 from fun hm=>by have:=hlt g hm;omega) (And.intro (show r0∉F0 from fun hm=>by have:=hlt r0 hm;omega) (hL.keep hb)))))))
 have HR:=Lib.hid (show w.heap.size≤r0 by omega)
 have HN:=Lib.hid hn
 have HNA:=Lib.hid (show s.act.length≤1000000 by omega)
 have HNK:=Lib.hid (show s.kept.length≤1000000 by omega)
 clear hb1 hb2 hb hrow hro h h0 hK0 hlt hL hn hs1
 obtain⟨n,hnn⟩:∃ n,chk c=n:=⟨_,rfl⟩
 rw[hnn] at hc ⊢
 have HC:=Lib.hid hnn
 have q1:(n != 0)=true:=by simpa using hc
 clear hnn
 go_enter Tryz.func16,Tryz.ntmps16
 go_wp2_with (go_at_call 32;refine (check16 c W2 H1.out.2.2.2.2.2.2 HN.out).mono ?_;rintro e w3 ⟨rfl,hb3⟩;rw[HC.out];have ro:=(H1.out.2.1.keep hb3).rowOk (cC_length zC);have H3:=Lib.hid (And.intro (H1.out.1.keep hb3) (And.intro (H1.out.2.1.keep hb3) (And.intro (H1.out.2.2.1.keep hb3) (H1.out.2.2.2.1.trans (Kp.of_below hb3)))));clear hb3)
 exact bodyPost_ret (v:=.tuple #[vC zC,.int .i64 n]) (results_c2 (ad:=⟨r0,0,none⟩) rfl rfl (ld_setRow zC ro) rfl) rfl ⟨rfl,fin_row H3.out.2.2.1 H3.out.2.2.2 H1.out.2.2.2.2.2.1 HR.out zC⟩
theorem answer16_kind (b:Nat) (s:Tk) (F:List Nat) (c:Cm) (w:World) (h:TkAt b s F w) (hL:FormsAt w) (hn:c.name.size≤1000000) (hna:s.act.length≤100) (hnk:s.kept.length≤100) (hc:chk c=0) (hv:c.verb<3∨6<c.verb) :
  Calls Tryz.prog 16 #[.pointer (some ⟨b,0,none⟩),vC c] w (AnsP b s zC 11 F w):=by
 obtain⟨va,vk,h⟩:=h
 obtain⟨F0,h0,hK0,hlt⟩:=h.shrink
 obtain⟨g,hg⟩:∃ g,w.heap.size=g:=⟨_,rfl⟩
 obtain⟨W1,hW1⟩:∃ W1,w.alloc (.cells (aC c) 32)=W1:=⟨_,rfl⟩
 obtain⟨r0,hr0⟩:∃ r0,W1.heap.size=r0:=⟨_,rfl⟩
 obtain⟨W2,hW2⟩:∃ W2,W1.alloc (.cells (aC zC) 32)=W2:=⟨_,rfl⟩
 have hb1:Below w.heap.size w W1:=by rw[← hW1];exact below_alloc _ _
 have hb2:Below W1.heap.size W1 W2:=by rw[← hW2];exact below_alloc _ _
 have hb:=Below.step hb1 hb2
 have hrow:Row W1 g (cC c) 32:=by rw[← hW1,← hg];exact Row.new w (cC c) _
 have hro:Row W2 r0 (cC zC) 32:=by rw[← hW2,← hr0];exact Row.new W1 (cC zC) _
 have hs1:=hb1.size
 have r1:=(Row.okw (hrow.keep hb2) (cC_length c)).1
 have r2:rdA W2 ⟨g,0,none⟩ 39=vC c:=(Row.okw (hrow.keep hb2) (cC_length c)).2
 have H1:=Lib.hid (And.intro (hrow.keep hb2) (And.intro hro (And.intro (h0.keep hb) (And.intro (hK0.trans (Kp.of_below hb)) (And.intro (show g∉F0 from fun hm=>by have:=hlt g hm;omega) (And.intro (show r0∉F0 from fun hm=>by have:=hlt r0 hm;omega) (hL.keep hb)))))))
 have HR:=Lib.hid (show w.heap.size≤r0 by omega)
 have HN:=Lib.hid hn
 have HNA:=Lib.hid (show s.act.length≤1000000 by omega)
 have HNK:=Lib.hid (show s.kept.length≤1000000 by omega)
 clear hb1 hb2 hb hrow hro h h0 hK0 hlt hL hn hs1
 have HC:=Lib.hid hc
 have q3:(c.verb==3)=false:=by simp;omega
 have q4:(c.verb==4)=false:=by simp;omega
 have q5:(c.verb==5)=false:=by simp;omega
 have q6:(c.verb==6)=false:=by simp;omega
 clear hc hv
 go_enter Tryz.func16,Tryz.ntmps16
 go_wp2_with (go_at_call 32;refine (check16 c W2 H1.out.2.2.2.2.2.2 HN.out).mono ?_;rintro e w3 ⟨rfl,hb3⟩;rw[HC.out];have ro:=(H1.out.2.1.keep hb3).rowOk (cC_length zC);have j0:w3.cell? ⟨g,0,none⟩=some (.int .i64 c.verb):=(H1.out.1.keep hb3).cell 0;have H3:=Lib.hid (And.intro (H1.out.1.keep hb3) (And.intro (H1.out.2.1.keep hb3) (And.intro (H1.out.2.2.1.keep hb3) (H1.out.2.2.2.1.trans (Kp.of_below hb3)))));clear hb3)
 exact bodyPost_ret (v:=.tuple #[vC zC,.int .i64 11]) (results_c2 (ad:=⟨r0,0,none⟩) rfl rfl (ld_setRow zC ro) rfl) rfl ⟨rfl,fin_row H3.out.2.2.1 H3.out.2.2.2 H1.out.2.2.2.2.2.1 HR.out zC⟩
end
end Go.Proofs.YtgojaelkdpabkaaGreatDoor
