/- bulletintop: ends. -/
import Derived.Test.YtdkjgcfhepplbaaGreatDoorMSs3
namespace Go.Proofs.YtdkjgcfhepplbaaGreatDoor
open Go.RowKit
section
set_option maxRecDepth 100000
set_option maxHeartbeats 1600000
theorem ends20_same_up (w0:World) (a:Sa) (ch:Int) (p:Ps) (w:World) (h:SsAt w0 a ch p w) (hup:p.c.up=true) (hs:p.c.sess=p.num) :
  Calls Tryz.prog 20 #[.pointer (some ⟨a.k,0,none⟩)] w fun e w'=>e=.returned (.tuple #[])∧SsAt w0 a ch p w':=by
 have HB:=Lib.hid h
 have k0:=h.c0
 have k1:=h.c1
 have HU:=Lib.hid (And.intro hup hs)
 clear h hup hs
 go_enter Tryz.func20,Tryz.ntmps20
 go_wp2_with (first
  | (go_at_call 21;refine HB.out.up.mono ?_;rintro e w2 ⟨rfl,rfl⟩;rw[HU.out.1])
  | (go_at_call 39;refine HB.out.session.mono ?_;rintro e w2 ⟨rfl,rfl⟩;rw[HU.out.2]))
 (try simp only[Exit.inBlock,Exit.then])
 refine bodyPost_ret (results_none rfl _ _ _) rfl ?_
 exact⟨rfl,HB.out⟩
theorem ends20_down (w0:World) (a:Sa) (ch:Int) (p:Ps) (w:World) (h:SsAt w0 a ch p w) (hup:p.c.up=false) (hs:p.num≠0) (hg:Sn.Good ch p.snd) (ho:p.tkr.opn=true) :
  Calls Tryz.prog 20 #[.pointer (some ⟨a.k,0,none⟩)] w fun e w'=>e=.returned (.tuple #[])∧SsAt w0 a ch { p with snd:=Sn.dropS p.snd,tkr:=(dropT p.tkr).1,wl:=⟨#[]⟩,wr:=⟨#[]⟩,num:=0 } w':=by
 have HB:=Lib.hid h
 have k0:=h.c0
 have k1:=h.c1
 have k2:=h.c2
 have q1:¬ (0:Int)=p.num:=fun e=>hs e.symm
 have q2:decide (p.num=0)=false:=decide_eq_false hs
 have HU:=Lib.hid (And.intro hup (And.intro hg ho))
 clear h hup hg ho hs
 go_enter Tryz.func20,Tryz.ntmps20
 go_wp2_with (first
  | (go_at_call 21;refine HB.out.up.mono ?_;rintro e w2 ⟨rfl,rfl⟩;rw[HU.out.1])
  | (go_at_call 40;obtain⟨G,gv,h1⟩:=HB.out;refine (h1.drop31 HU.out.2.1).mono ?_;rintro e w2 ⟨rfl,h2⟩;have h2:=h2.at;have k3:=h2.c3;have H2:=Lib.hid h2;clear h2 h1)
  | (go_at_call 41;refine (H2.out.dropT HU.out.2.2).mono ?_;rintro e w3 ⟨rfl,h3⟩;have k4:=h3.c4;have H3:=Lib.hid h3;clear h3)
  | (go_at_call 42;refine (H3.out.resetL).mono ?_;rintro e w4 ⟨rfl,h4⟩;have k5:=h4.c5;have H4:=Lib.hid h4;clear h4 H3)
  | (go_at_call 42;refine (H4.out.resetR).mono ?_;rintro e w5 ⟨rfl,h5⟩;have k6:=h5.fz 1;have k8:=h5.c1;have H5:=Lib.hid h5;clear h5))
 go_end0
 exact⟨rfl,H5.out.setNum 0⟩
theorem ends20_up (w0:World) (a:Sa) (ch:Int) (p:Ps) (w:World) (h:SsAt w0 a ch p w) (hup:p.c.up=true) (hs:p.num=0) (hn:p.c.sess≠0) (ho:p.tkr.opn=false) :
  Calls Tryz.prog 20 #[.pointer (some ⟨a.k,0,none⟩)] w fun e w'=>e=.returned (.tuple #[])∧SsAt w0 a ch { p with tkr:=(openT p.tkr).1,wl:=⟨#[]⟩,wr:=⟨#[]⟩,num:=p.c.sess } w':=by
 have HB:=Lib.hid h
 have k0:=h.c0
 have k1:=h.c1
 rw[hs] at k1
 have k4:=h.c4
 have q2:decide (p.c.sess=0)=false:=decide_eq_false hn
 have HU:=Lib.hid (And.intro hup ho)
 clear h hup ho hs
 go_enter Tryz.func20,Tryz.ntmps20
 go_wp2_with (first
  | (go_at_call 21;refine HB.out.up.mono ?_;rintro e w2 ⟨rfl,rfl⟩;rw[HU.out.1])
  | (go_at_call 39;refine HB.out.session.mono ?_;rintro e w2 ⟨rfl,rfl⟩)
  | (go_at_call 42;refine (HB.out.resetL).mono ?_;rintro e w4 ⟨rfl,h4⟩;have k5:=h4.c5;have H4:=Lib.hid h4;clear h4 HB)
  | (go_at_call 42;refine (H4.out.resetR).mono ?_;rintro e w5 ⟨rfl,h5⟩;have k6:=h5.c3;have H5:=Lib.hid h5;clear h5)
  | (go_at_call 30;refine (H5.out.openT HU.out.2).mono ?_;rintro e w6 ⟨rfl,h6⟩;have k7:=h6.fz 1;have k8:=h6.c1;have H6:=Lib.hid h6;clear h6))
 go_end0
 exact⟨rfl,H6.out.setNum p.c.sess⟩
end
open Go.RowKit
def wantC (x:Id) (fr:Int):Cm:=⟨3,⟨#[]⟩,x,0,fr,0,0,⟨#[]⟩⟩
def haveC (x:Id):Cm:=⟨4,⟨#[]⟩,x,0,0,0,0,⟨#[]⟩⟩
def ansC (g:List Txt) (q:Qn):Cm:=if hasG q.1 g=true then haveC q.1 else wantC q.1 q.2.2
structure SayOk (p:Ps) (j:Nat) (c:Cm):Prop where
 chk:chk c=0
 ok:c.ok
 up:p.c.up=true
 room:(p.bs j).length+(encT c).length≤1048576
def AskR (p:Ps) (q:Qn) (p':Ps):Prop :=
 p.got.length≤1000000∧∃ s2 c2,answerT p.tkr (ansC p.got q)=(s2,c2,0)∧SayOk p 3 c2∧p'={ p with tkr:=s2,bs:=upd p.bs 3 (p.bs 3++encT c2) }
def TakR (p:Ps) (t:Txt) (p':Ps):Prop :=
 p.got.length≤1000000∧∃ s2 c2,acceptedT p.tkr t.1 0=(s2,c2,0)∧SayOk p 3 c2∧p'={ p with tkr:=s2,got:=p.got++[t],bs:=upd p.bs 3 (p.bs 3++encT c2) }
structure DoneFull (s:Tk) (c:Cm):Prop where
 opn:s.opn=true
 chk:chk c=0
 verb:c.verb=8
 all:∃ k,rcvL s.act c.id=some k∧¬ (((ptK s.act k).bytes.size:Int)<(ptK s.act k).size)
structure HrP' (p:Ps) (c:Cm) (s1:Tk) (qs:List Qn) (ts:List Txt) (p2 p':Ps):Prop where
 name:c.name.size≤1000000
 text:c.text.size≤1000000
 hear:hearT p.tkr c=(s1,qs,ts,0)
 done:(ts=[]∧c.verb≠8)∨DoneFull p.tkr c
 ask:(qs=[]∧p2={ p with tkr:=s1 })∨∃ x,qs=[x]∧AskR { p with tkr:=s1 } x p2
 take:(ts=[]∧p'=p2)∨∃ t,ts=[t]∧TakR p2 t p'
def HrR (p:Ps) (c:Cm) (p':Ps):Prop:=∃ s1 qs ts p2,HrP' p c s1 qs ts p2 p'
structure HlR (ch:Int) (p:Ps) (c:Cm) (p':Ps):Prop where
 name:c.name=⟨#[]⟩
 outs:p.snd.outs.length≤100000
 good:Sn.Good ch p.snd
 hear:(Sn.hearS p.snd c).2=0
 hk:Sn.Hk p.snd c
 post:p'={ p with snd:=(Sn.hearS p.snd c).1 }
structure RcvP' (ch:Int) (p:Ps) (cs:List Cm) (rest:List UInt8) (f:Nat→Ps) (cs2:List Cm) (rest2:List UInt8) (g:Nat→Ps) (p':Ps):Prop where
 l5:(p.bs 5).length≤1048576
 s5:p.wr.size+(p.bs 5).length≤1000000
 feed5:feedL (bl p.wr++p.bs 5)=(cs,rest,0)
 n5:cs.length≤1000000
 f0:f 0={ p with bs:=upd p.bs 5 [],wr:=⟨rest.toArray⟩ }
 fs:∀ i (h:i<cs.length),HrR (f i) cs[i] (f (i+1))
 l2:((f cs.length).bs 2).length≤1048576
 s2:(f cs.length).wl.size+((f cs.length).bs 2).length≤1000000
 feed2:feedL (bl (f cs.length).wl++(f cs.length).bs 2)=(cs2,rest2,0)
 n2:cs2.length≤1000000
 g0:g 0={ f cs.length with bs:=upd (f cs.length).bs 2 [],wl:=⟨rest2.toArray⟩ }
 gs:∀ i (h:i<cs2.length),HlR ch (g i) cs2[i] (g (i+1))
 post:p'=g cs2.length
def RcvR (ch:Int) (p p':Ps):Prop:=∃ cs rest f cs2 rest2 g,RcvP' ch p cs rest f cs2 rest2 g p'
theorem DoneFull.hear {s:Tk} {c:Cm} (h:DoneFull s c):hearT s c=((doneT s c).1,[],(doneT s c).2.1,(doneT s c).2.2):=by
 unfold hearT
 rw[if_neg (by rw[h.opn];decide),if_neg (by rw[h.chk];decide),if_neg (by rw[h.verb];decide),if_neg (by rw[h.verb];decide),if_pos h.verb]
def W1 {σ:Type} (W:World) (Q:σ→World→Prop) (s:σ):Bool→World→Prop
 | false,u=>Below W.heap.size W u
 | true,u=>Q s u
section
variable {w0 W w w' u u' : World} {a : Sa} {ch : Int} {p p' : Ps} {G : Nat → List Nat} {gv : SlV} {F' : List Nat}
theorem SsR.same (h:SsR w0 a ch p G gv u) (hs:u.heap.size≤u'.heap.size) (hk:∀ k∈Gall G,u'.heap[k]? = u.heap[k]?) (hb:Below w0.heap.size w0 u'):SsR w0 a ch p G gv u':=by
 have hj:∀ j,j<7→∀ k∈G j,u'.heap[k]? = u.heap[k]?:=fun j hj k hm=>hk k (mem_Gall.2 ⟨j,hj,hm⟩)
 exact⟨⟨h.gp.dis,h.gp.low,fun i hi k hm=>Nat.lt_of_lt_of_le (h.gp.lt i hi k hm) hs,hb⟩,h.row.same (hj 0 (by decide) _ h.l0),h.l0,h.ln.same hs (hj 1 (by decide)),h.sn.same (hj 2 (by decide)),h.tk.same hs (hj 3 (by decide)) hb,Row.same h.rl (hj 4 (by decide) _ h.l4),h.l4,Row.same h.rr (hj 5 (by decide) _ h.l5),h.l5,h.got.same (fun j hq=>hj 6 (by decide) _ (h.l6 j (own_eq.1 hq))),h.l6⟩
theorem SsR.hearAny (h:SsR w0 a ch p G gv w) (hL:Laid w0) (c:Cm) {s1:Tk} {qs:List Qn} {ts:List Txt} (hn:c.name.size≤1000000) (ht:c.text.size≤1000000) (hh:hearT p.tkr c=(s1,qs,ts,0)) (hd:(ts=[]∧c.verb≠8)∨DoneFull p.tkr c) :
  Calls Tryz.prog 31 #[.pointer (some ⟨a.tk,0,none⟩),vC c] w fun e w'=>∃ q l:SlV,e=.returned (.tuple #[.slice q.1 q.2.1 q.2.2,.slice l.1 l.2.1 l.2.2,.int .i64 0])∧HrW w0 a ch { p with tkr:=s1 } qs ts q l G w w':=by
 rcases hd with⟨rfl,h8⟩|hd
 ·exact h.hear hL c hn ht hh h8
 ·obtain⟨k,hr,hf⟩:=hd.all
  have e:=hd.hear.symm.trans hh
  have e1:(doneT p.tkr c).1=s1:=congrArg Prod.fst e
  have e2:[]=qs:=congrArg (fun x=>x.2.1) e
  have e3:(doneT p.tkr c).2.1=ts:=congrArg (fun x=>x.2.2.1) e
  have:=h.hearDone hL c hn ht hd.opn hd.chk hd.verb k hr hf
  rw[e1,e3] at this
  rw[← e2]
  exact this
theorem HrW.under {qs:List Qn} {ts:List Txt} {q l:SlV} (h:HrW w0 a ch p qs ts q l G w w') (hb:Below W.heap.size W w):HrW w0 a ch p qs ts q l G W w':=by
 obtain⟨G',gv',h1,h2,h3,h4⟩:=h
 exact⟨G',gv',h1,(Kp.of_below hb).trans h2,h3,h4⟩
structure CbW (W:World) (cm:Cm) (g:Nat) (d1 d2:Bool) (u:World):Prop where
 bl:Below W.heap.size W u
 a1:d1=true→d2=false→Row u g (cC zC) 74
 a2:d2=true→Row u g (cC cm) 74
 nw:d1=true→W.heap.size≤g
theorem CbW.start {cm:Cm} (h:Below W.heap.size W u):CbW W cm 0 false false u:=⟨h,fun e=>(by cases e),fun e=>(by cases e),fun e=>(by cases e)⟩
theorem CbW.made {cm:Cm} {g:Nat} (h:CbW W cm g false false u):CbW W cm u.heap.size true false (u.alloc (.cells (aC zC) 74)) :=
 ⟨Below.step h.bl (below_alloc _ _),fun _ _=>Row.new u (cC zC) _,fun e=>(by cases e),fun _=>h.bl.size⟩
theorem CbW.put {cm:Cm} {g:Nat} (h:CbW W cm g true false u):CbW W cm g true true (u.setRow g (aC cm)):=by
 have ho:One g u (u.setRow g (aC cm)):=One.setRow _ _
 refine⟨⟨ho.os.trans h.bl.os,ho.tape.trans h.bl.tape,ho.output.trans h.bl.output,Nat.le_trans h.bl.size ho.size,fun k hk=>?_⟩,fun _ e=>(by cases e),fun _=>Row.setRow (h.a1 rfl rfl) (cC cm),h.nw⟩
 have:=h.nw rfl
 exact (ho.out k (Nat.lt_of_lt_of_le hk h.bl.size) (by omega)).trans (h.bl.block k hk)
structure AnW (w0:World) (a:Sa) (ch:Int) (p':Ps) (gv:SlV) (W:World) (G:Nat→List Nat) (c2:Cm) (s:(Nat→List Nat)×Nat) (d1 d2 d3:Bool) (u:World):Prop where
 s0:d1=false→Below W.heap.size W u
 s1:d1=true→SsR w0 a ch p' s.1 gv u∧Kp (Gall G) (Gall s.1) W u
 al:d2=true→d3=false→Row u s.2 (cC zC) 74
 st:d3=true→Row u s.2 (cC c2) 74
 nw:d2=true→W.heap.size≤s.2
 nG:d2=true→d1=true→s.2∉Gall s.1
theorem AnW.start {c2:Cm} (h:Below W.heap.size W u):AnW w0 a ch p' gv W G c2 (G,0) false false false u :=
 ⟨fun _=>h,fun e=>(by cases e),fun e=>(by cases e),fun e=>(by cases e),fun e=>(by cases e),fun e=>(by cases e)⟩
theorem AnW.called {c2:Cm} {s:(Nat→List Nat)×Nat} {d2:Bool} {G':Nat→List Nat} (h:AnW w0 a ch p' gv W G c2 s false d2 false u) (hW:∀ k∈Gall G,k<W.heap.size) (hs:SsR w0 a ch p' G' gv u') (hk:Kp (Gall G) (Gall G') u u'):AnW w0 a ch p' gv W G c2 (G',s.2) true d2 false u':=by
 have hb:=h.s0 rfl
 have hout:d2=true→s.2<u.heap.size∧s.2∉Gall G:=fun e=>⟨(h.al e rfl).lt,fun hm=>by have:=hW _ hm;have:=h.nw e;omega⟩
 exact⟨fun e=>(by cases e),fun _=>⟨hs,(Kp.of_below hb).trans hk⟩,fun e _=>(h.al e rfl).same (hk.out _ (hout e).1 (hout e).2).2,fun e=>(by cases e),h.nw,fun e _=>(hk.out _ (hout e).1 (hout e).2).1⟩
theorem AnW.made {c2:Cm} {s:(Nat→List Nat)×Nat} {d1:Bool} (h:AnW w0 a ch p' gv W G c2 s d1 false false u):AnW w0 a ch p' gv W G c2 (s.1,u.heap.size) d1 true false (u.alloc (.cells (aC zC) 74)) :=
 ⟨fun e=>Below.step (h.s0 e) (below_alloc _ _),fun e=>⟨(h.s1 e).1.keep (below_alloc _ _),(h.s1 e).2.trans (Kp.of_below (below_alloc _ _))⟩,fun _ _=>Row.new u (cC zC) _,fun e=>(by cases e),fun _=>by
  cases d1 with
  | false=>exact (h.s0 rfl).size
  | true=>exact (h.s1 rfl).2.size,fun _ e hm=>by have:=(h.s1 e).1.lt _ hm;omega⟩
theorem AnW.put {c2:Cm} {s:(Nat→List Nat)×Nat} (h:AnW w0 a ch p' gv W G c2 s true true false u) (hw0:w0.heap.size≤W.heap.size):AnW w0 a ch p' gv W G c2 s true true true (u.setRow s.2 (aC c2)):=by
 have ho:One s.2 u (u.setRow s.2 (aC c2)):=One.setRow _ _
 obtain⟨h1,h2⟩:=h.s1 rfl
 have hn:=h.nw rfl
 have hG:=h.nG rfl rfl
 have hlow:w0.heap.size≤s.2:=Nat.le_trans hw0 hn
 refine⟨fun e=>(by cases e),fun _=>⟨h1.same ho.size (fun k hk=>ho.out k (h1.lt k hk) (fun e=>hG (e▸hk))) (Below.trans h1.gp.bel (ho.below hlow h1.gp.bel.size)),?_⟩,fun _ e=>(by cases e),fun _=>Row.setRow (h.al rfl rfl) (cC c2),fun _=>hn,fun _ _=>hG⟩
 exact⟨ho.os.trans h2.os,ho.tape.trans h2.tape,ho.output.trans h2.output,Nat.le_trans h2.size ho.size,fun k hk hm=>⟨(h2.out k hk hm).1,(ho.out k (Nat.lt_of_lt_of_le hk h2.size) (by omega)).trans (h2.out k hk hm).2⟩⟩
structure GtW (w0:World) (a:Sa) (ch:Int) (p:Ps) (gv:SlV) (W:World) (G:Nat→List Nat) (x:Txt) (s:Nat×SlV) (d1 d2 d3:Bool) (u:World):Prop where
 s0:d2=false→Below W.heap.size W u
 one:d1=true→d2=false→At u ⟨s.1,0,none⟩ (cTx x)
 ap:d2=true→d3=false→∃ u0,Below W.heap.size W u0∧Own u 0 47 33 cTx (.slice s.2.1 s.2.2.1 s.2.2.2) (p.got++[x])∧u0.grownBy u (blkA gv.1)∧∀ g,blkA s.2.1=some g→blkA gv.1=some g∨u0.heap.size≤g
 st:d3=true→SsN w0 a ch { p with got:=p.got++[x] } G W u
theorem GtW.start {x:Txt} (h:Below W.heap.size W u):GtW w0 a ch p gv W G x (0,(none,0,0)) false false false u:=⟨fun _=>h,fun e=>(by cases e),fun e=>(by cases e),fun e=>(by cases e)⟩
theorem GtW.made {x:Txt} {s:Nat×SlV} {g:Nat} (h:GtW w0 a ch p gv W G x s false false false u) (hb:Below u.heap.size u u') (hat:At u' ⟨g,0,none⟩ (cTx x)):GtW w0 a ch p gv W G x (g,s.2) true false false u' :=
 ⟨fun _=>Below.step (h.s0 rfl) hb,fun _ _=>hat,fun e=>(by cases e),fun e=>(by cases e)⟩
theorem GtW.grew {x:Txt} {s:Nat×SlV} {v:SlV} (h:GtW w0 a ch p gv W G x s true false false u) (ho:Own u' 0 47 33 cTx (.slice v.1 v.2.1 v.2.2) (p.got++[x])) (hg:u.grownBy u' (blkA gv.1)) (hb:blkA v.1=blkA gv.1∨blkA v.1=some u.heap.size):GtW w0 a ch p gv W G x (s.1,v) true true false u' :=
 ⟨fun e=>(by cases e),fun _ e=>(by cases e),fun _ _=>⟨u,h.s0 rfl,ho,hg,fun g e=>by
  rcases hb with hb|hb
  ·exact Or.inl (hb.symm.trans e)
  ·rw[hb] at e
   cases e
   exact Or.inr (Nat.le_refl _)⟩,fun e=>(by cases e)⟩
theorem GtW.row {x:Txt} {s:Nat×SlV} (h:GtW w0 a ch p gv W G x s true true false u) (hW:SsR w0 a ch p G gv W):Row u a.k (cSs ⟨some ⟨a.ln,0,none⟩,p.num,some ⟨a.sn,0,none⟩,some ⟨a.tk,0,none⟩,some ⟨a.rl,0,none⟩,some ⟨a.rr,0,none⟩,gv,false⟩) 36:=by
 obtain⟨u0,h1,h2,h3,h4⟩:=h.ap rfl rfl
 have hr:=hW.row.keep h1
 exact hr.same (h3.block a.k hr.lt (fun e=>hW.gp.dis 0 6 (by decide) (by decide) (by decide) a.k hW.l0 (hW.l6 a.k e.symm)))
theorem GtW.stored {x:Txt} {s:Nat×SlV} (h:GtW w0 a ch p gv W G x s true true false u) (hW:SsR w0 a ch p G gv W):GtW w0 a ch p gv W G x s true true true (u.setCell ⟨a.k,6,none⟩ (.slice s.2.1 s.2.2.1 s.2.2.2)):=by
 obtain⟨u0,h1,h2,h3,h4⟩:=h.ap rfl rfl
 exact⟨fun e=>(by cases e),fun _ e=>(by cases e),fun _ e=>(by cases e),fun _=>((hW.keep h1).onGot h2 h3 h4).under (Kp.of_below h1)⟩
end
end Go.Proofs.YtdkjgcfhepplbaaGreatDoor
