/- bulletintop: begin. -/
import Derived.Test.YtdkjgcfhepplbaaGreatDoorMPf7
namespace Go.Proofs.YtdkjgcfhepplbaaGreatDoor
open Go.RowKit
set_option maxRecDepth 100000 in
theorem newReader17 (w:World):Calls Tryz.prog 17 #[] w fun e w'=>e=.returned (.pointer (some ⟨w.heap.size,0,none⟩))∧RdAt w.heap.size ⟨#[]⟩ 0 w'∧Below w.heap.size w w':=by
 go_enter Tryz.func17,Tryz.ntmps17
 go_wp2
 go_ret
 exact⟨rfl,Row.new w _ _,below_alloc _ _⟩
def ps0 (x:Cf):Ps:=⟨⟨x,0,true,1⟩,fun _=>[],fun _=>[],0,Sn.St.zero,Tk.new 2,⟨#[]⟩,⟨#[]⟩,[]⟩
def grp (l:List (List Nat)):Nat→List Nat:=fun i=>l[i]?.getD []
theorem Gp.mk' {w0 w:World} (hb:Below w0.heap.size w0 w):∀ (l:List (List Nat)),l.Pairwise (fun F G=>∀ a∈F,∀ b∈G,a≠b)→(∀ F∈l,∀ k∈F,w0.heap.size≤k∧k<w.heap.size)→Gp w0 (grp l) w:=by
 intro l hp hl
 have hm:∀ i k,k∈grp l i→∃ h:i<l.length,k∈l[i]:=fun i k hk=>by
  unfold grp at hk
  cases h:l[i]? with
  | none=>rw[h] at hk;cases hk
  | some F =>
   rw[h] at hk
   obtain⟨h1,h2⟩:=List.getElem?_eq_some_iff.1 h
   exact⟨h1,by rw[h2];exact hk⟩
 refine⟨fun i j _ _ hne k hk hk2=>?_,fun i _ k hk=>?_,fun i _ k hk=>?_,hb⟩
 ·obtain⟨h1,h2⟩:=hm i k hk
  obtain⟨h3,h4⟩:=hm j k hk2
  rcases Nat.lt_or_gt_of_ne hne with h|h
  ·exact absurd rfl (List.pairwise_iff_getElem.1 hp i j h1 h3 h k h2 k h4)
  ·exact absurd rfl (List.pairwise_iff_getElem.1 hp j i h3 h1 h k h4 k h2)
 ·obtain⟨h1,h2⟩:=hm i k hk
  exact (hl _ (List.getElem_mem h1) k h2).1
 ·obtain⟨h1,h2⟩:=hm i k hk
  exact (hl _ (List.getElem_mem h1) k h2).2
set_option maxRecDepth 100000 in
set_option maxHeartbeats 3200000 in
theorem begin6 (w0:World) (r dl:Nat) (ch:Int) (w:World) (hb:Below w0.heap.size w0 w) (h1:1≤r) (h2:r≤1048576) (h3:dl≤1440) (hc1:1≤ch) (hc2:ch≤4096) :
  Calls Tryz.prog 6 #[.int .i64 (r:Int),.int .i64 (dl:Int),.int .i64 ch] w fun e w'=>∃ (a:Sa) (x:Cf),e=.returned (.tuple #[.pointer (some ⟨a.k,0,none⟩),.bool true])∧x.rate=(r:Int)∧x.delay=(dl:Int)∧x.period=10∧SsAt w0 a ch (ps0 x) w':=by
 obtain⟨g,W1,hg,hW1,hb1,k3⟩:∃ g W1,w.heap.size=g∧w.alloc (.cells (aWis [(0,10)]) 54)=W1∧Below w.heap.size w W1∧Row W1 g ([(0,10)].flatMap cWi) 54:=⟨_,_,rfl,rfl,below_alloc _ _,Row.new _ _ _⟩
 have hsl:Sl W1 cWi (some ⟨g,0,none⟩) [(0,10)]:=fun _=>⟨_,rfl,k3.at_ (k:=0) (n:=2) rfl⟩
 have HB:=Lib.hid (And.intro hb (And.intro hb1 hsl))
 have H0:=Lib.hid (And.intro h1 (And.intro h2 (And.intro h3 (And.intro hc1 hc2))))
 clear hb hb1 k3 hsl h1 h2 h3 hc1 hc2
 go_enter Tryz.func6,Tryz.ntmps6
 go_wp2_with (first
  | (go_at_call 14;refine (new14 r dl ⟨g,0,none⟩ 1 H0.out.1 H0.out.2.1 H0.out.2.2.1 W1 HB.out.2.2).mono ?_;rintro e w2 ⟨gl,x,F,rfl,hl,x1,x2,x3,hb2,hF⟩;have H2:=Lib.hid (And.intro hl (And.intro hb2 (And.intro hF (And.intro x1 (And.intro x2 x3)))));clear hl hb2 hF x1 x2 x3)
  | (go_at_call 15;refine (Sn.new11_ok ch H0.out.2.2.2.1 H0.out.2.2.2.2 w2).mono ?_;rintro e w3 ⟨rfl,hs,hb3⟩;obtain⟨go,hgo⟩:∃ go,w2.heap.size=go:=⟨_,rfl⟩;rw[hgo] at hs ⊢;have H3:=Lib.hid (And.intro hs (And.intro hb3 hgo));clear hs hb3 hgo)
  | (go_at_call 16;refine (new13_ok 2 (by decide) (by decide) w3).mono ?_;rintro e w4 ⟨rfl,ht,hb4⟩;obtain⟨gt,hgt⟩:∃ gt,w3.heap.size=gt:=⟨_,rfl⟩;have H4:=Lib.hid (And.intro ht (And.intro hb4 hgt));rw[hgt];clear ht hb4 hgt)
  | (go_at_call 17;refine (newReader17 w4).mono ?_;rintro e w5 ⟨rfl,hr,hb5⟩;obtain⟨rl,hrl⟩:∃ rl,w4.heap.size=rl:=⟨_,rfl⟩;rw[hrl] at hr ⊢;have H5:=Lib.hid (And.intro hr (And.intro hb5 hrl));clear hr hb5 hrl)
  | (go_at_call 17;refine (newReader17 w5).mono ?_;rintro e w6 ⟨rfl,hr,hb6⟩;obtain⟨rr,hrr⟩:∃ rr,w5.heap.size=rr:=⟨_,rfl⟩;rw[hrr] at hr ⊢;have H6:=Lib.hid (And.intro hr (And.intro hb6 hrr));clear hr hb6 hrr))
 go_ret2
 obtain⟨hl,hb2,hF,x1,x2,x3⟩:=H2.out
 obtain⟨hs,hb3,hgo⟩:=H3.out
 obtain⟨ht,hb4,hgt⟩:=H4.out
 obtain⟨hr,hb5,hrl⟩:=H5.out
 obtain⟨hq,hb6,hrr⟩:=H6.out
 obtain⟨W7,hW7⟩:∃ W7,w6.alloc (.cells (aSs ⟨some ⟨gl,0,none⟩,0,some ⟨go,0,none⟩,some ⟨gt,0,none⟩,some ⟨rl,0,none⟩,some ⟨rr,0,none⟩,(none,0,0),false⟩) 36)=W7:=⟨_,rfl⟩
 have hb7:Below w6.heap.size w6 W7:=by rw[← hW7];exact below_alloc _ _
 have hk:Row W7 w6.heap.size (cSs ⟨some ⟨gl,0,none⟩,0,some ⟨go,0,none⟩,some ⟨gt,0,none⟩,some ⟨rl,0,none⟩,some ⟨rr,0,none⟩,(none,0,0),false⟩) 36:=by rw[← hW7];exact Row.new _ _ _
 obtain⟨hb0,hb1, -⟩:=HB.out
 have z0:=hb0.size
 have z1:=hb1.size
 have z2:=hb2.size
 have z3:=hb3.size
 have z4:=hb4.size
 have z5:=hb5.size
 have z6:=hb6.size
 have z7:=hb7.size
 have hFl:=hl.lt
 have hgoS:go<w3.heap.size:=by
  obtain⟨vw,vo,q,h⟩:=hs
  exact h.row.lt
 have hgtS:gt<w4.heap.size:=by
  obtain⟨va,vk,h⟩:=ht
  rw[← hgt]
  exact h.blt
 have hrlS:=Row.lt hr
 have hrrS:=Row.lt hq
 have hkS:=hk.lt
 have hall:Below w0.heap.size w0 W7:=Below.step (Below.step (Below.step (Below.step (Below.step (Below.step (Below.step hb0 hb1) hb2) hb3) hb4) hb5) hb6) hb7
 obtain⟨k,hkk⟩:∃ k,w6.heap.size=k:=⟨_,rfl⟩
 rw[hkk] at hk hkS
 have hG:Gp w0 (grp [[k],F,[go],[gt],[rl],[rr],[]]) W7:=by
  refine Gp.mk' hall _ ?_ ?_
  ·simp only[List.pairwise_cons,List.mem_cons,List.not_mem_nil,or_false,forall_eq_or_imp,forall_eq,List.Pairwise.nil,and_true,false_implies,implies_true]
   refine⟨⟨fun b hb=>?_,?_,?_,?_,?_⟩,⟨fun b hb=>?_,fun b hb=>?_,fun b hb=>?_,fun b hb=>?_⟩,?_⟩
   all_goals first
    | (have:=hFl _ hb;omega)
    | omega
  ·intro A hA j hj
   simp only[List.mem_cons,List.not_mem_nil,or_false] at hA
   rcases hA with rfl|rfl|rfl|rfl|rfl|rfl|rfl
   all_goals try simp only[List.mem_cons,List.not_mem_nil,or_false] at hj
   ·subst hj;omega
   ·have:=hFl j hj;have:=hF j hj;omega
   all_goals subst hj;omega
 have b7:=hb7
 have b6:=Below.step hb6 b7
 have b5:=Below.step hb5 b6
 have b4:=Below.step hb4 b5
 have b3:=Below.step hb3 b4
 refine⟨⟨k,gl,go,gt,rl,rr⟩,x,by rw[← hkk];rfl,x1,x2,x3,grp [[k],F,[go],[gt],[rl],[rr],[]],(none,0,0),?_⟩
 rw[hW7]
 exact⟨hG,hk,List.mem_singleton.2 rfl,hl.same b3.size (fun j hj=>b3.block j (hFl j hj)),hs.keep b4,TkB.keep ⟨by rw[hgt] at ht;exact ht,TkI.new (by decide) (by decide),Below.step (Below.step (Below.step (Below.step hb0 hb1) hb2) hb3) hb4,fun j hj=>by rw[List.mem_singleton.1 hj];omega,fun j hj=>by rw[List.mem_singleton.1 hj];exact hgtS⟩ b5,Row.keep hr b6,List.mem_singleton.2 rfl,Row.keep hq b7,List.mem_singleton.2 rfl,Own.nil _ _ _ _ _,fun g hg=>(by cases hg)⟩
open Go.RowKit
structure Nn' (arts:List Sn.Art) (i:Nat) (p:Ps) (h g:Nat) (o:List Sn.Out) (K:List Pt):Prop where
 num:p.num=0
 got:p.got=arts.take g
 outs:OutsOk arts h o
 kept:(h=arts.length∧g=h∧K=[])∨∃ a b,arts[h]? = some a∧KeptG a h g K b
 tkr:p.tkr=⟨2,false,[],K⟩
 snd:p.snd=⟨arts.drop h,0,Sn.zA,o,none⟩
 bs:∀ k,p.bs k=[]
 wy:∀ k,p.wy k=[]
 i64:i≤64
def Nn (arts:List Sn.Art) (i:Nat) (p:Ps):Prop:=∃ h g o K,Nn' arts i p h g o K
theorem drop_some {arts:List Sn.Art} {h:Nat} {a:Sn.Art} (e:arts[h]? = some a):a :: arts.drop (h+1)=arts.drop h:=by
 obtain⟨h1,h2⟩:=List.getElem?_eq_some_iff.1 e
 rw[List.drop_eq_getElem_cons h1,h2]
theorem ext_0 (t:ByteArray):t.extract 0 0=⟨#[]⟩:=by
 apply ByteArray.ext
 rw[ByteArray.data_extract]
 simp
theorem keep_part {a:Sn.Art} {h b:Nat} (hb:b≤a.2.size):∃ K c,(dropT ⟨2,true,[⟨a.1,a.2.size,2,a.2.extract 0 b⟩],[]⟩).1=⟨2,false,[],K⟩∧KeptG a h h K c:=by
 have hs:=ext_size a.2 (a:=0) hb
 by_cases h0:b=0
 ·subst h0
  refine⟨[],⟨#[]⟩,?_,Or.inl ⟨rfl,Or.inl ⟨rfl,rfl⟩,?_,Nat.zero_le _⟩⟩
  ·unfold dropT
   rw[if_pos rfl]
   show (⟨2,false,[],keepP [] (⟨a.1,(a.2.size:Int),2,a.2.extract 0 0⟩:Pt)⟩:Tk)=_
   unfold keepP
   rw[if_pos (Or.inr (by show (a.2.extract 0 0).size=0;omega))]
  ·rw[nm0,ext_0]
 ·refine⟨[⟨a.1,a.2.size,4,a.2.extract 0 b⟩],a.2.extract 0 b,?_,Or.inl ⟨rfl,Or.inr ⟨rfl,by omega⟩,by rw[hs,Nat.sub_zero],by omega⟩⟩
  unfold dropT
  rw[if_pos rfl]
  show (⟨2,false,[],keepP [] (⟨a.1,(a.2.size:Int),2,a.2.extract 0 b⟩:Pt)⟩:Tk)=_
  unfold keepP
  rw[if_neg (by rintro (h1|h1);exact h1 rfl;have h2:(a.2.extract 0 b).size=0:=h1;omega)]
  rfl
theorem Body.tk {arts:List Sn.Art} {ch h g:Nat} {o:List Sn.Out} {sr sl:List UInt8} {tk:Tk} {sn:Sn.St} {rem:Nat} (hb:Body arts ch h g o sr sl tk sn rem) :
  tk.opn=true∧Sn.dropS sn=⟨arts.drop h,0,Sn.zA,o,none⟩∧∃ K,(dropT tk).1=⟨2,false,[],K⟩∧((h=arts.length∧g=h∧K=[])∨∃ a b,arts[h]? = some a∧KeptG a h g K b):=by
 have hn:∀ K,(dropT ⟨2,true,[],K⟩).1=⟨2,false,[],K⟩:=fun K=>rfl
 cases hb with
 | @idle K h1 h2 h3=>exact⟨rfl,by subst h1;rw[List.drop_length];rfl,K,hn K,Or.inl ⟨h1,h2,h3⟩⟩
 | @offered a K b h1 h2=>exact⟨rfl,by rw[← drop_some h1];rfl,K,hn K,Or.inr ⟨a,b,h1,h2⟩⟩
 | @wanting a b h1 h2 h3 =>
  obtain⟨K,c,e1,e2⟩:=keep_part (a:=a) (h:=h) h3
  exact⟨rfl,by rw[← drop_some h1];rfl,K,e1,Or.inr ⟨a,c,h1,by rw[h2];exact e2⟩⟩
 | @having a h1 h2=>exact⟨rfl,by rw[← drop_some h1];rfl,[],hn [],Or.inr ⟨a,⟨#[]⟩,h1,Or.inr ⟨h2,rfl⟩⟩⟩
 | @sending a b P h1 h2 h3 h4 =>
  obtain⟨K,c,e1,e2⟩:=keep_part (a:=a) (h:=h) h3
  exact⟨rfl,by rw[← drop_some h1];rfl,K,e1,Or.inr ⟨a,c,h1,by rw[h2];exact e2⟩⟩
 | @gotten a h1 h2=>exact⟨rfl,by rw[← drop_some h1];rfl,[],hn [],Or.inr ⟨a,⟨#[]⟩,h1,Or.inr ⟨h2,rfl⟩⟩⟩
theorem dn_bs {r dl ch i:Nat} {p:Ps} (h:Com r dl ch i p) (k:Nat):nwB (dnB 2 p.bs) 2 k=[]:=by
 show upd (upd (dnB 2 p.bs) 2 []) 5 [] k=[]
 by_cases k5:k=5
 ·subst k5;exact upd_same _ _ _
 rw[upd_ne _ _ k5]
 by_cases k2:k=2
 ·subst k2;exact upd_same _ _ _
 rw[upd_ne _ _ k2]
 unfold dnB
 split
 ·rfl
 ·rename_i hh
  exact h.ob k (fun e=>hh (by omega)) k2 (fun e=>hh (by omega)) k5
theorem dn_wy {r dl ch i:Nat} {p:Ps} (h:Com r dl ch i p) (k:Nat):dnW 2 p.wy k=[]:=by
 unfold dnW
 split
 ·rfl
 ·rename_i hh
  exact h.ow k (fun e=>hh (by omega)) (fun e=>hh (by omega))
theorem Ph.cut {arts:List Sn.Art} {r dl ch e i:Nat} {p:Ps} (hc:Com r dl ch i p) (hp:Ph arts r dl ch e i p) (hi:i≤63):∃ s,DnOk (ch:Int) p i s∧Com r dl ch (i+1) (dnP i s p)∧Nn arts (i+1) (dnP i s p):=by
 obtain⟨h,g,T,rem,o,hh⟩:=hp
 obtain⟨s,hs,s1,s2⟩:=hc.sess
 obtain⟨b1,b2,K,b3,b4⟩:=hh.body.tk
 refine⟨s,⟨hc.up,by rw[hh.num,hs];omega,hc.good,b1,hc.now,hs,hc.period,by omega,by omega⟩,⟨rfl,hc.rate,hc.delay,hc.period,rfl,⟨s+1,rfl,by omega,by omega⟩,hc.good.drop,fun k _ _ _ _=>dn_bs hc k,fun k _ _=>dn_wy hc k,fun k=>?_,fun k x hx=>(by have hx:x∈dnW 2 p.wy k:=hx;rw[dn_wy hc] at hx;cases hx),?_,?_⟩,h,g,o,K,rfl,hh.got,hh.outs,b4,b3,b2,dn_bs hc,dn_wy hc,by omega⟩
 ·show (dnW 2 p.wy k).length≤_
  rw[dn_wy hc]
  exact Nat.zero_le _
 ·rw[strR_len]
  show (bl ⟨#[]⟩).length+(nwB (dnB 2 p.bs) 2 5).length+(flatW (dnW 2 p.wy 1)).length+(nwB (dnB 2 p.bs) 2 0).length≤_
  rw[dn_bs hc,dn_bs hc,dn_wy hc]
  exact Nat.zero_le _
 ·rw[strL_len]
  show (bl ⟨#[]⟩).length+(nwB (dnB 2 p.bs) 2 2).length+(flatW (dnW 2 p.wy 4)).length+(nwB (dnB 2 p.bs) 2 3).length≤_
  rw[dn_bs hc,dn_bs hc,dn_wy hc]
  exact Nat.zero_le _
open Go.RowKit
section
variable {arts : List Sn.Art} {r dl ch i : Nat} {p : Ps}
theorem Com.to (h:Com r dl ch i p) {q:Ps} (hc:q.c=p.c) (hw:q.wy=p.wy) (hb:∀ k,k≠0→k≠2→k≠3→k≠5→q.bs k=p.bs k) (hg:Sn.Good (ch:Int) q.snd) (hr:(strR q).length≤2000) (hl:(strL q).length≤2000):Com r dl ch i q :=
 ⟨by rw[hc];exact h.up,by rw[hc];exact h.rate,by rw[hc];exact h.delay,by rw[hc];exact h.period,by rw[hc];exact h.now,by rw[hc];exact h.sess,hg,fun k a b c d=>(hb k a b c d).trans (h.ob k a b c d),fun k a b=>by rw[hw];exact h.ow k a b,fun k=>by rw[hw];exact h.wl k,fun k=>by rw[hw];exact h.ne k,hr,hl⟩
theorem flat_nil {u:List (List UInt8×Nat)} (h:flatW u=[]) (hn:∀ x∈u,x.1≠[]):u=[]:=by
 cases u with
 | nil=>rfl
 | cons q u=>exact absurd (List.append_eq_nil_iff.1 (show q.1++flatW u=[] from h)).1 (hn q List.mem_cons_self)
theorem Com.rNil (h:Com r dl ch i p) (e:strR p=[]):p.wr=⟨#[]⟩∧p.bs 5=[]∧p.wy 1=[]∧p.bs 0=[]:=by
 unfold strR at e
 obtain⟨e1,e2⟩:=List.append_eq_nil_iff.1 e
 obtain⟨e3,e4⟩:=List.append_eq_nil_iff.1 e1
 obtain⟨e5,e6⟩:=List.append_eq_nil_iff.1 e3
 exact⟨bl_of e5.symm,e6,flat_nil e4 (h.ne 1),e2⟩
theorem Com.lNil (h:Com r dl ch i p) (e:strL p=[]):p.wl=⟨#[]⟩∧p.bs 2=[]∧p.wy 4=[]∧p.bs 3=[]:=by
 unfold strL at e
 obtain⟨e1,e2⟩:=List.append_eq_nil_iff.1 e
 obtain⟨e3,e4⟩:=List.append_eq_nil_iff.1 e1
 obtain⟨e5,e6⟩:=List.append_eq_nil_iff.1 e3
 exact⟨bl_of e5.symm,e6,flat_nil e4 (h.ne 4),e2⟩
theorem upd_nil {f:Nat→List UInt8} {k:Nat} (h:f k=[]):upd f k []=f:=(congrArg (upd f k) h.symm).trans (upd_self f k)
theorem feed_R {T:Nat} (hf:Flow r dl i (p.bs 0) (p.wy 1) T) {W:List Cm} (hW:∀ c∈W,chk c=0) (e:strR p=catC W) :
  ∃ got pend wt,feedL (bl p.wr++p.bs 5)=(got,wt,0)∧W=got++pend∧wt++(flatW (p.wy 1)++p.bs 0)=catC pend∧(T≤i→pend=[]):=by
 obtain⟨got,pend,wt,h1,h2,h3⟩:=feed_part W hW (bl p.wr++p.bs 5) (flatW (p.wy 1)++p.bs 0) (by rw[← e];unfold strR;simp only[List.append_assoc])
 refine⟨got,pend,wt,h1,h2,h3,fun hT=>?_⟩
 obtain⟨e1,e2⟩:=hf.fin hT
 have e3:bl p.wr++p.bs 5=catC W:=by
  rw[← e]
  unfold strR
  rw[e1,e2]
  simp[flatW]
 rw[e3,feed_all W hW] at h1
 have h4:W=got:=congrArg Prod.fst h1
 rw[← h4] at h2
 exact List.self_eq_append_right.1 h2
theorem feed_L {T:Nat} (hf:Flow r dl i (p.bs 3) (p.wy 4) T) {W:List Cm} (hW:∀ c∈W,chk c=0) (e:strL p=catC W) :
  ∃ got pend wt,feedL (bl p.wl++p.bs 2)=(got,wt,0)∧W=got++pend∧wt++(flatW (p.wy 4)++p.bs 3)=catC pend∧(T≤i→pend=[]):=by
 obtain⟨got,pend,wt,h1,h2,h3⟩:=feed_part W hW (bl p.wl++p.bs 2) (flatW (p.wy 4)++p.bs 3) (by rw[← e];unfold strL;simp only[List.append_assoc])
 refine⟨got,pend,wt,h1,h2,h3,fun hT=>?_⟩
 obtain⟨e1,e2⟩:=hf.fin hT
 have e3:bl p.wl++p.bs 2=catC W:=by
  rw[← e]
  unfold strL
  rw[e1,e2]
  simp[flatW]
 rw[e3,feed_all W hW] at h1
 have h4:W=got:=congrArg Prod.fst h1
 rw[← h4] at h2
 exact List.self_eq_append_right.1 h2
theorem cat1 (c:Cm):catC [c]=encT c:=List.append_nil _
theorem rcv_idle (h5:p.wr=⟨#[]⟩∧p.bs 5=[]) (h2:p.wl=⟨#[]⟩∧p.bs 2=[]):RcvR (ch:Int) p p:=by
 have f5:feedL (bl p.wr++p.bs 5)=([],[],0):=by rw[h5.1,h5.2];rfl
 have f2:feedL (bl p.wl++p.bs 2)=([],[],0):=by rw[h2.1,h2.2];rfl
 have e5:({ p with bs:=upd p.bs 5 [],wr:=⟨([]:List UInt8).toArray⟩ }:Ps)=p:=by
  rw[upd_nil h5.2,show (⟨([]:List UInt8).toArray⟩:ByteArray)=p.wr from h5.1.symm]
 have e2:({ p with bs:=upd p.bs 2 [],wl:=⟨([]:List UInt8).toArray⟩ }:Ps)=p:=by
  rw[upd_nil h2.2,show (⟨([]:List UInt8).toArray⟩:ByteArray)=p.wl from h2.1.symm]
 exact RcvR.mk (by rw[h5.2];exact Nat.zero_le _) (by rw[h5.1,nm0];exact Nat.zero_le _) f5 (Nat.zero_le _) (by rw[e5];exact .nil p) (by rw[h2.2];exact Nat.zero_le _) (by rw[h2.1,nm0];exact Nat.zero_le _) f2 (Nat.zero_le _) (by rw[e2];exact .nil p)
theorem art_mem {h:Nat} {a:Sn.Art} (e:arts[h]? = some a):a∈arts:=List.mem_of_getElem? e
theorem off_len {a:Sn.Art} (ha:ArtOk a):(encT (offC a.1 a.2.size)).length≤178:=enc_len (offC a.1 a.2.size) rfl (offC_ok _ _ (by have:=ha.most;omega))
theorem want_len {x:Id} {b:Nat} (hb:b≤100):(encT (wantC x b)).length≤178:=enc_len (wantC x b) rfl (wantC_ok _ _ (by omega))
theorem have_len (x:Id):(encT (haveC x)).length≤178:=enc_len (haveC x) rfl (plain_ok 4 x)
theorem got_len (x:Id):(encT (gotC x)).length≤178:=enc_len (gotC x) rfl (plain_ok 9 x)
theorem flow_short (hr:100≤r) {q:List UInt8} (hq:q.length≤178):Flow r dl i q [] (i+dl+2):=Flow.new (by rw[show i+dl+2=(dl+i)+2 by omega,Nat.mul_add r (dl+i) 2];omega) (by omega)
theorem flow_long (hr:100≤r) {q:List UInt8} (hq:q.length≤2000):Flow r dl i q [] (i+dl+20):=Flow.new (by rw[show i+dl+20=(dl+i)+20 by omega,Nat.mul_add r (dl+i) 20];omega) (by omega)
theorem offer_next (ho:PaOk arts r dl ch) (hc:Com r dl ch i p) {h g:Nat} {o:List Sn.Out} {K:List Pt} (hn:p.num=p.c.sess) (hg:p.got=arts.take g) (hou:OutsOk arts h o) (ht:p.tkr=⟨2,true,[],K⟩)
  (hk:(h=arts.length∧g=h∧K=[])∨∃ a b,arts[h]? = some a∧KeptG a h g K b) (hs:p.snd=⟨arts.drop h,0,Sn.zA,o,none⟩) (er:strR p=[]) (el:strL p=[]) (hb:h<arts.length→i+34+34 * (arts.length - h - 1)≤200) :
  ∃ p',SayR (ch:Int) p p'∧Com r dl ch i p'∧Ph arts r dl ch 1 i p':=by
 obtain⟨r1,r2,r3,r4⟩:=hc.rNil er
 obtain⟨l1,l2,l3,l4⟩:=hc.lNil el
 rcases hk with⟨h1,h2,h3⟩|⟨a,b,h1,h2⟩
 ·have hs2:p.snd=⟨[],0,Sn.zA,o,none⟩:=by rw[hs,h1,List.drop_length]
  refine⟨p,(SayI.nil p).to (by decide) hc.good (say_nil (by rw[hs2];exact Or.inr (Or.inr ⟨rfl,rfl⟩))),hc,h,g,i+1,0,o,hn,hg,hou,?_,fun hl=>by omega,by rw[r4,r3];exact Flow.nil _ _ _ _,by rw[l4,l3];exact Flow.nil _ _ _ _⟩
  rw[er,el,ht,hs2]
  exact .idle h1 h2 h3
 ·have ha:=ho.ok a (art_mem h1)
  have hlt:h<arts.length:=(List.getElem?_eq_some_iff.1 h1).1
  have hb:=hb hlt
  have hs2:p.snd=⟨a :: arts.drop (h+1),0,Sn.zA,o,none⟩:=by rw[hs,drop_some h1]
  obtain⟨s1,s2⟩:=say_off ha hc.good hs2 hc.up (by rw[r4];exact Nat.zero_le _)
  have hol:=off_len ha
  have hd:=ho.d2
  have e0:upd p.bs 0 (p.bs 0++encT (offC a.1 a.2.size)) 0=encT (offC a.1 a.2.size):=by rw[upd_same,r4];rfl
  obtain⟨q,hq⟩:∃ q,({ p with snd:=⟨arts.drop (h+1),1,a,o,none⟩,bs:=upd p.bs 0 (p.bs 0++encT (offC a.1 a.2.size)) }:Ps)=q:=⟨_,rfl⟩
  have eR:strR q=encT (offC a.1 a.2.size):=by
   rw[← hq]
   unfold strR
   dsimp only
   rw[e0,upd_ne _ _ (by decide),r1,r2,r3]
   rfl
  have eL:strL q=[]:=by
   rw[← hq]
   unfold strL
   dsimp only
   rw[upd_ne _ _ (by decide),upd_ne _ _ (by decide),l1,l2,l3,l4]
   rfl
  rw[hq] at s1
  refine⟨q,s1.to (by decide) (by rw[← hq];exact s2) (say_nil (by rw[← hq];exact Or.inl rfl)),hc.to (by rw[← hq]) (by rw[← hq]) (fun k k0 _ _ _=>by rw[← hq];exact upd_ne _ _ k0) (by rw[← hq];exact s2) (by rw[eR];omega) (by rw[eL];exact Nat.zero_le _),h,g,i+dl+2,30+34 * (arts.length - h - 1),o,by rw[← hq];exact hn,by rw[← hq];exact hg,hou,?_,fun _=>⟨by omega,by omega⟩,?_,?_⟩
  ·rw[eR,eL,← hq]
   dsimp only
   rw[ht]
   exact .offered h1 h2
  ·rw[← hq]
   dsimp only
   rw[e0,r3]
   exact flow_short ho.r1 hol
  ·rw[← hq]
   dsimp only
   rw[upd_ne _ _ (by decide),l4,l3]
   exact Flow.nil _ _ _ _
end
open Go.RowKit
section
variable {arts : List Sn.Art} {r dl ch i : Nat} {p : Ps}
theorem rcv_right {q:Ps} {cs:List Cm} {wt:List UInt8} (hc:Com r dl ch i p) (f5:feedL (bl p.wr++p.bs 5)=(cs,wt,0)) (n5:cs.length≤1000) (hI:HrI { p with bs:=upd p.bs 5 [],wr:=⟨wt.toArray⟩ } cs q) (hw:q.wl=⟨#[]⟩) (hb:q.bs 2=[]):RcvR (ch:Int) p q:=by
 have h1:=strR_len p
 have h2:=hc.sr
 have h3:=bl_size p.wr
 have f2:feedL (bl q.wl++q.bs 2)=([],[],0):=by rw[hw,hb];rfl
 have e2:({ q with bs:=upd q.bs 2 [],wl:=⟨([]:List UInt8).toArray⟩ }:Ps)=q:=by
  rw[upd_nil hb,show (⟨([]:List UInt8).toArray⟩:ByteArray)=q.wl from hw.symm]
 have h4:(bl p.wr).length=p.wr.size:=h3.symm
 have hl5:(p.bs 5).length≤2000:=by omega
 refine RcvR.mk hl5 (by omega) f5 n5 hI (by rw[hb];exact Nat.zero_le _) (by rw[hw,nm0];exact Nat.zero_le _) f2 (Nat.zero_le _) (by rw[e2];exact .nil q)
theorem rcv_left {q:Ps} {cs:List Cm} {wt:List UInt8} (hc:Com r dl ch i p) (h5:p.wr=⟨#[]⟩∧p.bs 5=[]) (f2:feedL (bl p.wl++p.bs 2)=(cs,wt,0)) (n2:cs.length≤1000) (hI:HlI (ch:Int) { p with bs:=upd p.bs 2 [],wl:=⟨wt.toArray⟩ } cs q):RcvR (ch:Int) p q:=by
 have h1:=strL_len p
 have h2:=hc.sl
 have h4:(bl p.wl).length=p.wl.size:=(bl_size p.wl).symm
 have f5:feedL (bl p.wr++p.bs 5)=([],[],0):=by rw[h5.1,h5.2];rfl
 have e5:({ p with bs:=upd p.bs 5 [],wr:=⟨([]:List UInt8).toArray⟩ }:Ps)=p:=by
  rw[upd_nil h5.2,show (⟨([]:List UInt8).toArray⟩:ByteArray)=p.wr from h5.1.symm]
 have hl2:(p.bs 2).length≤2000:=by omega
 exact RcvR.mk (by rw[h5.2];exact Nat.zero_le _) (by rw[h5.1,nm0];exact Nat.zero_le _) f5 (Nat.zero_le _) (by rw[e5];exact .nil p) hl2 (by omega) f2 n2 hI
theorem has_no (ho:PaOk arts r dl ch) {h g:Nat} {a:Sn.Art} (e:arts[h]? = some a) (hg:g≤h):hasG a.1 (arts.take g)=false:=by
 obtain⟨h1,h2⟩:=List.getElem?_eq_some_iff.1 e
 unfold hasG
 rw[List.any_eq_false]
 intro q hq hd
 obtain⟨j,hj,e2⟩:=List.mem_iff_getElem.1 hq
 have hj2:=hj
 rw[List.length_take] at hj2
 rw[List.getElem_take] at e2
 have:=ho.dis j h (by omega) h1 (by rw[e2,h2];exact of_decide_eq_true hd)
 omega
theorem has_yes {h g:Nat} {a:Sn.Art} (e:arts[h]? = some a) (hg:h<g):hasG a.1 (arts.take g)=true:=by
 obtain⟨h1,h2⟩:=List.getElem?_eq_some_iff.1 e
 unfold hasG
 rw[List.any_eq_true]
 exact⟨a,List.mem_of_getElem? (i:=h) (by rw[List.getElem?_take,if_pos hg];exact e),decide_eq_true rfl⟩
theorem take_got {h:Nat} {a:Sn.Art} (e:arts[h]? = some a):arts.take h++[a]=arts.take (h+1):=by
 obtain⟨h1,h2⟩:=List.getElem?_eq_some_iff.1 e
 rw[List.take_succ_eq_append_getElem h1,h2]
theorem outs_next {h:Nat} {o:List Sn.Out} {a:Sn.Art} {v c:Int} (ho:OutsOk arts h o) (e:arts[h]? = some a) (hv:v=0∨v=1):OutsOk arts (h+1) (o++[(a.1,v,c)]):=by
 refine⟨by rw[List.length_append,ho.1];rfl,fun j hj=>?_⟩
 rw[List.length_append,List.length_singleton] at hj
 by_cases hl:j<o.length
 ·rw[List.getElem_append_left hl]
  exact ho.2 j hl
 ·obtain rfl:j=o.length:=by omega
  rw[List.getElem_append_right (Nat.le_refl _)]
  simp only[Nat.sub_self,List.getElem_cons_zero]
  exact⟨a,by rw[ho.1];exact e,rfl,hv⟩
theorem kept_next (arts:List Sn.Art) {h:Nat} (hl:h≤arts.length):(h=arts.length∧h=h∧([]:List Pt)=[])∨∃ a b,arts[h]? = some a∧KeptG a h h [] b:=by
 by_cases h1:h=arts.length
 ·exact Or.inl ⟨h1,rfl,rfl⟩
 ·exact Or.inr ⟨arts[h],⟨#[]⟩,List.getElem?_eq_getElem (by omega),Or.inl ⟨rfl,Or.inl ⟨rfl,rfl⟩,by rw[nm0,ext_0],Nat.zero_le _⟩⟩
def Sess (arts:List Sn.Art) (r dl ch i:Nat) (p:Ps):Prop:=∃ p2 p3,RcvR (ch:Int) p p2∧SayR (ch:Int) p2 p3∧p2.c.up=true∧Com r dl ch i p3∧Ph arts r dl ch 1 i p3
theorem one_cases {c:Cm} {got pend:List Cm} (e:[c]=got++pend):(got=[]∧pend=[c])∨(got=[c]∧pend=[]):=by
 cases got with
 | nil=>exact Or.inl ⟨rfl,e.symm⟩
 | cons x r =>
  obtain⟨h1,h2⟩:=List.cons.inj e
  obtain⟨h3,h4⟩:=List.append_eq_nil_iff.1 h2.symm
  subst h1 h3 h4
  exact Or.inr ⟨rfl,rfl⟩
theorem sess_offered (ho:PaOk arts r dl ch) (hc:Com r dl ch i p) {h g T:Nat} {o:List Sn.Out} {a:Sn.Art} {K:List Pt} {b:ByteArray} (ha:arts[h]? = some a) (hk:KeptG a h g K b) (eR:strR p=encT (offC a.1 a.2.size)) (eL:strL p=[]) (et:p.tkr=⟨2,true,[],K⟩) (es:p.snd=⟨arts.drop (h+1),1,a,o,none⟩)
  (hn:p.num=p.c.sess) (hg:p.got=arts.take g) (hou:OutsOk arts h o) (hl:i≤T∧T+(30+34 * (arts.length - h - 1))≤200) (fr:Flow r dl i (p.bs 0) (p.wy 1) T) (fl:Flow r dl i (p.bs 3) (p.wy 4) T):Sess arts r dl ch i p:=by
 have hA:=ho.ok a (art_mem ha)
 have hm:=hA.most
 have h1s:=hA.one
 have hd:=ho.d2
 have hgl:p.got.length≤10:=by rw[hg,List.length_take];have:=ho.n3;omega
 obtain⟨l1,l2,l3,l4⟩:=hc.lNil eL
 obtain⟨got,pend,wt,f1,f2,f3,f4⟩:=feed_R fr (W:=[offC a.1 a.2.size]) (fun c hm=>by rw[List.mem_singleton.1 hm];exact chk_off _ _ hA.id (by omega) (by omega)) (by rw[cat1];exact eR)
 rcases one_cases f2 with⟨rfl,rfl⟩|⟨rfl,rfl⟩
 ·-- not all of it
  obtain⟨q,hq⟩:∃ q,({ p with bs:=upd p.bs 5 [],wr:=⟨wt.toArray⟩ }:Ps)=q:=⟨_,rfl⟩
  have qR:strR q=encT (offC a.1 a.2.size):=by
   rw[← hq,← cat1,← f3]
   unfold strR
   dsimp only
   rw[upd_same,upd_ne _ _ (by decide),bl_mk,List.append_nil,List.append_assoc]
  have qL:strL q=[]:=by
   rw[← hq,← eL]
   unfold strL
   dsimp only
   rw[upd_ne _ _ (by decide),upd_ne _ _ (by decide)]
  have hrc:RcvR (ch:Int) p q:=rcv_right hc f1 (Nat.zero_le _) (by rw[hq];exact .nil q) (by rw[← hq];exact l1) (by rw[← hq];dsimp only;rw[upd_ne _ _ (show (2:Nat)≠5 by decide)];exact l2)
  have hcq:Com r dl ch i q:=hc.to (by rw[← hq]) (by rw[← hq]) (fun k _ _ _ k5=>by rw[← hq];exact upd_ne _ _ k5) (by rw[← hq];exact hc.good) (by rw[qR];have:=off_len hA;omega) (by rw[qL];exact Nat.zero_le _)
  have hiT:¬ T≤i:=fun hT=>by have:=f4 hT;cases this
  refine⟨q,q,hrc,(SayI.nil q).to (by decide) hcq.good (say_nil (by rw[← hq];show p.snd.state=1∨_;rw[es];exact Or.inl rfl)),hcq.up,hcq,h,g,T,30+34 * (arts.length - h - 1),o,by rw[← hq];exact hn,by rw[← hq];exact hg,hou,?_,fun _=>⟨by omega,hl.2⟩,by rw[← hq];dsimp only;rw[upd_ne _ _ (by decide)];exact fr,by rw[← hq];dsimp only;rw[upd_ne _ _ (by decide)];exact fl⟩
  rw[qR,qL,← hq]
  dsimp only
  rw[et,es]
  exact .offered ha hk
 ·-- the offer is here
  obtain⟨e1,e2⟩:=List.append_eq_nil_iff.1 (show wt++(flatW (p.wy 1)++p.bs 0)=[] from f3)
  obtain⟨e3,e4⟩:=List.append_eq_nil_iff.1 e2
  have w1:=flat_nil e3 (hc.ne 1)
  obtain⟨p1,hp1⟩:∃ q,({ p with bs:=upd p.bs 5 [],wr:=⟨wt.toArray⟩ }:Ps)=q:=⟨_,rfl⟩
  have b3:p1.bs 3=[]:=by rw[← hp1];dsimp only;rw[upd_ne _ _ (show (3:Nat)≠5 by decide)];exact l4
  have fin:∀ (c:Cm) (tk:Tk),(encT c).length≤178→HrR p1 (offC a.1 a.2.size) { p1 with tkr:=tk,bs:=upd p1.bs 3 (p1.bs 3++encT c) }→Body arts ch h g o [] (encT c) tk ⟨arts.drop (h+1),1,a,o,none⟩ (26+34 * (arts.length - h - 1))→Sess arts r dl ch i p:=by
   intro c tk hcl hH hB
   obtain⟨q,hq⟩:∃ q,({ p1 with tkr:=tk,bs:=upd p1.bs 3 (p1.bs 3++encT c) }:Ps)=q:=⟨_,rfl⟩
   rw[hq] at hH
   have q3:q.bs 3=encT c:=by rw[← hq];dsimp only;rw[upd_same,b3];rfl
   have qR:strR q=[]:=by
    rw[← hq,← hp1]
    unfold strR
    dsimp only
    rw[upd_ne _ _ (by decide),upd_same,upd_ne _ _ (by decide),upd_ne _ _ (by decide),bl_mk,e1,w1,e4]
    rfl
   have qL:strL q=encT c:=by
    unfold strL
    rw[q3,← hq,← hp1]
    dsimp only
    rw[upd_ne _ _ (by decide),upd_ne _ _ (by decide),l1,l2,l3]
    rfl
   have hrc:RcvR (ch:Int) p q:=rcv_right hc f1 (by simp) (by rw[hp1];exact .cons hH (.nil q)) (by rw[← hq,← hp1];exact l1) (by rw[← hq,← hp1];dsimp only;rw[upd_ne _ _ (show (2:Nat)≠3 by decide),upd_ne _ _ (show (2:Nat)≠5 by decide)];exact l2)
   have hcq:Com r dl ch i q:=hc.to (by rw[← hq,← hp1]) (by rw[← hq,← hp1]) (fun k _ _ k3 k5=>by rw[← hq,← hp1];exact (upd_ne _ _ k3).trans (upd_ne _ _ k5)) (by rw[← hq,← hp1];exact hc.good) (by rw[qR];exact Nat.zero_le _) (by rw[qL];omega)
   refine⟨q,q,hrc,(SayI.nil q).to (by decide) hcq.good (say_nil (by rw[← hq,← hp1];show p.snd.state=1∨_;rw[es];exact Or.inl rfl)),hcq.up,hcq,h,g,i+dl+2,26+34 * (arts.length - h - 1),o,by rw[← hq,← hp1];exact hn,by rw[← hq,← hp1];exact hg,hou,?_,fun _=>⟨by omega,by omega⟩,?_,?_⟩
   ·rw[qR,qL,← hq,← hp1]
    dsimp only
    rw[es]
    exact hB
   ·rw[← hq,← hp1]
    dsimp only
    rw[upd_ne _ _ (by decide),upd_ne _ _ (by decide),w1,e4]
    exact Flow.nil _ _ _ _
   ·rw[q3,← hq,← hp1]
    dsimp only
    rw[l3]
    exact flow_short ho.r1 hcl
  rcases hk with⟨rfl,k1,k2,k3⟩|⟨rfl,rfl⟩
  ·have hH:=hear_want (p:=p1) (z:=a.2.size) (K:=K) (b:=b) hA.id h1s hm (by rw[← hp1];exact et) k1 k3 (by rw[← hp1];show hasG a.1 p.got=false;rw[hg];exact has_no ho ha (Nat.le_refl _)) (by rw[← hp1];exact hgl) (by rw[← hp1];exact hc.up) (by rw[b3];exact Nat.zero_le _)
   refine fin _ _ (want_len (by omega)) hH ?_
   rw[k2]
   have hs:=ext_size a.2 (a:=0) k3
   rw[hs,Nat.sub_zero]
   exact .wanting ha rfl k3
  ·have hH:=hear_have (p:=p1) (z:=a.2.size) hA.id h1s hm (by rw[← hp1];exact et) (by rw[← hp1];show hasG a.1 p.got=true;rw[hg];exact has_yes ha (Nat.lt_succ_self _)) (by rw[← hp1];exact hgl) (by rw[← hp1];exact hc.up) (by rw[b3];exact Nat.zero_le _)
   exact fin _ _ (have_len _) hH (.having ha rfl)
end
open Go.RowKit
section
variable {arts : List Sn.Art} {r dl ch i : Nat} {p : Ps}
theorem sess_left1 (hc:Com r dl ch i p) {h g T rem:Nat} {o:List Sn.Out} {c:Cm} (hck:chk c=0) (hcl:(encT c).length≤178) (hB:Body arts ch h g o [] (encT c) p.tkr p.snd rem) (eR:strR p=[]) (eL:strL p=encT c) (hst:p.snd.state=1∨p.snd.state=3)
  (hn:p.num=p.c.sess) (hg:p.got=arts.take g) (hou:OutsOk arts h o) (hl:i≤T∧T+rem≤200) (fr:Flow r dl i (p.bs 0) (p.wy 1) T) (fl:Flow r dl i (p.bs 3) (p.wy 4) T)
  (fin:∀ q:Ps,q={ p with bs:=upd p.bs 2 [],wl:=⟨([]:List UInt8).toArray⟩ }→strR q=[]→strL q=[]→Com r dl ch i q→(∀ q',HlR (ch:Int) q c q'→RcvR (ch:Int) p q')→Sess arts r dl ch i p):Sess arts r dl ch i p:=by
 obtain⟨r1,r2,r3,r4⟩:=hc.rNil eR
 obtain⟨got,pend,wt,f1,f2,f3,f4⟩:=feed_L fl (W:=[c]) (fun x hm=>by rw[List.mem_singleton.1 hm];exact hck) (by rw[cat1];exact eL)
 obtain⟨q,hq⟩:∃ q,({ p with bs:=upd p.bs 2 [],wl:=⟨wt.toArray⟩ }:Ps)=q:=⟨_,rfl⟩
 have qR:strR q=[]:=by
  rw[← hq,← eR]
  unfold strR
  dsimp only
  rw[upd_ne _ _ (by decide),upd_ne _ _ (by decide)]
 have qL:strL q=catC pend:=by
  rw[← hq,← f3]
  unfold strL
  dsimp only
  rw[upd_same,upd_ne _ _ (by decide),bl_mk,List.append_nil,List.append_assoc]
 have hql:(strL q).length≤178:=by
  rw[qL]
  rcases one_cases f2 with⟨rfl,rfl⟩|⟨rfl,rfl⟩
  ·rw[cat1];exact hcl
  ·exact Nat.zero_le _
 have hcq:Com r dl ch i q:=hc.to (by rw[← hq]) (by rw[← hq]) (fun k _ k2 _ _=>by rw[← hq];exact upd_ne _ _ k2) (by rw[← hq];exact hc.good) (by rw[qR];exact Nat.zero_le _) (by omega)
 rcases one_cases f2 with⟨rfl,rfl⟩|⟨rfl,rfl⟩
 ·have hrc:RcvR (ch:Int) p q:=rcv_left hc ⟨r1,r2⟩ f1 (Nat.zero_le _) (by rw[hq];exact .nil q)
  have hiT:¬ T≤i:=fun hT=>by have:=f4 hT;cases this
  refine⟨q,q,hrc,(SayI.nil q).to (by decide) hcq.good (say_nil (by rw[← hq];show p.snd.state=1∨p.snd.state=3∨_;exact hst.elim Or.inl (fun h=>Or.inr (Or.inl h)))),hcq.up,hcq,h,g,T,rem,o,by rw[← hq];exact hn,by rw[← hq];exact hg,hou,?_,fun _=>⟨by omega,hl.2⟩,by rw[← hq];dsimp only;rw[upd_ne _ _ (by decide)];exact fr,by rw[← hq];dsimp only;rw[upd_ne _ _ (by decide)];exact fl⟩
  rw[qR,qL,cat1,← hq]
  exact hB
 ·obtain⟨e1,e2⟩:=List.append_eq_nil_iff.1 (show wt++(flatW (p.wy 4)++p.bs 3)=[] from f3)
  subst e1
  exact fin q hq.symm qR qL hcq (fun q' hH=>rcv_left hc ⟨r1,r2⟩ f1 (by simp) (by rw[hq];exact .cons hH (.nil q')))
theorem sess_wanting (ho:PaOk arts r dl ch) (hc:Com r dl ch i p) {h g T b:Nat} {o:List Sn.Out} {a:Sn.Art} (ha:arts[h]? = some a) (hgh:g=h) (hb:b≤a.2.size) (eR:strR p=[]) (eL:strL p=encT (wantC a.1 b)) (et:p.tkr=⟨2,true,[⟨a.1,a.2.size,2,a.2.extract 0 b⟩],[]⟩) (es:p.snd=⟨arts.drop (h+1),1,a,o,none⟩)
  (hn:p.num=p.c.sess) (hg:p.got=arts.take g) (hou:OutsOk arts h o) (hl:i≤T∧T+(26+34 * (arts.length - h - 1))≤200) (fr:Flow r dl i (p.bs 0) (p.wy 1) T) (fl:Flow r dl i (p.bs 3) (p.wy 4) T):Sess arts r dl ch i p:=by
 have hA:=ho.ok a (art_mem ha)
 have hm:=hA.most
 have hd:=ho.d2
 have hlt:h<arts.length:=(List.getElem?_eq_some_iff.1 ha).1
 have hn3:=ho.n3
 refine sess_left1 hc (chk_want _ _ hA.id (by omega) (by omega)) (want_len (by omega)) (by rw[et,es];exact .wanting ha hgh hb) eR eL (Or.inl (by rw[es])) hn hg hou hl fr fl (fun q1 hq1 q1R q1L hc1 hrc=>?_)
 obtain⟨r1,r2,r3,r4⟩:=hc1.rNil q1R
 obtain⟨l1,l2,l3,l4⟩:=hc1.lNil q1L
 have s1:q1.snd=⟨arts.drop (h+1),1,a,o,none⟩:=by rw[hq1];exact es
 obtain⟨hH,hG⟩:=left_want hA hc1.good s1 (by rw[hou.1];omega) hb
 obtain⟨q2,hq2⟩:∃ q,({ q1 with snd:=⟨arts.drop (h+1),2,a,o,some ((b:Int),false)⟩ }:Ps)=q:=⟨_,rfl⟩
 rw[hq2] at hH
 have hr2:=hrc q2 hH
 obtain⟨P,hP⟩:=Rest.ex a.1 a.2 ch (by have:=ho.c1;omega) a.2.size b hb (by omega)
 have hPl:=hP.len ho.c1
 have hPb:=hP.bytes hm
 have hq2b:q2.bs 0=[]:=by rw[← hq2];exact r4
 obtain⟨hS,hG3⟩:=say_rest (p:=q2) (r:=arts.drop (h+1)) (o:=o) hA (by have:=ho.c1;omega) hP (by rw[← hq2];exact hG) (by rw[← hq2]) (by rw[← hq2];exact hc1.up) (by rw[hq2b,List.length_nil];omega)
 obtain⟨q,hq⟩:∃ q,({ q2 with snd:=⟨arts.drop (h+1),3,a,o,some ((a.2.size:Int),true)⟩,bs:=upd q2.bs 0 (q2.bs 0++catC P) }:Ps)=q:=⟨_,rfl⟩
 rw[hq] at hS
 have q0:q.bs 0=catC P:=by rw[← hq];dsimp only;rw[upd_same,hq2b];rfl
 have qR:strR q=catC P:=by
  unfold strR
  rw[q0,← hq,← hq2]
  dsimp only
  rw[upd_ne _ _ (by decide),r1,r2,r3]
  rfl
 have qL:strL q=[]:=by
  rw[← hq,← hq2]
  unfold strL
  dsimp only
  rw[upd_ne _ _ (by decide),upd_ne _ _ (by decide),l1,l2,l3,l4]
  rfl
 have hcq:Com r dl ch i q:=hc1.to (by rw[← hq,← hq2]) (by rw[← hq,← hq2]) (fun k k0 _ _ _=>by rw[← hq,← hq2];exact upd_ne _ _ k0) (by rw[← hq];exact hG3) (by rw[qR];omega) (by rw[qL];exact Nat.zero_le _)
 have hq1e:q1.num=p.num∧q1.c=p.c∧q1.got=p.got∧q1.tkr=p.tkr:=by rw[hq1];exact⟨rfl,rfl,rfl,rfl⟩
 obtain⟨g1,g2,g3,g4⟩:=hq1e
 refine⟨q2,q,hr2,hS.to (by omega) (by rw[← hq];exact hG3) (say_nil (by rw[← hq];exact Or.inr (Or.inl rfl))),by rw[← hq2];exact hc1.up,hcq,h,g,i+dl+20,4+34 * (arts.length - h - 1),o,by rw[← hq,← hq2];dsimp only;rw[g1,g2];exact hn,by rw[← hq,← hq2];dsimp only;rw[g3];exact hg,hou,?_,fun _=>⟨by omega,by omega⟩,?_,?_⟩
 ·rw[qR,qL,← hq,← hq2]
  dsimp only
  rw[g4,et]
  exact .sending ha hgh hb hP
 ·rw[q0,← hq,← hq2]
  dsimp only
  rw[r3]
  exact flow_long ho.r1 (by omega)
 ·rw[← hq,← hq2]
  dsimp only
  rw[upd_ne _ _ (by decide),l4,l3]
  exact Flow.nil _ _ _ _
theorem sess_next (ho:PaOk arts r dl ch) {h:Nat} {o:List Sn.Out} {a:Sn.Art} {c:Cm} {v:Int} (hv:v=0∨v=1) (ha:arts[h]? = some a) (et:p.tkr=⟨2,true,[],[]⟩) (hn:p.num=p.c.sess) (hg:p.got=arts.take (h+1)) (hou:OutsOk arts h o) (hl:i+34 * (arts.length - h - 1)≤200)
  {q1:Ps} (hq1:q1={ p with bs:=upd p.bs 2 [],wl:=⟨([]:List UInt8).toArray⟩ }) (q1R:strR q1=[]) (q1L:strL q1=[]) (hc1:Com r dl ch i q1) (hrc:∀ q',HlR (ch:Int) q1 c q'→RcvR (ch:Int) p q')
  (hH:HlR (ch:Int) q1 c { q1 with snd:=⟨arts.drop (h+1),0,Sn.zA,o++[(a.1,v,0)],none⟩ }) (hG:Sn.Good (ch:Int) ⟨arts.drop (h+1),0,Sn.zA,o++[(a.1,v,0)],none⟩):Sess arts r dl ch i p:=by
 have hlt:h<arts.length:=(List.getElem?_eq_some_iff.1 ha).1
 obtain⟨q2,hq2⟩:∃ q,({ q1 with snd:=⟨arts.drop (h+1),0,Sn.zA,o++[(a.1,v,0)],none⟩ }:Ps)=q:=⟨_,rfl⟩
 rw[hq2] at hH
 have hr2:=hrc q2 hH
 have q2R:strR q2=[]:=by rw[← hq2];exact q1R
 have q2L:strL q2=[]:=by rw[← hq2];exact q1L
 have hc2:Com r dl ch i q2:=hc1.to (by rw[← hq2]) (by rw[← hq2]) (fun k _ _ _ _=>by rw[← hq2]) (by rw[← hq2];exact hG) (by rw[q2R];exact Nat.zero_le _) (by rw[q2L];exact Nat.zero_le _)
 have hq1e:q1.num=p.num∧q1.c=p.c∧q1.got=p.got∧q1.tkr=p.tkr:=by rw[hq1];exact⟨rfl,rfl,rfl,rfl⟩
 obtain⟨g1,g2,g3,g4⟩:=hq1e
 obtain⟨p3,t1,t2,t3⟩:=offer_next (h:=h+1) (g:=h+1) (o:=o++[(a.1,v,0)]) (K:=[]) ho hc2 (by rw[← hq2];dsimp only;rw[g1,g2];exact hn) (by rw[← hq2];dsimp only;rw[g3];exact hg) (outs_next hou ha hv) (by rw[← hq2];dsimp only;rw[g4];exact et) (kept_next arts hlt) (by rw[← hq2]) q2R q2L (fun hl2=>by omega)
 exact⟨q2,p3,hr2,t1,hc2.up,t2,t3⟩
theorem sess_having (ho:PaOk arts r dl ch) (hc:Com r dl ch i p) {h g T:Nat} {o:List Sn.Out} {a:Sn.Art} (ha:arts[h]? = some a) (hgh:g=h+1) (eR:strR p=[]) (eL:strL p=encT (haveC a.1)) (et:p.tkr=⟨2,true,[],[]⟩) (es:p.snd=⟨arts.drop (h+1),1,a,o,none⟩)
  (hn:p.num=p.c.sess) (hg:p.got=arts.take g) (hou:OutsOk arts h o) (hl:i≤T∧T+(26+34 * (arts.length - h - 1))≤200) (fr:Flow r dl i (p.bs 0) (p.wy 1) T) (fl:Flow r dl i (p.bs 3) (p.wy 4) T):Sess arts r dl ch i p:=by
 have hA:=ho.ok a (art_mem ha)
 have hlt:h<arts.length:=(List.getElem?_eq_some_iff.1 ha).1
 have hn3:=ho.n3
 refine sess_left1 hc (chk_have _ hA.id) (have_len _) (by rw[et,es];exact .having ha hgh) eR eL (Or.inl (by rw[es])) hn hg hou hl fr fl (fun q1 hq1 q1R q1L hc1 hrc=>?_)
 obtain⟨hH,hG⟩:=left_have hA hc1.good (show q1.snd=⟨arts.drop (h+1),1,a,o,none⟩ by rw[hq1];exact es) (by rw[hou.1];omega)
 exact sess_next ho (Or.inr rfl) ha et hn (by rw[hg,hgh]) hou (by omega) hq1 q1R q1L hc1 hrc hH hG
theorem sess_gotten (ho:PaOk arts r dl ch) (hc:Com r dl ch i p) {h g T:Nat} {o:List Sn.Out} {a:Sn.Art} (ha:arts[h]? = some a) (hgh:g=h+1) (eR:strR p=[]) (eL:strL p=encT (gotC a.1)) (et:p.tkr=⟨2,true,[],[]⟩) (es:p.snd=⟨arts.drop (h+1),3,a,o,some ((a.2.size:Int),true)⟩)
  (hn:p.num=p.c.sess) (hg:p.got=arts.take g) (hou:OutsOk arts h o) (hl:i≤T∧T+(34 * (arts.length - h - 1))≤200) (fr:Flow r dl i (p.bs 0) (p.wy 1) T) (fl:Flow r dl i (p.bs 3) (p.wy 4) T):Sess arts r dl ch i p:=by
 have hA:=ho.ok a (art_mem ha)
 have hlt:h<arts.length:=(List.getElem?_eq_some_iff.1 ha).1
 have hn3:=ho.n3
 refine sess_left1 hc (chk_got _ hA.id) (got_len _) (by rw[et,es];exact .gotten ha hgh) eR eL (Or.inr (by rw[es])) hn hg hou hl fr fl (fun q1 hq1 q1R q1L hc1 hrc=>?_)
 obtain⟨hH,hG⟩:=left_got hA hc1.good (show q1.snd=⟨arts.drop (h+1),3,a,o,some ((a.2.size:Int),true)⟩ by rw[hq1];exact es) (by rw[hou.1];omega)
 exact sess_next ho (Or.inl rfl) ha et hn (by rw[hg,hgh]) hou (by omega) hq1 q1R q1L hc1 hrc hH hG
theorem sess_sending (ho:PaOk arts r dl ch) (hc:Com r dl ch i p) {h g T b:Nat} {o:List Sn.Out} {a:Sn.Art} {P:List Cm} (ha:arts[h]? = some a) (hgh:g=h) (hb:b≤a.2.size) (hP:Rest a.1 a.2 ch b P) (eR:strR p=catC P) (eL:strL p=[]) (et:p.tkr=⟨2,true,[⟨a.1,a.2.size,2,a.2.extract 0 b⟩],[]⟩) (es:p.snd=⟨arts.drop (h+1),3,a,o,some ((a.2.size:Int),true)⟩)
  (hn:p.num=p.c.sess) (hg:p.got=arts.take g) (hou:OutsOk arts h o) (hl:i≤T∧T+(4+34 * (arts.length - h - 1))≤200) (fr:Flow r dl i (p.bs 0) (p.wy 1) T) (fl:Flow r dl i (p.bs 3) (p.wy 4) T):Sess arts r dl ch i p:=by
 have hA:=ho.ok a (art_mem ha)
 have hm:=hA.most
 have hd:=ho.d2
 have hc1:1≤ch:=by have:=ho.c1;omega
 have hlt:h<arts.length:=(List.getElem?_eq_some_iff.1 ha).1
 have hn3:=ho.n3
 have hgl:p.got.length≤10:=by rw[hg,List.length_take];omega
 obtain⟨l1,l2,l3,l4⟩:=hc.lNil eL
 have hPl:=hP.len ho.c1
 obtain⟨got,pend,wt,f1,f2,f3,f4⟩:=feed_R fr (W:=P) (hP.ok hA hc1) eR
 have hgn:got.length≤P.length:=by rw[f2,List.length_append];omega
 obtain⟨p1,hp1⟩:∃ q,({ p with bs:=upd p.bs 5 [],wr:=⟨wt.toArray⟩ }:Ps)=q:=⟨_,rfl⟩
 have b3:p1.bs 3=[]:=by rw[← hp1];dsimp only;rw[upd_ne _ _ (show (3:Nat)≠5 by decide)];exact l4
 obtain⟨hx,hy⟩:=hear_rest hA hP hc1 (p:=p1) f2 (by rw[← hp1];exact et) (by rw[← hp1];exact hgl) (by rw[← hp1];exact hc.up) (by rw[b3];exact Nat.zero_le _)
 have hPb:=hP.bytes hm
 have hsr:(catC pend).length≤2000:=by
  have h1:=hc.sr
  rw[eR,f2,catC_append,List.length_append] at h1
  omega
 by_cases hpe:pend=[]
 ·have hH:=hy hpe
  subst hpe
  obtain⟨e1,e2⟩:=List.append_eq_nil_iff.1 (show wt++(flatW (p.wy 1)++p.bs 0)=[] from f3)
  obtain⟨e3,e4⟩:=List.append_eq_nil_iff.1 e2
  have w1:=flat_nil e3 (hc.ne 1)
  have hcl:=got_len a.1
  obtain⟨q,hq⟩:∃ q,({ p1 with tkr:=⟨2,true,[],[]⟩,got:=p1.got++[a],bs:=upd p1.bs 3 (p1.bs 3++encT (gotC a.1)) }:Ps)=q:=⟨_,rfl⟩
  rw[hq] at hH
  have q3:q.bs 3=encT (gotC a.1):=by rw[← hq];dsimp only;rw[upd_same,b3];rfl
  have qR:strR q=[]:=by
   rw[← hq,← hp1]
   unfold strR
   dsimp only
   rw[upd_ne _ _ (by decide),upd_same,upd_ne _ _ (by decide),upd_ne _ _ (by decide),bl_mk,e1,w1,e4]
   rfl
  have qL:strL q=encT (gotC a.1):=by
   unfold strL
   rw[q3,← hq,← hp1]
   dsimp only
   rw[upd_ne _ _ (by decide),upd_ne _ _ (by decide),l1,l2,l3]
   rfl
  have hrc:RcvR (ch:Int) p q:=rcv_right hc f1 (by omega) (by rw[hp1];exact hH) (by rw[← hq,← hp1];exact l1) (by rw[← hq,← hp1];dsimp only;rw[upd_ne _ _ (show (2:Nat)≠3 by decide),upd_ne _ _ (show (2:Nat)≠5 by decide)];exact l2)
  have hcq:Com r dl ch i q:=hc.to (by rw[← hq,← hp1]) (by rw[← hq,← hp1]) (fun k _ _ k3 k5=>by rw[← hq,← hp1];exact (upd_ne _ _ k3).trans (upd_ne _ _ k5)) (by rw[← hq,← hp1];exact hc.good) (by rw[qR];exact Nat.zero_le _) (by rw[qL];omega)
  refine⟨q,q,hrc,(SayI.nil q).to (by decide) hcq.good (say_nil (by rw[← hq,← hp1];show p.snd.state=1∨p.snd.state=3∨_;rw[es];exact Or.inr (Or.inl rfl))),hcq.up,hcq,h,h+1,i+dl+2,34 * (arts.length - h - 1),o,by rw[← hq,← hp1];exact hn,?_,hou,?_,fun _=>⟨by omega,by omega⟩,?_,?_⟩
  ·rw[← hq,← hp1]
   dsimp only
   rw[hg,hgh]
   exact take_got ha
  ·rw[qR,qL,← hq,← hp1]
   dsimp only
   rw[es]
   exact .gotten ha rfl
  ·rw[← hq,← hp1]
   dsimp only
   rw[upd_ne _ _ (by decide),upd_ne _ _ (by decide),w1,e4]
   exact Flow.nil _ _ _ _
  ·rw[q3,← hq,← hp1]
   dsimp only
   rw[l3]
   exact flow_short ho.r1 hcl
 ·obtain⟨n,hn1,hR,hH⟩:=hx hpe
  obtain⟨q,hq⟩:∃ q,({ p1 with tkr:=⟨2,true,[⟨a.1,a.2.size,2,a.2.extract 0 n⟩],[]⟩ }:Ps)=q:=⟨_,rfl⟩
  rw[hq] at hH
  have qR:strR q=catC pend:=by
   rw[← hq,← hp1,← f3]
   unfold strR
   dsimp only
   rw[upd_same,upd_ne _ _ (by decide),bl_mk,List.append_nil,List.append_assoc]
  have qL:strL q=[]:=by
   rw[← hq,← hp1,← eL]
   unfold strL
   dsimp only
   rw[upd_ne _ _ (by decide),upd_ne _ _ (by decide)]
  have hrc:RcvR (ch:Int) p q:=rcv_right hc f1 (by omega) (by rw[hp1];exact hH) (by rw[← hq,← hp1];exact l1) (by rw[← hq,← hp1];dsimp only;rw[upd_ne _ _ (show (2:Nat)≠5 by decide)];exact l2)
  have hcq:Com r dl ch i q:=hc.to (by rw[← hq,← hp1]) (by rw[← hq,← hp1]) (fun k _ _ _ k5=>by rw[← hq,← hp1];exact upd_ne _ _ k5) (by rw[← hq,← hp1];exact hc.good) (by rw[qR];exact hsr) (by rw[qL];exact Nat.zero_le _)
  have hiT:¬ T≤i:=fun hT=>hpe (f4 hT)
  refine⟨q,q,hrc,(SayI.nil q).to (by decide) hcq.good (say_nil (by rw[← hq,← hp1];show p.snd.state=1∨p.snd.state=3∨_;rw[es];exact Or.inr (Or.inl rfl))),hcq.up,hcq,h,g,T,4+34 * (arts.length - h - 1),o,by rw[← hq,← hp1];exact hn,by rw[← hq,← hp1];exact hg,hou,?_,fun _=>⟨by omega,hl.2⟩,by rw[← hq,← hp1];dsimp only;rw[upd_ne _ _ (by decide)];exact fr,by rw[← hq,← hp1];dsimp only;rw[upd_ne _ _ (by decide)];exact fl⟩
  rw[qR,qL,← hq,← hp1]
  dsimp only
  rw[es]
  exact .sending ha hgh hn1 hR
end
open Go.RowKit
section
variable {arts : List Sn.Art} {r dl ch i : Nat} {p : Ps}
theorem sess_idle (hc:Com r dl ch i p) {h g:Nat} {o:List Sn.Out} (hh:h=arts.length) (hgh:g=h) (eR:strR p=[]) (eL:strL p=[]) (et:p.tkr=⟨2,true,[],[]⟩) (es:p.snd=⟨[],0,Sn.zA,o,none⟩)
  (hn:p.num=p.c.sess) (hg:p.got=arts.take g) (hou:OutsOk arts h o):Sess arts r dl ch i p:=by
 obtain⟨r1,r2,r3,r4⟩:=hc.rNil eR
 obtain⟨l1,l2,l3,l4⟩:=hc.lNil eL
 refine⟨p,p,rcv_idle ⟨r1,r2⟩ ⟨l1,l2⟩,(SayI.nil p).to (by decide) hc.good (say_nil (by rw[es];exact Or.inr (Or.inr ⟨rfl,rfl⟩))),hc.up,hc,h,g,i+1,0,o,hn,hg,hou,?_,fun hl=>by omega,by rw[r4,r3];exact Flow.nil _ _ _ _,by rw[l4,l3];exact Flow.nil _ _ _ _⟩
 rw[eR,eL,et,es]
 exact .idle hh hgh rfl
theorem Ph.sess (ho:PaOk arts r dl ch) (hc:Com r dl ch i p) (hp:Ph arts r dl ch 0 i p):Sess arts r dl ch i p:=by
 obtain⟨h,g,T,rem,o,hh⟩:=hp
 have hn:=hh.num
 have hg:=hh.got
 have hou:=hh.outs
 have hl:=hh.lim
 have fr:=hh.fr
 have fl:=hh.fl
 have hB:=hh.body
 obtain⟨sr,eR⟩:∃ sr,strR p=sr:=⟨_,rfl⟩
 obtain⟨sl,eL⟩:∃ sl,strL p=sl:=⟨_,rfl⟩
 obtain⟨tk,et⟩:∃ tk,p.tkr=tk:=⟨_,rfl⟩
 obtain⟨sn,es⟩:∃ sn,p.snd=sn:=⟨_,rfl⟩
 rw[eR,eL,et,es] at hB
 clear hh
 have hlt:∀ {a:Sn.Art},arts[h]? = some a→h<arts.length:=fun e=>(List.getElem?_eq_some_iff.1 e).1
 cases hB with
 | @idle K h1 h2 h3=>subst h3;exact sess_idle hc h1 h2 eR eL et es hn hg hou
 | @offered a K b h1 h2=>exact sess_offered ho hc h1 h2 eR eL et es hn hg hou (hl (hlt h1)) fr fl
 | @wanting a b h1 h2 h3=>exact sess_wanting ho hc h1 h2 h3 eR eL et es hn hg hou (hl (hlt h1)) fr fl
 | @having a h1 h2=>exact sess_having ho hc h1 h2 eR eL et es hn hg hou (hl (hlt h1)) fr fl
 | @sending a b P h1 h2 h3 h4=>exact sess_sending ho hc h1 h2 h3 h4 eR eL et es hn hg hou (hl (hlt h1)) fr fl
 | @gotten a h1 h2=>exact sess_gotten ho hc h1 h2 eR eL et es hn hg hou (hl (hlt h1)) fr fl
theorem session (ho:PaOk arts r dl ch) (hc:Com r dl ch i p) (hp:Ph arts r dl ch 0 i p∨Nn arts i p):∃ p1 p2 p3,EndR p p1∧RcvR (ch:Int) p1 p2∧SayR (ch:Int) p2 p3∧p2.c.up=true∧Com r dl ch i p3∧Ph arts r dl ch 1 i p3:=by
 rcases hp with hp|hp
 ·obtain⟨p2,p3,h1,h2,h3,h4,h5⟩:=hp.sess ho hc
  obtain⟨h,g,T,rem,o,hh⟩:=hp
  exact⟨p,p2,p3,⟨hc.up,Or.inl ⟨hh.num.symm,rfl⟩⟩,h1,h2,h3,h4,h5⟩
 ·obtain⟨h,g,o,K,hh⟩:=hp
  obtain⟨s,hs,s1,s2⟩:=hc.sess
  have hn3:=ho.n3
  have hi64:=hh.i64
  obtain⟨q,hq⟩:∃ q,({ p with tkr:=(openT p.tkr).1,wl:=⟨#[]⟩,wr:=⟨#[]⟩,num:=p.c.sess }:Ps)=q:=⟨_,rfl⟩
  have qR:strR q=[]:=by
   rw[← hq]
   unfold strR
   dsimp only
   rw[hh.bs,hh.bs,hh.wy]
   rfl
  have qL:strL q=[]:=by
   rw[← hq]
   unfold strL
   dsimp only
   rw[hh.bs,hh.bs,hh.wy]
   rfl
  have qt:q.tkr=⟨2,true,[],K⟩:=by rw[← hq];dsimp only;rw[hh.tkr];rfl
  have hcq:Com r dl ch i q:=hc.to (by rw[← hq]) (by rw[← hq]) (fun k _ _ _ _=>by rw[← hq]) (by rw[← hq];exact hc.good) (by rw[qR];exact Nat.zero_le _) (by rw[qL];exact Nat.zero_le _)
  obtain⟨p3,t1,t2,t3⟩:=offer_next (h:=h) (g:=g) (o:=o) (K:=K) ho hcq (by rw[← hq]) (by rw[← hq];exact hh.got) hh.outs qt hh.kept (by rw[← hq];exact hh.snd) qR qL (fun hl=>by omega)
  obtain⟨r1,r2,r3,r4⟩:=hcq.rNil qR
  obtain⟨l1,l2,l3,l4⟩:=hcq.lNil qL
  exact⟨q,q,p3,⟨hc.up,Or.inr ⟨hh.num,by rw[hs];omega,by rw[hh.tkr],hq.symm⟩⟩,rcv_idle ⟨r1,r2⟩ ⟨l1,l2⟩,t1,hcq.up,t2,t3⟩
def Inv (arts:List Sn.Art) (r dl ch i:Nat) (p:Ps):Prop:=Com r dl ch i p∧(Ph arts r dl ch 0 i p∨Nn arts i p)
theorem good0 (hc1:1≤ch) (hc2:ch≤4096) (hn:arts.length≤3) (hA:∀ a∈arts,ArtOk a):Sn.Good (ch:Int) ⟨arts,0,Sn.zA,[],none⟩ :=
 ⟨by omega,by omega,Or.inl rfl,fun _=>rfl,fun _=>rfl,fun h=>absurd (show (0:Int)=2 from h) (by decide),fun h=>absurd (show (0:Int)=3 from h) (by decide),fun h=>absurd rfl h,fun a ha=>(hA a ha).art,Nat.le_trans hn (by decide),fun h=>absurd rfl h⟩
theorem Inv.begin (ho:PaOk arts r dl ch) {x:Cf} (x1:x.rate=(r:Int)) (x2:x.delay=(dl:Int)) (x3:x.period=10):Inv arts r dl ch 0 { ps0 x with snd:=⟨arts,0,Sn.zA,[],none⟩ }:=by
 have hcc:=ho.c2
 have hc1:=ho.c1
 refine⟨⟨rfl,x1,x2,x3,rfl,⟨1,rfl,by decide,by decide⟩,good0 (by omega) (by omega) ho.n3 ho.ok,fun _ _ _ _ _=>rfl,fun _ _ _=>rfl,fun _=>Nat.le_refl _,fun k y hy=>(by cases hy),Nat.zero_le _,Nat.zero_le _⟩,Or.inr ⟨0,0,[],[],⟨rfl,rfl,⟨rfl,fun j hj=>absurd hj (Nat.not_lt_zero _)⟩,?_,rfl,rfl,fun _=>rfl,fun _=>rfl,Nat.zero_le _⟩⟩⟩
 exact kept_next arts (Nat.zero_le _)
theorem Inv.step (ho:PaOk arts r dl ch) (h:Inv arts r dl ch i p) (hi:i≤300) (b:Bool) (hb:64≤i→b=false) :
  ∃ p1 p2 p3,EndR p p1∧RcvR (ch:Int) p1 p2∧SayR (ch:Int) p2 p3∧p2.c.up=true∧((b=false∧UpOk p3 r dl i∧Inv arts r dl ch (i+1) (upP r dl i p3))∨(b=true∧∃ s,DnOk (ch:Int) p3 i s∧Inv arts r dl ch (i+1) (dnP i s p3))):=by
 obtain⟨p1,p2,p3,h1,h2,h3,h4,h5,h6⟩:=session ho h.1 h.2
 have hr1:=ho.r1
 have hr2:=ho.r2
 refine⟨p1,p2,p3,h1,h2,h3,h4,?_⟩
 cases b with
 | false=>exact Or.inl ⟨rfl,h5.upOk (by omega) hr2 ho.d2,h5.pass (by omega),Or.inl (h6.pass (by omega))⟩
 | true =>
  have hi63:i≤63:=by
   by_cases h64:64≤i
   ·cases hb h64
   ·omega
  obtain⟨s,s1,s2,s3⟩:=h6.cut h5 hi63
  exact Or.inr ⟨rfl,s,s1,s2,Or.inr s3⟩
theorem Inv.fin (h:Inv arts r dl ch 300 p):p.got=arts∧∃ o,p.snd=⟨[],0,Sn.zA,o,none⟩∧OutsOk arts arts.length o:=by
 rcases h.2 with⟨hh,g,T,rem,o,hp⟩|⟨hh,g,o,K,hp⟩
 ·have hB:=hp.body
  have hl:=hp.lim
  have hno:∀ {a:Sn.Art},arts[hh]? = some a→False:=fun e=>by
   have:=hl (List.getElem?_eq_some_iff.1 e).1
   omega
  obtain⟨sr,eR⟩:∃ sr,strR p=sr:=⟨_,rfl⟩
  obtain⟨sl,eL⟩:∃ sl,strL p=sl:=⟨_,rfl⟩
  obtain⟨tk,et⟩:∃ tk,p.tkr=tk:=⟨_,rfl⟩
  obtain⟨sn,es⟩:∃ sn,p.snd=sn:=⟨_,rfl⟩
  rw[eR,eL,et,es] at hB
  cases hB with
  | @idle K h1 h2 h3 =>
   subst h2
   refine⟨by rw[hp.got,h1,List.take_length],o,es,?_⟩
   rw[← h1]
   exact hp.outs
  | @offered a K b h1 h2=>exact (hno h1).elim
  | @wanting a b h1 h2 h3=>exact (hno h1).elim
  | @having a h1 h2=>exact (hno h1).elim
  | @sending a b P h1 h2 h3 h4=>exact (hno h1).elim
  | @gotten a h1 h2=>exact (hno h1).elim
 ·have:=hp.i64
  omega
end
end Go.Proofs.YtdkjgcfhepplbaaGreatDoor
