/- The plain law of a line over a minute: what waits, what is under way, what has arrived; a stream and the minute by which all of it is there. -/
import Derived.Test.YtdkjgcfhepplbaaGreatDoorMSs7
namespace Go.Proofs.YtdkjgcfhepplbaaGreatDoor
open Go.RowKit
def flatW (u:List (List UInt8×Nat)):List UInt8:=u.flatMap (·.1)
def pkW (r t:Nat) (q:List UInt8):List (List UInt8×Nat):=if q=[] then [] else [(q.take r,t)]
theorem dlv_flat (now:Nat):∀ u,(dlv now u).1++flatW (dlv now u).2=flatW u
 | []=>rfl
 | q :: u=>by
  unfold dlv
  split
  ·show (q.1++(dlv now u).1)++flatW (dlv now u).2=q.1++flatW u
   rw[List.append_assoc,dlv_flat now u]
  ·rfl
theorem dlv_mem (now:Nat):∀ u,∀ x∈(dlv now u).2,x∈u
 | [],x,h=>h
 | q :: u,x,h=>by
  unfold dlv at h
  split at h
  ·exact List.mem_cons_of_mem _ (dlv_mem now u x h)
  ·exact h
theorem dlv_all (now:Nat):∀ u,(∀ x∈u,x.2≤now)→(dlv now u).2=[]
 | [],_=>rfl
 | q :: u,h=>by
  unfold dlv
  rw[if_pos (h q List.mem_cons_self)]
  exact dlv_all now u fun x hx=>h x (List.mem_cons_of_mem _ hx)
theorem pk_flat (r t:Nat) (q:List UInt8):flatW (pkW r t q)++q.drop r=q:=by
 unfold pkW
 split
 ·rename_i h
  rw[h]
  simp[flatW]
 ·show (q.take r++[])++q.drop r=q
  rw[List.append_nil,List.take_append_drop]
theorem flat_app (u v:List (List UInt8×Nat)):flatW (u++v)=flatW u++flatW v:=List.flatMap_append
theorem packK_0 (r t k:Nat) (s:Fl):packK r t k s=(upd s.1 k ((s.1 k).drop r),upd s.2 (k+1) (s.2 (k+1)++pkW r t (s.1 k))):=by
 unfold packK pkW
 split
 ·rename_i h
  rw[h,List.drop_nil,List.append_nil,upd_self]
  have:upd s.1 k []=s.1:=by rw[← h,upd_self]
  rw[this]
 ·rfl
structure Passed (r t dl:Nat) (b b':Nat→List UInt8) (w w':Nat→List (List UInt8×Nat)):Prop where
 b0:b' 0=(b 0).drop r
 b3:b' 3=(b 3).drop r
 b5:b' 5=b 5++(dlv (t+1) (w 1++pkW r (t+1+dl) (b 0))).1
 w1:w' 1=(dlv (t+1) (w 1++pkW r (t+1+dl) (b 0))).2
 b2:b' 2=b 2++(dlv (t+1) (w 4++pkW r (t+1+dl) (b 3))).1
 w4:w' 4=(dlv (t+1) (w 4++pkW r (t+1+dl) (b 3))).2
theorem passed (r t dl:Nat) (b:Nat→List UInt8) (w:Nat→List (List UInt8×Nat)):Passed r t dl b (arrN (t+1) 2 (packN r (t+1+dl) 2 (b,w))).1 w (arrN (t+1) 2 (packN r (t+1+dl) 2 (b,w))).2:=by
 have e:packN r (t+1+dl) 2 (b,w)=packK r (t+1+dl) 3 (packK r (t+1+dl) 0 (b,w)):=rfl
 have e2:∀ s,arrN (t+1) 2 s=arrK (t+1) 4 2 (arrK (t+1) 1 5 s):=fun _=>rfl
 rw[e2,e,packK_0,packK_0]
 constructor <;> simp[arrK,upd]
def strR (p:Ps):List UInt8:=bl p.wr++p.bs 5++flatW (p.wy 1)++p.bs 0
def strL (p:Ps):List UInt8:=bl p.wl++p.bs 2++flatW (p.wy 4)++p.bs 3
theorem strR_up (r dl t:Nat) (p:Ps):strR (upP r dl t p)=strR p:=by
 have h:=passed r t dl p.bs p.wy
 show bl p.wr++(arrN (t+1) 2 (packN r (t+1+dl) 2 (p.bs,p.wy))).1 5++flatW ((arrN (t+1) 2 (packN r (t+1+dl) 2 (p.bs,p.wy))).2 1)++(arrN (t+1) 2 (packN r (t+1+dl) 2 (p.bs,p.wy))).1 0=_
 rw[h.b5,h.w1,h.b0]
 have h1:=dlv_flat (t+1) (p.wy 1++pkW r (t+1+dl) (p.bs 0))
 have h2:=pk_flat r (t+1+dl) (p.bs 0)
 rw[flat_app] at h1
 unfold strR
 calc _=bl p.wr++p.bs 5++((dlv (t+1) (p.wy 1++pkW r (t+1+dl) (p.bs 0))).1++flatW (dlv (t+1) (p.wy 1++pkW r (t+1+dl) (p.bs 0))).2)++(p.bs 0).drop r:=by simp only[List.append_assoc]
  _=bl p.wr++p.bs 5++flatW (p.wy 1)++(flatW (pkW r (t+1+dl) (p.bs 0))++(p.bs 0).drop r):=by rw[h1];simp only[List.append_assoc]
  _=_:=by rw[h2]
theorem strL_up (r dl t:Nat) (p:Ps):strL (upP r dl t p)=strL p:=by
 have h:=passed r t dl p.bs p.wy
 show bl p.wl++(arrN (t+1) 2 (packN r (t+1+dl) 2 (p.bs,p.wy))).1 2++flatW ((arrN (t+1) 2 (packN r (t+1+dl) 2 (p.bs,p.wy))).2 4)++(arrN (t+1) 2 (packN r (t+1+dl) 2 (p.bs,p.wy))).1 3=_
 rw[h.b2,h.w4,h.b3]
 have h1:=dlv_flat (t+1) (p.wy 4++pkW r (t+1+dl) (p.bs 3))
 have h2:=pk_flat r (t+1+dl) (p.bs 3)
 rw[flat_app] at h1
 unfold strL
 calc _=bl p.wl++p.bs 2++((dlv (t+1) (p.wy 4++pkW r (t+1+dl) (p.bs 3))).1++flatW (dlv (t+1) (p.wy 4++pkW r (t+1+dl) (p.bs 3))).2)++(p.bs 3).drop r:=by simp only[List.append_assoc]
  _=bl p.wl++p.bs 2++flatW (p.wy 4)++(flatW (pkW r (t+1+dl) (p.bs 3))++(p.bs 3).drop r):=by rw[h1];simp only[List.append_assoc]
  _=_:=by rw[h2]
structure Flow (r dl t:Nat) (q:List UInt8) (u:List (List UInt8×Nat)) (T:Nat):Prop where
 pk:∀ x∈u,x.2≤T
 wt:q=[]∨q.length+r * (dl+t)≤r * T
 fin:T≤t→u=[]∧q=[]
theorem Flow.nil (r dl t T:Nat):Flow r dl t [] [] T:=⟨fun x h=>(by cases h),Or.inl rfl,fun _=>⟨rfl,rfl⟩⟩
theorem Flow.step {r dl t T:Nat} {q:List UInt8} {u:List (List UInt8×Nat)} (h:Flow r dl t q u T) (hr:1≤r):Flow r dl (t+1) (q.drop r) (dlv (t+1) (u++pkW r (t+1+dl) q)).2 T:=by
 have hq:q≠[]→t+1+dl≤T:=fun hne=>by
  rcases h.wt with h1|h1
  ·exact absurd h1 hne
  ·have h2:0<q.length:=List.length_pos_iff.2 hne
   have h3:r * (dl+t)<r * T:=by omega
   have h4:=Nat.lt_of_mul_lt_mul_left h3
   omega
 have hpk:∀ x∈u++pkW r (t+1+dl) q,x.2≤T:=fun x hx=>by
  rcases List.mem_append.1 hx with hx|hx
  ·exact h.pk x hx
  ·unfold pkW at hx
   split at hx
   ·cases hx
   ·rename_i hne
    rw[List.mem_singleton.1 hx]
    exact hq hne
 have hw:q.drop r=[]∨(q.drop r).length+r * (dl+(t+1))≤r * T:=by
  rcases h.wt with h1|h1
  ·exact Or.inl (by rw[h1,List.drop_nil])
  ·by_cases hl:q.length≤r
   ·exact Or.inl (List.drop_eq_nil_of_le hl)
   ·refine Or.inr ?_
    rw[List.length_drop,show dl+(t+1)=(dl+t)+1 by omega,Nat.mul_add r (dl+t) 1]
    omega
 refine⟨fun x hx=>hpk x (dlv_mem _ _ x hx),hw,fun hT=>⟨dlv_all _ _ fun x hx=>Nat.le_trans (hpk x hx) hT,?_⟩⟩
 rcases hw with h1|h1
 ·exact h1
 ·have h2:r * T≤r * (dl+(t+1)):=Nat.mul_le_mul_left r (by omega)
  exact List.eq_nil_of_length_eq_zero (by omega)
theorem Flow.new {r dl t T:Nat} {q:List UInt8} (h:q.length+r * (dl+t)≤r * T) (ht:t<T):Flow r dl t q [] T:=⟨fun x h=>(by cases h),Or.inr h,fun e=>by omega⟩
open Go.RowKit
def offC (x:Id) (z:Int):Cm:=⟨2,⟨#[]⟩,x,z,0,0,0,⟨#[]⟩⟩
def datC (x:Id) (f:Int) (t:ByteArray):Cm:=⟨7,⟨#[]⟩,x,0,f,0,0,t⟩
def donC (x:Id):Cm:=⟨8,⟨#[]⟩,x,0,0,0,0,⟨#[]⟩⟩
theorem psC_noname (v:Int) (x:Id) (z f n e:Int) (t:ByteArray) (hx:x≠zI):psC ⟨v,⟨#[]⟩,x,z,f,n,e,t⟩=psL false true (z != 0) (f != 0) (n != 0) (e != 0) (!t.toList.isEmpty):=by
 unfold psC
 rw[decide_eq_false hx]
 simp only[isE]
 rfl
theorem chkF_ok {c:Cm} {fl most:Int} (h1:bits BinOp.andNot .i64 (orL (psC c)) fl=0) (h2:bits BinOp.and .i64 fl 1=0) (h3:c.id≠zI) (h4:(rgs c).all (okR fl)=true) (h5:bits BinOp.and .i64 fl 64=0):chkF c fl most=0:=by
 unfold chkF
 rw[if_neg (by rw[h1];decide),if_neg (by rw[h2];simp),if_neg (by rw[decide_eq_false h3];simp),if_neg (by rw[h4];decide),if_pos (by rw[h5];rfl)]
theorem chk_off (x:Id) (z:Int) (hx:x≠zI) (h1:1≤z) (h2:z≤65536):chk (offC x z)=0:=by
 rw[chk_form (offC x z) 2 rfl (by decide) (by decide)]
 refine chkF_ok (fl:=6) ?_ (by decide) hx ?_ (by decide)
 ·show bits BinOp.andNot .i64 (orL (psC ⟨2,⟨#[]⟩,x,z,0,0,0,⟨#[]⟩⟩)) 6=0
  rw[psC_noname _ _ _ _ _ _ _ hx,show (z != 0)=true by simpa using (by omega:z≠0)]
  decide +kernel
 ·show ([(4,z,1,65536),(8,0,0,65536),(16,0,1,1000),(32,0,1,99)]:List Rg).all (okR 6)=true
  have e1:okR 6 (8,0,0,65536)=true:=by decide
  have e2:okR 6 (16,0,1,1000)=true:=by decide
  have e3:okR 6 (32,0,1,99)=true:=by decide
  have e4:okR 6 (4,z,1,65536)=true:=by unfold okR;simp[h1,h2]
  simp only[List.all_cons,List.all_nil,e1,e2,e3,e4,Bool.and_true]
theorem chk_want (x:Id) (f:Int) (hx:x≠zI) (h1:0≤f) (h2:f≤65536):chk (wantC x f)=0:=by
 rw[chk_form (wantC x f) 3 rfl (by decide) (by decide)]
 refine chkF_ok (fl:=10) ?_ (by decide) hx ?_ (by decide)
 ·show bits BinOp.andNot .i64 (orL (psC ⟨3,⟨#[]⟩,x,0,f,0,0,⟨#[]⟩⟩)) 10=0
  rw[psC_noname _ _ _ _ _ _ _ hx]
  cases (f != 0) <;> decide +kernel
 ·show ([(4,0,1,65536),(8,f,0,65536),(16,0,1,1000),(32,0,1,99)]:List Rg).all (okR 10)=true
  have e1:okR 10 (4,0,1,65536)=true:=by decide
  have e2:okR 10 (16,0,1,1000)=true:=by decide
  have e3:okR 10 (32,0,1,99)=true:=by decide
  have e4:okR 10 (8,f,0,65536)=true:=by unfold okR;simp[h1,h2]
  simp only[List.all_cons,List.all_nil,e1,e2,e3,e4,Bool.and_true]
theorem chk_data (x:Id) (f:Int) (t:ByteArray) (hx:x≠zI) (h1:0≤f) (h2:f≤65536) (ht:t.toList.isEmpty=false) (hz:(t.size:Int)≤4096) (hr:crL t=false):chk (datC x f t)=0:=by
 rw[chk_form (datC x f t) 7 rfl (by decide) (by decide)]
 show chkF (datC x f t) 74 4096=0
 unfold chkF
 have e0:psC (datC x f t)=psL false true false (f != 0) false false true:=by
  show psC ⟨7,⟨#[]⟩,x,0,f,0,0,t⟩=_
  rw[psC_noname _ _ _ _ _ _ _ hx,ht]
  rfl
 have e5:(rgs (datC x f t)).all (okR 74)=true:=by
  show ([(4,0,1,65536),(8,f,0,65536),(16,0,1,1000),(32,0,1,99)]:List Rg).all (okR 74)=true
  have e1:okR 74 (4,0,1,65536)=true:=by decide
  have e2:okR 74 (16,0,1,1000)=true:=by decide
  have e3:okR 74 (32,0,1,99)=true:=by decide
  have e4:okR 74 (8,f,0,65536)=true:=by unfold okR;simp[h1,h2]
  simp only[List.all_cons,List.all_nil,e1,e2,e3,e4,Bool.and_true]
 rw[e0,if_neg (by cases (f != 0) <;> decide +kernel),if_neg (by rw[show bits BinOp.and .i64 74 1=0 by decide];simp),if_neg (by rw[show (datC x f t).id=x from rfl,decide_eq_false hx];decide),if_neg (by rw[e5];decide),if_neg (by decide)]
 show (if t.toList.isEmpty=true then 1 else if 4096<(t.size:Int) then 5 else if _ then _ else _)=(0:Int)
 rw[ht,if_neg (by decide),if_neg (by omega)]
 show (if crL t=true then _ else _)=(0:Int)
 rw[hr]
 rfl
theorem chk_done (x:Id) (hx:x≠zI):chk (donC x)=0:=by
 rw[chk_form (donC x) 8 rfl (by decide) (by decide)]
 refine chkF_ok (fl:=2) ?_ (by decide) hx (by show ([(4,0,1,65536),(8,0,0,65536),(16,0,1,1000),(32,0,1,99)]:List Rg).all (okR 2)=true;decide) (by decide)
 show bits BinOp.andNot .i64 (orL (psC ⟨8,⟨#[]⟩,x,0,0,0,0,⟨#[]⟩⟩)) 2=0
 rw[psC_noname _ _ _ _ _ _ _ hx]
 decide +kernel
theorem answerT_want {s:Tk} {c:Cm} {k:Nat} (hc:chk c=0) (hv:c.verb=3) (hp:posL s.act c.id=some k) (h1:(ptK s.act k).state=1) (hf:c.from_=0∨c.from_=gotL s.kept c.id) :
  answerT s c=(⟨s.win,s.opn,s.act.set k (wantP s c k),withoutL s.kept c.id⟩,c,0):=by
 unfold answerT
 rw[if_neg (by rw[hc];decide),if_neg (by omega),hp]
 dsimp only
 rw[if_neg (by rw[h1];decide),if_neg (by omega),if_pos hv]
theorem dataT_yes {s:Tk} {c:Cm} {k:Nat} (hp:rcvL s.act c.id=some k) (hf:c.from_=(ptK s.act k).bytes.size) (hs:¬ (ptK s.act k).size<(ptK s.act k).bytes.size+c.text.size) :
  dataT s c=({ s with act:=s.act.set k (addB (ptK s.act k) c.text) },0):=by
 unfold dataT
 rw[hp]
 dsimp only
 rw[if_neg (by rw[hf];exact fun h=>h rfl),if_neg hs]
section
variable {W : Int} {A K : List Pt} {x : Id} {z f : Int} {t e : ByteArray}
theorem pos_last (h:posL A x=none) (p:Pt) (hp:p.id=x):posL (A++[p]) x=some A.length :=
 pos_hit (by rw[List.length_append];exact Nat.lt_succ_self _) (fun j hj=>by rw[List.getElem_append_left hj];exact pos_none' h _ (List.getElem_mem hj)) (by simpa using hp)
theorem ptK_last (p:Pt):ptK (A++[p]) A.length=p:=by rw[ptK_eq (by rw[List.length_append];exact Nat.lt_succ_self _)];simp
theorem set_last (p q:Pt):(A++[p]).set A.length q=A++[q]:=by rw[List.set_append_right _ _ (Nat.le_refl _),Nat.sub_self];rfl
theorem hear_off (hx:x≠zI) (h1:1≤z) (h2:z≤65536) (ha:posL A x=none) (hw:(A.length:Int)<W) (hk:∀ k (hk:k<K.length),posL K x=some k→K[k].size=z):hearT ⟨W,true,A,K⟩ (offC x z)=(⟨W,true,A++[(⟨x,z,1,⟨#[]⟩⟩:Pt)],K⟩,[(x,z,gotL K x)],[],0):=by
 unfold hearT
 rw[if_neg (show ¬ (true=false) by decide),if_neg (by rw[chk_off x z hx h1 h2];decide),if_pos (show (offC x z).verb=2 from rfl)]
 have ho:offK ⟨W,true,A,K⟩ (offC x z)=K:=by
  show (match posL K x with|some k=>if (ptK K k).size=z then K else withoutL K x|none=>K)=K
  cases hp:posL K x with
  | none=>rfl
  | some k =>
   obtain⟨hk2,_,_⟩:=pos_some hp
   show (if (ptK K k).size=z then K else withoutL K x)=K
   rw[ptK_eq hk2,if_pos (hk k hk2 hp)]
 have e1:offerT ⟨W,true,A,K⟩ (offC x z)=(⟨W,true,A++[(⟨x,z,1,⟨#[]⟩⟩:Pt)],K⟩,[(x,z,gotL K x)],0):=by
  unfold offerT
  show (match posL A x with|some _=>_|none=>_)=_
  rw[ha]
  show (if W≤(A.length:Int) then _ else ((⟨W,true,A++[newP (offC x z)],offK ⟨W,true,A,K⟩ (offC x z)⟩:Tk),[(x,z,gotL (offK ⟨W,true,A,K⟩ (offC x z)) x)],0))=_
  rw[if_neg (by omega),ho]
  rfl
 rw[e1]
theorem answer_want {o:Bool} {r:ByteArray} (hx:x≠zI) (h1:0≤f) (h2:f≤65536) (ha:posL A x=none) (hf:f=0∨f=gotL K x) (hr:r=if 0<f then (match posL K x with|some j=>(ptK K j).bytes|none=>⟨#[]⟩) else ⟨#[]⟩) :
  answerT ⟨W,o,A++[(⟨x,z,1,⟨#[]⟩⟩:Pt)],K⟩ (wantC x f)=(⟨W,o,A++[⟨x,z,2,r⟩],withoutL K x⟩,wantC x f,0):=by
 have hp:=pos_last ha ⟨x,z,1,⟨#[]⟩⟩ rfl
 have hw:wantP ⟨W,o,A++[(⟨x,z,1,⟨#[]⟩⟩:Pt)],K⟩ (wantC x f) A.length=⟨x,z,2,r⟩:=by
  unfold wantP
  show (⟨(ptK (A++[(⟨x,z,1,⟨#[]⟩⟩:Pt)]) A.length).id,(ptK (A++[(⟨x,z,1,⟨#[]⟩⟩:Pt)]) A.length).size,2,if 0<f then (match posL K x with|some j=>(ptK K j).bytes|none=>⟨#[]⟩) else (ptK (A++[(⟨x,z,1,⟨#[]⟩⟩:Pt)]) A.length).bytes⟩:Pt)=_
  rw[ptK_last,hr]
 rw[answerT_want (k:=A.length) (by exact chk_want x f hx h1 h2) rfl hp (by show (ptK (A++[(⟨x,z,1,⟨#[]⟩⟩:Pt)]) A.length).state=1;rw[ptK_last]) hf,hw]
 show ((⟨W,o,(A++[(⟨x,z,1,⟨#[]⟩⟩:Pt)]).set A.length ⟨x,z,2,r⟩,withoutL K x⟩:Tk),wantC x f,(0:Int))=_
 rw[set_last]
theorem hear_data {o:Bool} (ho:o=true) (hx:x≠zI) (ha:posL A x=none) (hf:f=(e.size:Int)) (h2:f≤65536) (hs:(e.size:Int)+t.size≤z) (ht:t.toList.isEmpty=false) (hz:(t.size:Int)≤4096) (hr:crL t=false) :
  hearT ⟨W,o,A++[(⟨x,z,2,e⟩:Pt)],K⟩ (datC x f t)=(⟨W,o,A++[⟨x,z,2,e++t⟩],K⟩,[],[],0):=by
 subst ho
 unfold hearT
 rw[if_neg (show ¬ (true=false) by decide),if_neg (by rw[chk_data x f t hx (by omega) h2 ht hz hr];decide),if_neg (show ¬ ((datC x f t).verb=2) by show ¬ ((7:Int)=2);decide),if_pos (show (datC x f t).verb=7 from rfl)]
 have hp:=rcv_yes (pos_last ha ⟨x,z,2,e⟩ rfl) (by rw[List.length_append];exact Nat.lt_succ_self _) (by simp)
 have e1:dataT ⟨W,true,A++[(⟨x,z,2,e⟩:Pt)],K⟩ (datC x f t)=(⟨W,true,A++[⟨x,z,2,e++t⟩],K⟩,0):=by
  rw[dataT_yes (k:=A.length) hp (by show f=((ptK (A++[(⟨x,z,2,e⟩:Pt)]) A.length).bytes.size:Int);rw[ptK_last];exact hf) (by show ¬ (ptK (A++[(⟨x,z,2,e⟩:Pt)]) A.length).size<((ptK (A++[(⟨x,z,2,e⟩:Pt)]) A.length).bytes.size:Int)+(t.size:Int);rw[ptK_last];show ¬ z<(e.size:Int)+(t.size:Int);omega)]
  show ((⟨W,true,(A++[(⟨x,z,2,e⟩:Pt)]).set A.length (addB (ptK (A++[(⟨x,z,2,e⟩:Pt)]) A.length) t),K⟩:Tk),(0:Int))=_
  rw[ptK_last,set_last]
  rfl
 rw[e1]
end
def idN (j:Nat):Id:=idB (UInt8.ofNat (j+1))
theorem idN_ne {j:Nat} (h:j<200):idN j≠zI:=idB_ne _ (fun e=>by
 have:=congrArg UInt8.toNat e
 rw[UInt8.toNat_ofNat',UInt8.toNat_zero] at this
 omega)
theorem idN_inj {i j:Nat} (hi:i<200) (hj:j<200) (h:idN i=idN j):i=j:=by
 have h1:=congrArg (fun x:Id=>x.1.head?) h
 simp only[idN,idB,List.head?_cons,Option.some.injEq] at h1
 have:=congrArg UInt8.toNat h1
 rw[UInt8.toNat_ofNat',UInt8.toNat_ofNat'] at this
 omega
def gotC (x:Id):Cm:=⟨9,⟨#[]⟩,x,0,0,0,0,⟨#[]⟩⟩
theorem chk_plain (v:Int) (hv:v=4∨v=9) (x:Id) (hx:x≠zI):chk ⟨v,⟨#[]⟩,x,0,0,0,0,⟨#[]⟩⟩=0:=by
 rcases hv with rfl|rfl
 ·rw[chk_form (⟨4,⟨#[]⟩,x,0,0,0,0,⟨#[]⟩⟩:Cm) 4 rfl (by decide) (by decide)]
  refine chkF_ok (fl:=2) ?_ (by decide) hx (by show ([(4,0,1,65536),(8,0,0,65536),(16,0,1,1000),(32,0,1,99)]:List Rg).all (okR 2)=true;decide) (by decide)
  rw[psC_noname _ _ _ _ _ _ _ hx]
  decide +kernel
 ·rw[chk_form (⟨9,⟨#[]⟩,x,0,0,0,0,⟨#[]⟩⟩:Cm) 9 rfl (by decide) (by decide)]
  refine chkF_ok (fl:=2) ?_ (by decide) hx (by show ([(4,0,1,65536),(8,0,0,65536),(16,0,1,1000),(32,0,1,99)]:List Rg).all (okR 2)=true;decide) (by decide)
  rw[psC_noname _ _ _ _ _ _ _ hx]
  decide +kernel
theorem chk_have (x:Id) (hx:x≠zI):chk (haveC x)=0:=chk_plain 4 (Or.inl rfl) x hx
theorem chk_got (x:Id) (hx:x≠zI):chk (gotC x)=0:=chk_plain 9 (Or.inr rfl) x hx
theorem lenB_filter (f:Wd→Bool):∀ l:List Wd,lenB ((l.filter f).map (·.2))≤lenB (l.map (·.2))
 | []=>Nat.le_refl _
 | x :: l=>by
  have h:=lenB_filter f l
  rw[List.filter_cons]
  unfold lenB at h ⊢
  split
  ·simp only[List.map_cons,List.sum_cons]
   omega
  ·simp only[List.map_cons,List.sum_cons]
   omega
theorem forms_short:∀ k:Fin 13,(formsL[k.1]?.getD (⟨#[]⟩,0,0)).1.size≤8:=by decide +kernel
theorem line_len (c:Cm) (hn:c.name=⟨#[]⟩) (h:c.ok):(lineC c).length≤170:=by
 have hw:(formC c).1.size≤8:=by
  unfold formC
  by_cases hk:c.verb.toNat<13
  ·exact forms_short ⟨_,hk⟩
  ·rw[List.getElem?_eq_none (by show 12≤c.verb.toNat;omega)]
   decide
 refine Nat.le_trans (join_le _) ?_
 have h1:=lenB_filter (useW (formC c).2.1) (wdsC c)
 unfold wordsC
 have e:lenB ((formC c).1 :: ((wdsC c).filter (useW (formC c).2.1)).map (·.2))=((formC c).1.size+1)+lenB (((wdsC c).filter (useW (formC c).2.1)).map (·.2)):=by
  unfold lenB
  rw[List.map_cons,List.sum_cons]
 rw[e]
 have h2:lenB ((wdsC c).map (·.2))≤1+72+22+22+22+22:=by
  have a1:=itoaB_size _ h.size
  have a2:=itoaB_size _ h.from_
  have a3:=itoaB_size _ h.count
  have a4:=itoaB_size _ h.code
  have a5:=textS_size c.id
  unfold lenB wdsC
  simp only[List.map_cons,List.map_nil,List.sum_cons,List.sum_nil,hn]
  have a6:(⟨#[]⟩:ByteArray).size=0:=rfl
  omega
 omega
theorem enc_len (c:Cm) (hn:c.name=⟨#[]⟩) (h:c.ok):(encT c).length≤178+4 * c.text.size:=by
 have h1:=line_len c hn h
 unfold encT
 split
 ·simp
 ·rw[List.length_append,List.length_append]
  split
  ·simp only[List.length_cons,List.length_nil]
   omega
  ·have h2:=stuffP_le 10 (bl c.text) []
   have h3:(bl c.text).length=c.text.size:=(bl_size c.text).symm
   unfold stuffL
   simp only[List.length_cons,List.length_nil] at h2 ⊢
   omega
open Go.RowKit
inductive SayI (ch:Int):Nat→Ps→Ps→Prop
 | nil (p:Ps):SayI ch 0 p p
 | cons {n:Nat} {p p':Ps}:Sn.Good ch p.snd→(Sn.sayS ch p.snd).2.2=true→SayOk p 0 (Sn.sayS ch p.snd).2.1→SayI ch n (sayP ch p) p'→SayI ch (n+1) p p'
theorem SayI.run {ch:Int} {n:Nat} {p p':Ps} (h:SayI ch n p p'):∃ f:Nat→Ps,f 0=p∧f n=p'∧∀ k,k<n→Sn.Good ch (f k).snd∧(Sn.sayS ch (f k).snd).2.2=true∧SayOk (f k) 0 (Sn.sayS ch (f k).snd).2.1∧f (k+1)=sayP ch (f k):=by
 induction h with
 | nil p=>exact⟨fun _=>p,rfl,rfl,fun k hk=>absurd hk (Nat.not_lt_zero _)⟩
 | cons h1 h2 h3 _ ih =>
  obtain⟨f,e0,en,hf⟩:=ih
  refine⟨fun k=>if k=0 then _ else f (k - 1),rfl,en,fun k hk=>?_⟩
  cases k with
  | zero=>exact⟨h1,h2,h3,e0⟩
  | succ k=>exact hf k (Nat.lt_of_succ_lt_succ hk)
theorem SayI.to {ch:Int} {n:Nat} {p p':Ps} (h:SayI ch n p p') (hn:n<100) (hg:Sn.Good ch p'.snd) (hl:(Sn.sayS ch p'.snd).2.2=false):SayR ch p p':=by
 obtain⟨f,e0,en,hf⟩:=h.run
 exact⟨n,f,hn,e0,hf,by rw[en];exact⟨hg,hl⟩,en.symm⟩
inductive HrI:Ps→List Cm→Ps→Prop
 | nil (p:Ps):HrI p [] p
 | cons {c:Cm} {cs:List Cm} {p p1 p':Ps}:HrR p c p1→HrI p1 cs p'→HrI p (c :: cs) p'
theorem HrI.run {p p':Ps} {cs:List Cm} (h:HrI p cs p'):∃ f:Nat→Ps,f 0=p∧f cs.length=p'∧∀ i (hi:i<cs.length),HrR (f i) cs[i] (f (i+1)):=by
 induction h with
 | nil p=>exact⟨fun _=>p,rfl,rfl,fun k hk=>absurd hk (Nat.not_lt_zero _)⟩
 | cons h1 _ ih =>
  obtain⟨f,e0,en,hf⟩:=ih
  refine⟨fun k=>if k=0 then _ else f (k - 1),rfl,en,fun k hk=>?_⟩
  cases k with
  | zero=>simpa[e0] using h1
  | succ k=>exact hf k (Nat.lt_of_succ_lt_succ hk)
inductive HlI (ch:Int):Ps→List Cm→Ps→Prop
 | nil (p:Ps):HlI ch p [] p
 | cons {c:Cm} {cs:List Cm} {p p1 p':Ps}:HlR ch p c p1→HlI ch p1 cs p'→HlI ch p (c :: cs) p'
theorem HlI.run {ch:Int} {p p':Ps} {cs:List Cm} (h:HlI ch p cs p'):∃ f:Nat→Ps,f 0=p∧f cs.length=p'∧∀ i (hi:i<cs.length),HlR ch (f i) cs[i] (f (i+1)):=by
 induction h with
 | nil p=>exact⟨fun _=>p,rfl,rfl,fun k hk=>absurd hk (Nat.not_lt_zero _)⟩
 | cons h1 _ ih =>
  obtain⟨f,e0,en,hf⟩:=ih
  refine⟨fun k=>if k=0 then _ else f (k - 1),rfl,en,fun k hk=>?_⟩
  cases k with
  | zero=>simpa[e0] using h1
  | succ k=>exact hf k (Nat.lt_of_succ_lt_succ hk)
theorem RcvR.mk {ch:Int} {p q p':Ps} {cs cs2:List Cm} {rest rest2:List UInt8} (l5:(p.bs 5).length≤2000) (s5:p.wr.size≤10000) (f5:feedL (bl p.wr++p.bs 5)=(cs,rest,0)) (n5:cs.length≤1000)
  (h5:HrI { p with bs:=upd p.bs 5 [],wr:=⟨rest.toArray⟩ } cs q) (l2:(q.bs 2).length≤2000) (s2:q.wl.size≤10000) (f2:feedL (bl q.wl++q.bs 2)=(cs2,rest2,0)) (n2:cs2.length≤1000)
  (h2:HlI ch { q with bs:=upd q.bs 2 [],wl:=⟨rest2.toArray⟩ } cs2 p'):RcvR ch p p':=by
 obtain⟨f,e0,en,hf⟩:=h5.run
 obtain⟨g,g0,gn,hg⟩:=h2.run
 refine⟨cs,rest,f,cs2,rest2,g,by omega,by omega,f5,by omega,e0,hf,?_,?_,?_,by omega,?_,hg,gn.symm⟩
 ·rw[en];omega
 ·rw[en];omega
 ·rw[en];exact f2
 ·rw[en];exact g0
inductive Rest (x:Id) (t:ByteArray) (ch:Nat):Nat→List Cm→Prop
 | last:Rest x t ch t.size [donC x]
 | more {fr:Nat} {P:List Cm}:fr<t.size→Rest x t ch (min (fr+ch) t.size) P→Rest x t ch fr (datC x fr (t.extract fr (min (fr+ch) t.size)) :: P)
theorem Rest.le {x:Id} {t:ByteArray} {ch fr:Nat} {P:List Cm} (h:Rest x t ch fr P):fr≤t.size:=by
 cases h with
 | last=>exact Nat.le_refl _
 | more h _=>exact Nat.le_of_lt h
theorem Rest.ex (x:Id) (t:ByteArray) (ch:Nat) (hc:1≤ch):∀ (k fr:Nat),fr≤t.size→t.size≤fr+k→∃ P,Rest x t ch fr P
 | 0,fr,h1,h2=>by
  obtain rfl:fr=t.size:=by omega
  exact⟨_,.last⟩
 | k+1,fr,h1,h2=>by
  by_cases h:fr=t.size
  ·subst h
   exact⟨_,.last⟩
  ·obtain⟨P,hP⟩:=Rest.ex x t ch hc k (min (fr+ch) t.size) (Nat.min_le_right _ _) (by omega)
   exact⟨_,.more (by omega) hP⟩
theorem Rest.len {x:Id} {t:ByteArray} {ch fr:Nat} {P:List Cm} (h:Rest x t ch fr P) (hc:20≤ch):20 * P.length≤(t.size - fr)+39∧1≤P.length:=by
 induction h with
 | last=>exact⟨by simp,by simp⟩
 | more h1 h2 ih =>
  rw[List.length_cons]
  omega
theorem ext_size (t:ByteArray) {a b:Nat} (h:b≤t.size):(t.extract a b).size=b - a:=by
 rw[ByteArray.size_extract,Nat.min_eq_left h]
theorem i64_nat (n:Nat) (h:n≤1000000):i64 (n:Int):=⟨by omega,by omega⟩
theorem i64_0:i64 0:=⟨by omega,by omega⟩
theorem nm0:(⟨#[]⟩:ByteArray).size=0:=rfl
theorem datC_ok (x:Id) (fr:Nat) (t:ByteArray) (h:fr≤1000) (ht:t.size≤1000):(datC x fr t).ok:=⟨by show (⟨#[]⟩:ByteArray).size≤_;rw[nm0];omega,by show t.size≤_;omega,i64_0,i64_nat fr (by omega),i64_0,i64_0⟩
theorem donC_ok (x:Id):(donC x).ok:=⟨by show (⟨#[]⟩:ByteArray).size≤_;rw[nm0];omega,by show (⟨#[]⟩:ByteArray).size≤_;rw[nm0];omega,i64_0,i64_0,i64_0,i64_0⟩
theorem offC_ok (x:Id) (z:Nat) (h:z≤1000):(offC x z).ok:=⟨by show (⟨#[]⟩:ByteArray).size≤_;rw[nm0];omega,by show (⟨#[]⟩:ByteArray).size≤_;rw[nm0];omega,i64_nat z (by omega),i64_0,i64_0,i64_0⟩
theorem wantC_ok (x:Id) (z:Nat) (h:z≤1000):(wantC x z).ok:=⟨by show (⟨#[]⟩:ByteArray).size≤_;rw[nm0];omega,by show (⟨#[]⟩:ByteArray).size≤_;rw[nm0];omega,i64_0,i64_nat z (by omega),i64_0,i64_0⟩
theorem plain_ok (v:Int) (x:Id):(⟨v,⟨#[]⟩,x,0,0,0,0,⟨#[]⟩⟩:Cm).ok:=⟨by show (⟨#[]⟩:ByteArray).size≤_;rw[nm0];omega,by show (⟨#[]⟩:ByteArray).size≤_;rw[nm0];omega,i64_0,i64_0,i64_0,i64_0⟩
theorem Rest.bytes {x:Id} {t:ByteArray} {ch fr:Nat} {P:List Cm} (h:Rest x t ch fr P) (ht:t.size≤100):(catC P).length≤178 * P.length+4 * (t.size - fr):=by
 induction h with
 | last =>
  rw[catC_cons,show catC []=[] from rfl,List.append_nil]
  have:=enc_len (donC x) rfl (donC_ok x)
  have h2:(donC x).text.size=0:=rfl
  simp only[List.length_cons,List.length_nil]
  omega
 | @more fr P h1 h2 ih =>
  have hs:=ext_size t (a:=fr) (b:=min (fr+ch) t.size) (Nat.min_le_right _ _)
  have:=enc_len (datC x fr (t.extract fr (min (fr+ch) t.size))) rfl (datC_ok _ _ _ (by omega) (by omega))
  have h3:(datC x fr (t.extract fr (min (fr+ch) t.size))).text.size=min (fr+ch) t.size - fr:=hs
  rw[catC_cons,List.length_append,List.length_cons]
  omega
open Go.RowKit
theorem crL_nocr {t:ByteArray} (h:(13:UInt8)∉t.data.toList):crL t=false:=by
 unfold crL
 rw[decide_eq_false_iff_not]
 intro h0
 obtain⟨o,ho⟩:∃ o:Nat,Lib.indexByte t.data.toList 13=(o:Int):=⟨(Lib.indexByte t.data.toList 13).toNat,by omega⟩
 exact h (List.mem_of_getElem? (Lib.indexByte_some ho).1)
theorem nocr_ext {t:ByteArray} (h:(13:UInt8)∉t.data.toList) (a b:Nat):(13:UInt8)∉(t.extract a b).data.toList:=by
 intro hm
 rw[ByteArray.data_extract,Array.mem_toList_iff] at hm
 obtain⟨i,hi,e⟩:=Array.mem_iff_getElem.1 hm
 rw[Array.getElem_extract] at e
 exact h (Array.mem_toList_iff.2 (by rw[← e];exact Array.getElem_mem _))
theorem ne_toList {t:ByteArray} (h:1≤t.size):t.toList.isEmpty=false:=by
 cases hh:t.toList with
 | nil =>
  have e:=congrArg List.length hh
  rw[ByteArray.toList_eq,Array.length_toList] at e
  have e3:t.data.size=0:=e
  exact absurd (show t.size=0 from e3) (by omega)
 | cons x r=>rfl
structure ArtOk (a:Sn.Art):Prop where
 id:a.1≠zI
 one:1≤a.2.size
 most:a.2.size≤100
 nocr:(13:UInt8)∉a.2.data.toList
theorem ArtOk.art {a:Sn.Art} (h:ArtOk a):Sn.okArt a:=⟨h.id,ne_toList h.one,by have:=h.most;omega,crL_nocr h.nocr⟩
theorem ArtOk.datC {a:Sn.Art} (h:ArtOk a) {f n:Nat} (h1:f<n) (h2:n≤a.2.size):chk (datC a.1 f (a.2.extract f n))=0:=by
 have hs:=ext_size a.2 (a:=f) h2
 have hm:=h.most
 exact chk_data a.1 f _ h.id (by omega) (by omega) (ne_toList (by omega)) (by omega) (crL_nocr (nocr_ext h.nocr f n))
theorem Rest.ok {a:Sn.Art} (ha:ArtOk a) {ch fr:Nat} {P:List Cm} (hc:1≤ch) (h:Rest a.1 a.2 ch fr P):∀ c∈P,Go.Proofs.YtdkjgcfhepplbaaGreatDoor.chk c=0:=by
 induction h with
 | last=>intro c hm;rw[List.mem_singleton.1 hm];exact chk_done _ ha.id
 | more h1 _ ih =>
  intro c hm
  rcases List.mem_cons.1 hm with rfl|hm
  ·exact ha.datC (by omega) (Nat.min_le_right _ _)
  ·exact ih c hm
theorem say_off {ch:Int} {p:Ps} {a:Sn.Art} {r:List Sn.Art} {o:List Sn.Out} (ha:ArtOk a) (hg:Sn.Good ch p.snd) (hs:p.snd=⟨a :: r,0,Sn.zA,o,none⟩) (hup:p.c.up=true) (hr:(p.bs 0).length≤1000000) :
  SayI ch 1 p { p with snd:=⟨r,1,a,o,none⟩,bs:=upd p.bs 0 (p.bs 0++encT (offC a.1 a.2.size)) }∧Sn.Good ch ⟨r,1,a,o,none⟩:=by
 have e:Sn.sayS ch p.snd=(⟨r,1,a,o,none⟩,offC a.1 a.2.size,true):=by rw[hs];rfl
 have hm:=ha.most
 have ho:=ha.one
 have hl:=enc_len (offC a.1 a.2.size) rfl (offC_ok a.1 a.2.size (by omega))
 have hl2:(offC a.1 a.2.size).text.size=0:=rfl
 have h1:SayI ch 1 p (sayP ch p):=.cons hg (by rw[e]) (by rw[e];exact⟨chk_off _ _ ha.id (by omega) (by omega),offC_ok _ _ (by omega),hup,by dsimp only;omega⟩) (.nil _)
 have hg2:=hg.say
 rw[e] at hg2
 refine⟨?_,hg2⟩
 have e2:sayP ch p={ p with snd:=⟨r,1,a,o,none⟩,bs:=upd p.bs 0 (p.bs 0++encT (offC a.1 a.2.size)) }:=by unfold sayP;rw[e]
 rw[← e2]
 exact h1
theorem say_nil {ch:Int} {s:Sn.St} (h:s.state=1∨s.state=3∨(s.state=0∧s.wait=[])):(Sn.sayS ch s).2.2=false:=by
 unfold Sn.sayS
 rcases h with h|h|⟨h,h2⟩
 ·rw[if_neg (by rw[h];decide),if_neg (by rw[h];decide)]
 ·rw[if_neg (by rw[h];decide),if_neg (by rw[h];decide)]
 ·rw[if_pos h,h2]
theorem say_rest {ch:Nat} {a:Sn.Art} (ha:ArtOk a) (hc:1≤ch) {fr:Nat} {P:List Cm} (h:Rest a.1 a.2 ch fr P):∀ {p:Ps} {r:List Sn.Art} {o:List Sn.Out},Sn.Good (ch:Int) p.snd→p.snd=⟨r,2,a,o,some ((fr:Int),false)⟩→p.c.up=true→(p.bs 0).length+(catC P).length≤1000000 →
  SayI (ch:Int) P.length p { p with snd:=⟨r,3,a,o,some ((a.2.size:Int),true)⟩,bs:=upd p.bs 0 (p.bs 0++catC P) }∧Sn.Good (ch:Int) ⟨r,3,a,o,some ((a.2.size:Int),true)⟩:=by
 have hm:=ha.most
 induction h with
 | last =>
  intro p r o hg hs hup hr
  have e:Sn.sayS (ch:Int) p.snd=(⟨r,3,a,o,some ((a.2.size:Int),true)⟩,donC a.1,true):=by
   rw[hs]
   unfold Sn.sayS
   rw[if_neg (show ¬ (2:Int)=0 by decide),if_pos rfl,if_pos (show Sn.sentS _=(a.2.size:Int) from rfl)]
   rfl
  have hg2:=hg.say
  rw[e] at hg2
  have hcat:catC [donC a.1]=encT (donC a.1):=by rw[catC_cons];exact List.append_nil _
  rw[hcat] at hr ⊢
  have h1:SayI (ch:Int) 1 p (sayP ch p):=.cons hg (by rw[e]) (by rw[e];exact⟨chk_done _ ha.id,donC_ok _,hup,by dsimp only;omega⟩) (.nil _)
  refine⟨?_,hg2⟩
  have e2:sayP (ch:Int) p={ p with snd:=⟨r,3,a,o,some ((a.2.size:Int),true)⟩,bs:=upd p.bs 0 (p.bs 0++encT (donC a.1)) }:=by unfold sayP;rw[e]
  rw[← e2]
  exact h1
 | @more fr P h1 h2 ih =>
  intro p r o hg hs hup hr
  obtain⟨nx,hnx⟩:∃ nx,min (fr+ch) a.2.size=nx:=⟨_,rfl⟩
  rw[hnx] at h2 ih hr ⊢
  have hmi:min ((fr:Int)+(ch:Int)) (a.2.size:Int)=(nx:Int):=by omega
  have e:Sn.sayS (ch:Int) p.snd=(⟨r,2,a,o,some ((nx:Int),false)⟩,datC a.1 fr (a.2.extract fr nx),true):=by
   rw[hs]
   unfold Sn.sayS
   rw[if_neg (show ¬ (2:Int)=0 by decide),if_pos rfl,if_neg (show ¬ Sn.sentS _=(a.2.size:Int) by show ¬ (fr:Int)=(a.2.size:Int);omega)]
   show ((⟨r,2,a,o,some (min ((fr:Int)+(ch:Int)) (a.2.size:Int),false)⟩:Sn.St),Sn.dataC a.1 a.2 (fr:Int) (min ((fr:Int)+(ch:Int)) (a.2.size:Int)),true)=_
   rw[hmi]
   rfl
  have hg2:=hg.say
  rw[e] at hg2
  have hq:=ext_size a.2 (a:=fr) (b:=nx) (by omega)
  rw[catC_cons,List.length_append] at hr
  have e2:sayP (ch:Int) p={ p with snd:=⟨r,2,a,o,some ((nx:Int),false)⟩,bs:=upd p.bs 0 (p.bs 0++encT (datC a.1 fr (a.2.extract fr nx))) }:=by unfold sayP;rw[e]
  obtain⟨h3,h4⟩:=ih (p:=sayP (ch:Int) p) (r:=r) (o:=o) (by rw[e2];exact hg2) (by rw[e2]) (by rw[e2];exact hup) (by rw[e2];dsimp only;rw[upd_same,List.length_append];omega)
  refine⟨.cons hg (by rw[e]) (by rw[e];exact⟨ha.datC (by omega) (by omega),datC_ok _ _ _ (by omega) (by omega),hup,by dsimp only;omega⟩) ?_,h4⟩
  have e3:({ sayP (ch:Int) p with snd:=⟨r,3,a,o,some ((a.2.size:Int),true)⟩,bs:=upd (sayP (ch:Int) p).bs 0 ((sayP (ch:Int) p).bs 0++catC P) }:Ps)={ p with snd:=⟨r,3,a,o,some ((a.2.size:Int),true)⟩,bs:=upd p.bs 0 (p.bs 0++catC (datC a.1 fr (a.2.extract fr nx) :: P)) }:=by
   rw[e2,catC_cons]
   dsimp only
   rw[upd_same,upd_upd,List.append_assoc]
  rw[← e3]
  exact h3
open Go.RowKit
section
variable {x : Id} {z : Int} {b : ByteArray} {st : Int}
theorem pos1 (x:Id) (z st:Int) (b:ByteArray):posL [(⟨x,z,st,b⟩:Pt)] x=some 0:=pos_hit (l:=[(⟨x,z,st,b⟩:Pt)]) (k:=0) Nat.zero_lt_one (fun j hj=>absurd hj (Nat.not_lt_zero _)) rfl
theorem pos0 (x:Id):posL [] x=none:=rfl
theorem wo1 (x:Id) (z st:Int) (b:ByteArray):withoutL [(⟨x,z,st,b⟩:Pt)] x=[]:=by
 unfold withoutL noId
 simp
theorem got1 (x:Id) (z st:Int) (b:ByteArray):gotL [(⟨x,z,st,b⟩:Pt)] x=(b.size:Int):=got_some (pos1 x z st b) Nat.zero_lt_one
end
def Kept (x:Id) (z:Int) (K:List Pt) (b:ByteArray):Prop:=(K=[]∧b=⟨#[]⟩)∨(K=[⟨x,z,4,b⟩]∧1≤b.size)
theorem Kept.got {x:Id} {z:Int} {K:List Pt} {b:ByteArray} (h:Kept x z K b):gotL K x=(b.size:Int)∧withoutL K x=[]∧(∀ k (hk:k<K.length),posL K x=some k→K[k].size=z)∧b=if 0<(b.size:Int) then (match posL K x with|some j=>(ptK K j).bytes|none=>⟨#[]⟩) else ⟨#[]⟩:=by
 rcases h with⟨rfl,rfl⟩|⟨rfl,h1⟩
 ·exact⟨rfl,rfl,fun k hk=>absurd hk (Nat.not_lt_zero _),by rw[if_neg (by rw[nm0];decide)]⟩
 ·refine⟨got1 _ _ _ _,wo1 _ _ _ _,fun k hk _=>?_,?_⟩
  ·obtain rfl:k=0:=by
    have h2:k<1:=hk
    omega
   rfl
  ·rw[if_pos (by omega),pos1]
   rfl
theorem hear_want {p:Ps} {x:Id} {z:Nat} {K:List Pt} {b:ByteArray} (hx:x≠zI) (h1:1≤z) (h2:z≤100) (hp:p.tkr=⟨2,true,[],K⟩) (hk:Kept x z K b) (hb:b.size≤z) (hg:hasG x p.got=false) (hl:p.got.length≤10) (hup:p.c.up=true) (hr:(p.bs 3).length≤1000) :
  HrR p (offC x z) { p with tkr:=⟨2,true,[⟨x,z,2,b⟩],[]⟩,bs:=upd p.bs 3 (p.bs 3++encT (wantC x b.size)) }:=by
 obtain⟨k1,k2,k3,k4⟩:=hk.got
 have e1:=hear_off (W:=2) (A:=[]) (K:=K) (x:=x) (z:=z) hx (by omega) (by omega) (pos0 x) (by decide) k3
 have e2:=answer_want (W:=2) (A:=[]) (K:=K) (x:=x) (z:=z) (o:=true) (f:=(b.size:Int)) (r:=b) hx (by omega) (by omega) (pos0 x) (Or.inr k1.symm) k4
 rw[k1] at e1
 rw[k2] at e2
 have hen:=enc_len (wantC x b.size) rfl (wantC_ok x _ (by omega))
 have hz:(wantC x b.size).text.size=0:=rfl
 refine⟨⟨2,true,[⟨x,z,1,⟨#[]⟩⟩],K⟩,[(x,(z:Int),(b.size:Int))],[],_,⟨by show (⟨#[]⟩:ByteArray).size≤_;rw[nm0];omega,by show (⟨#[]⟩:ByteArray).size≤_;rw[nm0];omega,by rw[hp];exact e1,Or.inl ⟨rfl,by first|exact (show (2:Int)≠8 by decide)|exact (show (7:Int)≠8 by decide)⟩,Or.inr ⟨_,rfl,by show p.got.length≤_;omega,_,_,?_,⟨chk_want _ _ hx (by omega) (by omega),wantC_ok x _ (by omega),hup,?_⟩,rfl⟩,Or.inl ⟨rfl,rfl⟩⟩⟩
 ·show answerT _ (ansC p.got _)=_
  unfold ansC
  dsimp only
  rw[if_neg (by rw[hg];decide)]
  exact e2
 ·dsimp only
  omega
theorem hear_have {p:Ps} {x:Id} {z:Nat} (hx:x≠zI) (h1:1≤z) (h2:z≤100) (hp:p.tkr=⟨2,true,[],[]⟩) (hg:hasG x p.got=true) (hl:p.got.length≤10) (hup:p.c.up=true) (hr:(p.bs 3).length≤1000) :
  HrR p (offC x z) { p with tkr:=⟨2,true,[],[]⟩,bs:=upd p.bs 3 (p.bs 3++encT (haveC x)) }:=by
 have e1:=hear_off (W:=2) (A:=[]) (K:=[]) (x:=x) (z:=z) hx (by omega) (by omega) (pos0 x) (by decide) (fun k hk=>absurd hk (Nat.not_lt_zero _))
 have hen:=enc_len (haveC x) rfl (plain_ok 4 x)
 have hz:(haveC x).text.size=0:=rfl
 refine⟨⟨2,true,[⟨x,z,1,⟨#[]⟩⟩],[]⟩,[(x,(z:Int),0)],[],_,⟨by show (⟨#[]⟩:ByteArray).size≤_;rw[nm0];omega,by show (⟨#[]⟩:ByteArray).size≤_;rw[nm0];omega,by rw[hp];exact e1,Or.inl ⟨rfl,by first|exact (show (2:Int)≠8 by decide)|exact (show (7:Int)≠8 by decide)⟩,Or.inr ⟨_,rfl,by show p.got.length≤_;omega,_,_,?_,⟨chk_have _ hx,plain_ok 4 x,hup,?_⟩,rfl⟩,Or.inl ⟨rfl,rfl⟩⟩⟩
 ·show answerT _ (ansC p.got _)=_
  unfold ansC
  dsimp only
  rw[if_pos hg]
  unfold answerT
  rw[if_neg (by rw[chk_have x hx];decide),if_neg (by show ¬ ((4:Int)<3∨(6:Int)<4);decide)]
  show (match posL [(⟨x,(z:Int),1,⟨#[]⟩⟩:Pt)] x with|none=>_|some k=>_)=_
  rw[pos1]
  show (if (1:Int)≠1 then _ else if (4:Int)=3∧_ then _ else if (4:Int)=3 then _ else if (4:Int)=5 then _ else ((⟨2,true,withoutL [(⟨x,(z:Int),1,⟨#[]⟩⟩:Pt)] x,withoutL [] x⟩:Tk),haveC x,(0:Int)))=_
  have n43:¬ (4:Int)=3:=by decide
  have n45:¬ (4:Int)=5:=by decide
  refine (if_neg (fun h=>absurd rfl h)).trans ?_
  refine (if_neg (fun h=>n43 h.1)).trans ?_
  refine (if_neg n43).trans ?_
  refine (if_neg n45).trans ?_
  rw[wo1]
  rfl
 ·dsimp only
  omega
theorem hear_dat {p:Ps} {a:Sn.Art} (ha:ArtOk a) {f n:Nat} (h1:f<n) (h2:n≤a.2.size) (hp:p.tkr=⟨2,true,[⟨a.1,a.2.size,2,a.2.extract 0 f⟩],[]⟩) :
  HrR p (datC a.1 f (a.2.extract f n)) { p with tkr:=⟨2,true,[⟨a.1,a.2.size,2,a.2.extract 0 n⟩],[]⟩ }:=by
 have hm:=ha.most
 have s1:=ext_size a.2 (a:=0) (b:=f) (by omega)
 have s2:=ext_size a.2 (a:=f) (b:=n) h2
 have e1:=hear_data (W:=2) (A:=[]) (K:=[]) (o:=true) (x:=a.1) (z:=(a.2.size:Int)) (f:=(f:Int)) (e:=a.2.extract 0 f) (t:=a.2.extract f n) rfl ha.id (pos0 _) (by omega) (by omega) (by omega) (ne_toList (by omega)) (by omega) (crL_nocr (nocr_ext ha.nocr f n))
 have e2:a.2.extract 0 f++a.2.extract f n=a.2.extract 0 n:=by
  apply ByteArray.ext
  rw[ByteArray.data_append,ByteArray.data_extract,ByteArray.data_extract,ByteArray.data_extract,Array.extract_append_extract,Nat.min_eq_left (Nat.zero_le _),Nat.max_eq_right (by omega)]
 rw[e2] at e1
 refine⟨⟨2,true,[⟨a.1,a.2.size,2,a.2.extract 0 n⟩],[]⟩,[],[],_,⟨by show (⟨#[]⟩:ByteArray).size≤_;rw[nm0];omega,by show (a.2.extract f n).size≤_;omega,by rw[hp];exact e1,Or.inl ⟨rfl,by first|exact (show (2:Int)≠8 by decide)|exact (show (7:Int)≠8 by decide)⟩,Or.inl ⟨rfl,rfl⟩,Or.inl ⟨rfl,rfl⟩⟩⟩
theorem hear_don {p:Ps} {a:Sn.Art} (ha:ArtOk a) (hp:p.tkr=⟨2,true,[⟨a.1,a.2.size,2,a.2⟩],[]⟩) (hl:p.got.length≤10) (hup:p.c.up=true) (hr:(p.bs 3).length≤1000) :
  HrR p (donC a.1) { p with tkr:=⟨2,true,[],[]⟩,got:=p.got++[a],bs:=upd p.bs 3 (p.bs 3++encT (gotC a.1)) }:=by
 have hrc:rcvL [(⟨a.1,a.2.size,2,a.2⟩:Pt)] a.1=some 0:=rcv_yes (pos1 _ _ _ _) Nat.zero_lt_one rfl
 have hd:doneT ⟨2,true,[(⟨a.1,a.2.size,2,a.2⟩:Pt)],[]⟩ (donC a.1)=(⟨2,true,[⟨a.1,a.2.size,3,a.2⟩],[]⟩,[a],0):=by
  unfold doneT
  show (match rcvL [(⟨a.1,(a.2.size:Int),2,a.2⟩:Pt)] a.1 with|none=>_|some k=>_)=_
  rw[hrc]
  show (if (a.2.size:Int)<(a.2.size:Int) then _ else _)=_
  rw[if_neg (by omega)]
  rfl
 have hf:DoneFull p.tkr (donC a.1):=by
  rw[hp]
  exact⟨rfl,chk_done _ ha.id,rfl,0,hrc,by show ¬ (a.2.size:Int)<(a.2.size:Int);omega⟩
 have e1:=hf.hear
 rw[hp,hd] at e1
 have hen:=enc_len (gotC a.1) rfl (plain_ok 9 a.1)
 have hz:(gotC a.1).text.size=0:=rfl
 refine⟨⟨2,true,[⟨a.1,a.2.size,3,a.2⟩],[]⟩,[],[a],{ p with tkr:=⟨2,true,[⟨a.1,a.2.size,3,a.2⟩],[]⟩ },⟨by show (⟨#[]⟩:ByteArray).size≤_;rw[nm0];omega,by show (⟨#[]⟩:ByteArray).size≤_;rw[nm0];omega,by rw[hp];exact e1,Or.inr hf,Or.inl ⟨rfl,rfl⟩,Or.inr ⟨a,rfl,by show p.got.length≤_;omega,⟨2,true,[],[]⟩,gotC a.1,?_,⟨chk_got _ ha.id,plain_ok 9 _,hup,?_⟩,rfl⟩⟩⟩
 ·unfold acceptedT
  rw[if_neg (by decide)]
  show (match posL [(⟨a.1,(a.2.size:Int),3,a.2⟩:Pt)] a.1 with|none=>_|some k=>_)=_
  rw[pos1]
  show (if (3:Int)≠3 then _ else ((⟨2,true,withoutL [(⟨a.1,(a.2.size:Int),3,a.2⟩:Pt)] a.1,[]⟩:Tk),sayA a.1 0,(0:Int)))=_
  rw[if_neg (by decide),wo1]
  rfl
 ·dsimp only
  omega
open Go.RowKit
theorem ext_all (t:ByteArray):t.extract 0 t.size=t:=by
 apply ByteArray.ext
 rw[ByteArray.data_extract]
 show t.data.extract 0 t.data.size=t.data
 simp
theorem hear_rest {a:Sn.Art} (ha:ArtOk a) {ch fr:Nat} {P:List Cm} (h:Rest a.1 a.2 ch fr P) (hc:1≤ch):∀ {cs pend:List Cm} {p:Ps},P=cs++pend→p.tkr=⟨2,true,[⟨a.1,a.2.size,2,a.2.extract 0 fr⟩],[]⟩→p.got.length≤10→p.c.up=true→(p.bs 3).length≤1000 →
  (pend≠[]→∃ n,n≤a.2.size∧Rest a.1 a.2 ch n pend∧HrI p cs { p with tkr:=⟨2,true,[⟨a.1,a.2.size,2,a.2.extract 0 n⟩],[]⟩ }) ∧
  (pend=[]→HrI p cs { p with tkr:=⟨2,true,[],[]⟩,got:=p.got++[a],bs:=upd p.bs 3 (p.bs 3++encT (gotC a.1)) }):=by
 induction h with
 | last =>
  intro cs pend p e hp hl hup hr
  rw[ext_all] at hp
  cases cs with
  | nil =>
   refine⟨fun _=>⟨a.2.size,Nat.le_refl _,by rw[← show [donC a.1]=pend from e];exact .last,?_⟩,fun h2=>by rw[h2] at e;cases e⟩
   rw[ext_all,← hp]
   exact .nil _
  | cons c cs =>
   obtain⟨e1,e2⟩:=List.cons.inj e
   obtain⟨rfl,rfl⟩:=List.append_eq_nil_iff.1 e2.symm
   subst e1
   exact⟨fun h2=>absurd rfl h2,fun _=>.cons (hear_don ha hp hl hup hr) (.nil _)⟩
 | @more fr P h1 h2 ih =>
  intro cs pend p e hp hl hup hr
  cases cs with
  | nil =>
   refine⟨fun _=>⟨fr,by omega,by rw[← show _=pend from e];exact .more h1 h2,?_⟩,fun h3=>by rw[h3] at e;cases e⟩
   rw[← hp]
   exact .nil _
  | cons c cs =>
   obtain⟨e1,e2⟩:=List.cons.inj e
   subst e1
   have hd:=hear_dat (p:=p) ha (f:=fr) (n:=min (fr+ch) a.2.size) (by omega) (Nat.min_le_right _ _) hp
   obtain⟨i1,i2⟩:=ih (cs:=cs) (pend:=pend) (p:={ p with tkr:=⟨2,true,[⟨a.1,a.2.size,2,a.2.extract 0 (min (fr+ch) a.2.size)⟩],[]⟩ }) e2 rfl hl hup hr
   refine⟨fun h3=>?_,fun h3=>.cons hd (i2 h3)⟩
   obtain⟨n,n1,n2,n3⟩:=i1 h3
   exact⟨n,n1,n2,.cons hd n3⟩
section
variable {ch : Int} {p : Ps} {a : Sn.Art} {r : List Sn.Art} {o : List Sn.Out}
theorem left_want (ha:ArtOk a) (hg:Sn.Good ch p.snd) (hs:p.snd=⟨r,1,a,o,none⟩) (ho:o.length≤10) {b:Nat} (hb:b≤a.2.size) :
  HlR ch p (wantC a.1 b) { p with snd:=⟨r,2,a,o,some ((b:Int),false)⟩ }∧Sn.Good ch ⟨r,2,a,o,some ((b:Int),false)⟩:=by
 have hm:=ha.most
 have e:Sn.hearS p.snd (wantC a.1 b)=(⟨r,2,a,o,some ((b:Int),false)⟩,0):=by
  rw[hs]
  unfold Sn.hearS
  refine (if_neg (by rw[chk_want _ _ ha.id (by omega) (by omega)];exact fun h=>h rfl)).trans ?_
  refine (if_neg (fun h=>h (Or.inl rfl))).trans ?_
  refine (if_neg (fun h=>h.elim (fun h=>absurd h (show ¬ (1:Int)=0 by decide)) (fun h=>h rfl))).trans ?_
  refine (if_pos (show Sn.effS _ 3=1 from rfl)).trans ?_
  exact if_pos (show ((b:Nat):Int)≤(a.2.size:Int) by omega)
 have h2:=hg.hear (wantC a.1 b)
 rw[e] at h2
 exact⟨⟨rfl,by rw[hs];show o.length≤_;omega,hg,by rw[e],⟨chk_want _ _ ha.id (by omega) (by omega),by rw[hs];exact rfl,Or.inl ⟨by rw[hs],rfl,by rw[hs];show ((b:Nat):Int)≤(a.2.size:Int);omega⟩⟩,by rw[e]⟩,h2⟩
theorem left_have (ha:ArtOk a) (hg:Sn.Good ch p.snd) (hs:p.snd=⟨r,1,a,o,none⟩) (ho:o.length≤10) :
  HlR ch p (haveC a.1) { p with snd:=⟨r,0,Sn.zA,o++[(a.1,1,0)],none⟩ }∧Sn.Good ch ⟨r,0,Sn.zA,o++[(a.1,1,0)],none⟩:=by
 have e:Sn.hearS p.snd (haveC a.1)=(⟨r,0,Sn.zA,o++[(a.1,1,0)],none⟩,0):=by
  rw[hs]
  unfold Sn.hearS
  refine (if_neg (by rw[chk_have _ ha.id];exact fun h=>h rfl)).trans ?_
  refine (if_neg (fun h=>h (Or.inr (Or.inl rfl)))).trans ?_
  refine (if_neg (fun h=>h.elim (fun h=>absurd h (show ¬ (1:Int)=0 by decide)) (fun h=>h rfl))).trans ?_
  refine (if_neg (fun h=>absurd (show (3:Int)=1 from h) (by decide))).trans ?_
  refine (if_neg (fun h=>absurd (show (3:Int)=2 from h) (by decide))).trans ?_
  exact if_pos (show Sn.effS _ 4=3 from rfl)
 have h2:=hg.hear (haveC a.1)
 rw[e] at h2
 exact⟨⟨rfl,by rw[hs];show o.length≤_;omega,hg,by rw[e],⟨chk_have _ ha.id,by rw[hs];exact rfl,Or.inr (Or.inl ⟨by rw[hs],rfl⟩)⟩,by rw[e]⟩,h2⟩
theorem left_got (ha:ArtOk a) (hg:Sn.Good ch p.snd) (hs:p.snd=⟨r,3,a,o,some ((a.2.size:Int),true)⟩) (ho:o.length≤10) :
  HlR ch p (gotC a.1) { p with snd:=⟨r,0,Sn.zA,o++[(a.1,0,0)],none⟩ }∧Sn.Good ch ⟨r,0,Sn.zA,o++[(a.1,0,0)],none⟩:=by
 have e:Sn.hearS p.snd (gotC a.1)=(⟨r,0,Sn.zA,o++[(a.1,0,0)],none⟩,0):=by
  rw[hs]
  unfold Sn.hearS
  refine (if_neg (by rw[chk_got _ ha.id];exact fun h=>h rfl)).trans ?_
  refine (if_neg (fun h=>h (Or.inr (Or.inr (Or.inr (Or.inr rfl)))))).trans ?_
  refine (if_neg (fun h=>h.elim (fun h=>absurd h (show ¬ (3:Int)=0 by decide)) (fun h=>h rfl))).trans ?_
  refine (if_neg (fun h=>absurd (show (2:Int)=1 from h) (by decide))).trans ?_
  exact if_pos (show Sn.effS _ 9=2 from rfl)
 have h2:=hg.hear (gotC a.1)
 rw[e] at h2
 exact⟨⟨rfl,by rw[hs];show o.length≤_;omega,hg,by rw[e],⟨chk_got _ ha.id,by rw[hs];exact rfl,Or.inr (Or.inr ⟨by rw[hs],rfl⟩)⟩,by rw[e]⟩,h2⟩
end
open Go.RowKit
structure PaOk (arts:List Sn.Art) (r dl ch:Nat):Prop where
 r1:100≤r
 r2:r≤1000
 d2:dl≤2
 c1:20≤ch
 c2:ch≤1000
 n3:arts.length≤3
 ok:∀ a∈arts,ArtOk a
 dis:∀ i j (hi:i<arts.length) (hj:j<arts.length),arts[i].1=arts[j].1→i=j
structure Com (r dl ch i:Nat) (p:Ps):Prop where
 up:p.c.up=true
 rate:p.c.cf.rate=(r:Int)
 delay:p.c.cf.delay=(dl:Int)
 period:p.c.cf.period=10
 now:p.c.now=(i:Int)
 sess:∃ s:Nat,p.c.sess=(s:Int)∧1≤s∧s≤i+1
 good:Sn.Good (ch:Int) p.snd
 ob:∀ k,k≠0→k≠2→k≠3→k≠5→p.bs k=[]
 ow:∀ k,k≠1→k≠4→p.wy k=[]
 wl:∀ k,(p.wy k).length≤i
 ne:∀ k,∀ x∈p.wy k,x.1≠[]
 sr:(strR p).length≤2000
 sl:(strL p).length≤2000
theorem flatW_len (u:List (List UInt8×Nat)):(flatW u).length=(u.map (·.1.length)).sum:=by
 induction u with
 | nil=>rfl
 | cons q u ih =>
  show (q.1++flatW u).length=_
  rw[List.length_append,ih]
  rfl
theorem strR_len (p:Ps):(strR p).length=(bl p.wr).length+(p.bs 5).length+(flatW (p.wy 1)).length+(p.bs 0).length:=by
 unfold strR
 rw[List.length_append,List.length_append,List.length_append]
theorem strL_len (p:Ps):(strL p).length=(bl p.wl).length+(p.bs 2).length+(flatW (p.wy 4)).length+(p.bs 3).length:=by
 unfold strL
 rw[List.length_append,List.length_append,List.length_append]
theorem Com.few {r dl ch i:Nat} {p:Ps} (h:Com r dl ch i p) (hi:i≤1000):FlB 10000000 (p.bs,p.wy):=by
 have h1:=strR_len p
 have h2:=strL_len p
 have h3:=h.sr
 have h4:=h.sl
 refine⟨fun k=>?_,fun k=>?_,fun k=>?_⟩
 ·show (p.bs k).length≤_
  by_cases k0:k=0
  ·subst k0;omega
  by_cases k2:k=2
  ·subst k2;omega
  by_cases k3:k=3
  ·subst k3;omega
  by_cases k5:k=5
  ·subst k5;omega
  rw[h.ob k k0 k2 k3 k5]
  exact Nat.zero_le _
 ·show (p.wy k).length≤_
  have:=h.wl k
  omega
 ·show ((p.wy k).map (·.1.length)).sum≤_
  rw[← flatW_len]
  by_cases k1:k=1
  ·subst k1;omega
  by_cases k4:k=4
  ·subst k4;omega
  rw[h.ow k k1 k4]
  exact Nat.zero_le _
theorem Com.upOk {r dl ch i:Nat} {p:Ps} (h:Com r dl ch i p) (hi:i≤1000) (hr:r≤1000) (hd:dl≤2):UpOk p r dl i:=⟨h.up,h.rate,h.delay,h.now,h.period,by omega,by omega,by omega,h.few hi⟩
theorem passed_b (r t dl:Nat) (b:Nat→List UInt8) (w:Nat→List (List UInt8×Nat)) (k:Nat) (h0:k≠0) (h2:k≠2) (h3:k≠3) (h5:k≠5):(arrN (t+1) 2 (packN r (t+1+dl) 2 (b,w))).1 k=b k:=by
 have e:packN r (t+1+dl) 2 (b,w)=packK r (t+1+dl) 3 (packK r (t+1+dl) 0 (b,w)):=rfl
 have e2:∀ s,arrN (t+1) 2 s=arrK (t+1) 4 2 (arrK (t+1) 1 5 s):=fun _=>rfl
 rw[e2,e,packK_0,packK_0]
 simp[arrK,upd,h0,h2,h3,h5]
theorem passed_w (r t dl:Nat) (b:Nat→List UInt8) (w:Nat→List (List UInt8×Nat)) (k:Nat) (h1:k≠1) (h4:k≠4):(arrN (t+1) 2 (packN r (t+1+dl) 2 (b,w))).2 k=w k:=by
 have e:packN r (t+1+dl) 2 (b,w)=packK r (t+1+dl) 3 (packK r (t+1+dl) 0 (b,w)):=rfl
 have e2:∀ s,arrN (t+1) 2 s=arrK (t+1) 4 2 (arrK (t+1) 1 5 s):=fun _=>rfl
 rw[e2,e,packK_0,packK_0]
 simp[arrK,upd,h1,h4]
theorem pkW_len (r t:Nat) (q:List UInt8):(pkW r t q).length≤1:=by
 unfold pkW
 split
 ·exact Nat.zero_le _
 ·exact Nat.le_refl _
theorem pk_ne {r t:Nat} {q:List UInt8} (hr:1≤r):∀ x∈pkW r t q,x.1≠[]:=by
 intro x hx
 unfold pkW at hx
 split at hx
 ·cases hx
 ·rename_i hne
  rw[List.mem_singleton.1 hx]
  intro h
  rcases List.take_eq_nil_iff.1 h with h1|h1
  ·omega
  ·exact hne h1
theorem Com.pass {r dl ch i:Nat} {p:Ps} (h:Com r dl ch i p) (hr:1≤r):Com r dl ch (i+1) (upP r dl i p):=by
 have hp:=passed r i dl p.bs p.wy
 refine⟨h.up,h.rate,h.delay,h.period,rfl,?_,h.good,fun k h0 h2 h3 h5=>?_,fun k h1 h4=>?_,fun k=>?_,fun k x hx=>?_,by rw[strR_up];exact h.sr,by rw[strL_up];exact h.sl⟩
 ·obtain⟨s,h1,h2,h3⟩:=h.sess
  exact⟨s,h1,h2,by omega⟩
 ·exact (passed_b r i dl p.bs p.wy k h0 h2 h3 h5).trans (h.ob k h0 h2 h3 h5)
 ·exact (passed_w r i dl p.bs p.wy k h1 h4).trans (h.ow k h1 h4)
 ·show ((arrN (i+1) 2 (packN r (i+1+dl) 2 (p.bs,p.wy))).2 k).length≤_
  by_cases k1:k=1
  ·subst k1
   rw[hp.w1]
   have h1:=(dlv_le (i+1) (p.wy 1++pkW r (i+1+dl) (p.bs 0))).2.1
   rw[List.length_append] at h1
   have h2:=pkW_len r (i+1+dl) (p.bs 0)
   have h3:=h.wl 1
   omega
  by_cases k4:k=4
  ·subst k4
   rw[hp.w4]
   have h1:=(dlv_le (i+1) (p.wy 4++pkW r (i+1+dl) (p.bs 3))).2.1
   rw[List.length_append] at h1
   have h2:=pkW_len r (i+1+dl) (p.bs 3)
   have h3:=h.wl 4
   omega
  rw[passed_w r i dl p.bs p.wy k k1 k4,h.ow k k1 k4]
  exact Nat.zero_le _
 ·have hx:x∈(arrN (i+1) 2 (packN r (i+1+dl) 2 (p.bs,p.wy))).2 k:=hx
  by_cases k1:k=1
  ·subst k1
   rw[hp.w1] at hx
   rcases List.mem_append.1 (dlv_mem _ _ x hx) with h1|h1
   ·exact h.ne 1 x h1
   ·exact pk_ne hr x h1
  by_cases k4:k=4
  ·subst k4
   rw[hp.w4] at hx
   rcases List.mem_append.1 (dlv_mem _ _ x hx) with h1|h1
   ·exact h.ne 4 x h1
   ·exact pk_ne hr x h1
  rw[passed_w r i dl p.bs p.wy k k1 k4] at hx
  exact h.ne k x hx
def OutsOk (arts:List Sn.Art) (h:Nat) (o:List Sn.Out):Prop:=o.length=h∧∀ j (hj:j<o.length),∃ a,arts[j]? = some a∧o[j].1=a.1∧(o[j].2.1=0∨o[j].2.1=1)
def KeptG (a:Sn.Art) (h g:Nat) (K:List Pt) (b:ByteArray):Prop:=(g=h∧Kept a.1 a.2.size K b∧b=a.2.extract 0 b.size∧b.size≤a.2.size)∨(g=h+1∧K=[])
inductive Body (arts:List Sn.Art) (ch:Nat) (h g:Nat) (o:List Sn.Out):List UInt8→List UInt8→Tk→Sn.St→Nat→Prop
 | idle {K:List Pt}:h=arts.length→g=h→K=[]→Body arts ch h g o [] [] ⟨2,true,[],K⟩ ⟨[],0,Sn.zA,o,none⟩ 0
 | offered {a:Sn.Art} {K:List Pt} {b:ByteArray}:arts[h]? = some a→KeptG a h g K b→Body arts ch h g o (encT (offC a.1 a.2.size)) [] ⟨2,true,[],K⟩ ⟨arts.drop (h+1),1,a,o,none⟩ (30+34 * (arts.length - h - 1))
 | wanting {a:Sn.Art} {b:Nat}:arts[h]? = some a→g=h→b≤a.2.size→Body arts ch h g o [] (encT (wantC a.1 b)) ⟨2,true,[⟨a.1,a.2.size,2,a.2.extract 0 b⟩],[]⟩ ⟨arts.drop (h+1),1,a,o,none⟩ (26+34 * (arts.length - h - 1))
 | having {a:Sn.Art}:arts[h]? = some a→g=h+1→Body arts ch h g o [] (encT (haveC a.1)) ⟨2,true,[],[]⟩ ⟨arts.drop (h+1),1,a,o,none⟩ (26+34 * (arts.length - h - 1))
 | sending {a:Sn.Art} {b:Nat} {P:List Cm}:arts[h]? = some a→g=h→b≤a.2.size→Rest a.1 a.2 ch b P→Body arts ch h g o (catC P) [] ⟨2,true,[⟨a.1,a.2.size,2,a.2.extract 0 b⟩],[]⟩ ⟨arts.drop (h+1),3,a,o,some ((a.2.size:Int),true)⟩ (4+34 * (arts.length - h - 1))
 | gotten {a:Sn.Art}:arts[h]? = some a→g=h+1→Body arts ch h g o [] (encT (gotC a.1)) ⟨2,true,[],[]⟩ ⟨arts.drop (h+1),3,a,o,some ((a.2.size:Int),true)⟩ (34 * (arts.length - h - 1))
structure Ph' (arts:List Sn.Art) (r dl ch:Nat) (e i:Nat) (p:Ps) (h g T rem:Nat) (o:List Sn.Out):Prop where
 num:p.num=p.c.sess
 got:p.got=arts.take g
 outs:OutsOk arts h o
 body:Body arts ch h g o (strR p) (strL p) p.tkr p.snd rem
 lim:h<arts.length→i+e≤T∧T+rem≤200
 fr:Flow r dl i (p.bs 0) (p.wy 1) T
 fl:Flow r dl i (p.bs 3) (p.wy 4) T
def Ph (arts:List Sn.Art) (r dl ch:Nat) (e i:Nat) (p:Ps):Prop:=∃ h g T rem o,Ph' arts r dl ch e i p h g T rem o
theorem Ph.pass {arts:List Sn.Art} {r dl ch i:Nat} {p:Ps} (h:Ph arts r dl ch 1 i p) (hr:1≤r):Ph arts r dl ch 0 (i+1) (upP r dl i p):=by
 obtain⟨h,g,T,rem,o,hh⟩:=h
 have hp:=passed r i dl p.bs p.wy
 refine⟨h,g,T,rem,o,hh.num,hh.got,hh.outs,by rw[strR_up,strL_up];exact hh.body,hh.lim,?_,?_⟩
 ·have:=hh.fr.step hr
  rw[← hp.b0,← hp.w1] at this
  exact this
 ·have:=hh.fl.step hr
  rw[← hp.b3,← hp.w4] at this
  exact this
end Go.Proofs.YtdkjgcfhepplbaaGreatDoor
