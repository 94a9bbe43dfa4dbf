/- A region that draws its order, walked operation by operation: each operation is shown once, under what its own forerunners give, in every world that extends the first; the region then goes through in whatever order. -/
import Derived.Test.YtgojaelkdpabkaaGreatDoorMBase
import Derived.Orders
namespace Go.Proofs.YtgojaelkdpabkaaGreatDoor
open Go.RowKit
namespace AnyO
variable {P : Program} {ops : Array Oper}

def dst (ops:Array Oper) (i:Nat):Option Tmp:=(ops[i]?).bind (·.dst)
def pre (ops:Array Oper) (i:Nat):List Nat :=
 match ops[i]? with
 | some o=>o.after.toList.filterMap fun e=>if Region.binds .any e then some e.on else none
 | none=>[]
def puts (ops:Array Oper) (vs:Nat→Value) (l:List Nat) (a:Act):Act:=l.foldl (fun a i=>a.put (dst ops i) (vs i)) a
def ok (ops:Array Oper):Bool :=
 (List.range ops.size).all fun i =>
  ((pre ops i).all fun j=>decide (j<i)) &&
  ((List.range ops.size).all fun j=>j==i || (match dst ops i,dst ops j with|some d,some e=>d != e|_,_=>true)) &&
  (match ops[i]? with
   | some o=>(match o.op with|.select .. => false|.defer _=>false|_=>true) && (o.looksAt ops).all fun t=>(List.range ops.size).all fun j=>(match dst ops j with|some e=>e != t|none=>true) || (pre ops i).contains j || (pre ops j).contains i
   | none=>true)

theorem put_size (a:Act) (d:Option Tmp) (v:Value):(a.put d v).tmps.size=a.tmps.size:=by cases d <;> simp[Act.put]
theorem put_defers (a:Act) (d:Option Tmp) (v:Value):(a.put d v).defers=a.defers:=by cases d <;> simp[Act.put]
theorem put_get_ne (a:Act) (d:Option Tmp) (v:Value) (s:Nat) (h:d≠some s):(a.put d v).tmps[s]? = a.tmps[s]?:=by
 cases d with
 | none=>rfl
 | some d=>simp[Act.put,Array.getElem?_setIfInBounds_ne (show d≠s from fun e=>h (by rw[e]))]
theorem put_get_eq (a:Act) (v:Value) (s:Nat) (h:s<a.tmps.size):(a.put (some s) v).tmps[s]? = some v:=by
 simp[Act.put,h]
theorem puts_cons (vs:Nat→Value) (i:Nat) (l:List Nat) (a:Act):puts ops vs (i :: l) a=puts ops vs l (a.put (dst ops i) (vs i)):=rfl
theorem puts_snoc (vs:Nat→Value) (i:Nat) (l:List Nat) (a:Act):puts ops vs (l++[i]) a=(puts ops vs l a).put (dst ops i) (vs i):=by
 unfold puts;rw[List.foldl_append];rfl
theorem puts_size (vs:Nat→Value):∀ (l:List Nat) (a:Act),(puts ops vs l a).tmps.size=a.tmps.size
 | [],_=>rfl
 | i :: l,a=>by rw[puts_cons,puts_size vs l,put_size]
theorem puts_defers (vs:Nat→Value):∀ (l:List Nat) (a:Act),(puts ops vs l a).defers=a.defers
 | [],_=>rfl
 | i :: l,a=>by rw[puts_cons,puts_defers vs l,put_defers]
theorem puts_none (vs:Nat→Value) (s:Nat):∀ (l:List Nat) (a:Act),(∀ i∈l,dst ops i≠some s)→(puts ops vs l a).tmps[s]? = a.tmps[s]?
 | [],_,_=>rfl
 | i :: l,a,h=>by
  rw[puts_cons,puts_none vs s l _ (fun j hj=>h j (List.mem_cons_of_mem _ hj)),put_get_ne _ _ _ _ (h i (List.mem_cons_self ..))]
theorem puts_some (vs:Nat→Value) (s i:Nat) (hd:dst ops i=some s):∀ (l:List Nat) (a:Act),s<a.tmps.size→i∈l→(∀ j∈l,dst ops j=some s→j=i)→(puts ops vs l a).tmps[s]? = some (vs i)
 | [],_,_,h,_=>by cases h
 | j :: l,a,hs,h,hu=>by
  rw[puts_cons]
  by_cases hil:i∈l
  ·exact puts_some vs s i hd l _ (by rw[put_size];exact hs) hil (fun k hk=>hu k (List.mem_cons_of_mem _ hk))
  ·have hji:j=i:=by
    rcases List.mem_cons.1 h with h|h
    ·exact h.symm
    ·exact absurd h hil
   subst hji
   rw[puts_none vs s l _ (fun k hk e=>hil (by have:=hu k (List.mem_cons_of_mem _ hk) e;subst this;exact hk)),hd]
   exact put_get_eq _ _ _ hs
theorem act_ext {a b:Act} (h1:a.tmps.size=b.tmps.size) (h2:a.defers=b.defers) (h:∀ s:Nat,s<a.tmps.size→a.tmps[s]? = b.tmps[s]?):a=b:=by
 cases a with|mk ta da =>
 cases b with|mk tb db =>
 simp only at h1 h2 h
 subst h2
 congr 1
 apply Array.ext h1
 intro i hi hj
 have:=h i hi
 rw[Array.getElem?_eq_getElem hi,Array.getElem?_eq_getElem hj] at this
 exact Option.some.inj this

def Once (ops:Array Oper):Prop:=∀ i j s,dst ops i=some s→dst ops j=some s→i=j
theorem puts_same (ho:Once ops) (vs vs':Nat→Value) (l l':List Nat) (a:Act) (hl:∀ i,i∈l↔i∈l') (hv:∀ i∈l,vs i=vs' i):puts ops vs l a=puts ops vs' l' a:=by
 refine act_ext (by rw[puts_size,puts_size]) (by rw[puts_defers,puts_defers]) fun s hs=>?_
 rw[puts_size] at hs
 by_cases h:∃ i,i∈l∧dst ops i=some s
 ·obtain⟨i,hi,hd⟩:=h
  rw[puts_some vs s i hd l a hs hi (fun j _ hj=>ho j i s hj hd),puts_some vs' s i hd l' a hs ((hl i).1 hi) (fun j _ hj=>ho j i s hj hd),hv i hi]
 ·have h1:∀ i∈l,dst ops i≠some s:=fun i hi e=>h ⟨i,hi,e⟩
  rw[puts_none vs s l a h1,puts_none vs' s l' a (fun i hi=>h1 i ((hl i).2 hi))]

theorem wp_frame {o:Oper} {a b:Act} {w:World} {R:Value→World→Prop} (he:execOp b.eval o=execOp a.eval o) (hs:a.tmps.size=b.tmps.size) (Q:Exit→Act→World→Prop)
  (h:o.wp P a w (fun a' w'=>∃ v,a'=a.put o.dst v∧R v w') (fun _ _ _=>False)):o.wp P b w (fun a' w'=>∃ v,a'=b.put o.dst v∧R v w') Q:=by
 have key:∀ v w',(∃ u,a.put o.dst v=a.put o.dst u∧R u w')→∃ u,b.put o.dst v=b.put o.dst u∧R u w':=by
  rintro v w' ⟨u,hu,hr⟩
  cases hd:o.dst with
  | none=>exact⟨u,rfl,hr⟩
  | some d =>
   refine⟨u,?_,hr⟩
   rw[hd] at hu
   by_cases hlt:d<a.tmps.size
   ·have h1:=put_get_eq a v d hlt
    rw[hu,put_get_eq a u d hlt] at h1
    rw[Option.some.inj h1]
   ·have hb:¬ d<b.tmps.size:=fun h=>hlt (hs▸h)
    simp[Act.put,Array.setIfInBounds,hb]
 unfold Oper.wp at *
 rw[he]
 generalize (execOp a.eval o).run P w=r at *
 cases r with
 | ok n w' =>
  cases n with
  | value v=>exact key v w' h
  | skip=>exact key undef w' h
  | defer d =>
   obtain⟨u,hu,_⟩:=h
   have:=congrArg Act.defers hu
   rw[put_defers,put_defers] at this
   exact absurd this (by simp)
  | enter f args =>
   refine Calls.mono h fun e w'' hh=>?_
   cases e with
   | returned v=>exact key v w'' hh
   | panicked c=>exact hh.elim
   | outgrown=>obtain⟨_,_,hf⟩:=hh;exact hf.elim
  | row row args=>exact Rows.mono h fun v w'' hh=>key v w'' hh
  | _=>exact h.elim
 | halt x w' =>
  cases x with
  | panic v=>exact h.elim
  | _=>exact h.elim

variable {Q : Exit → Act → World → Prop}

def Step (P:Program) (ops:Array Oper) (Post:Nat→Value→World→Prop) (a0:Act) (w0:World) (i:Nat):Prop :=
 ∀ o,ops[i]? = some o→∀ (vs:Nat→Value) (w:World),Below w0.heap.size w0 w→(∀ j∈pre ops i,Post j (vs j) w) →
  ∀ K:Act→World→Prop,(∀ v w',Below w.heap.size w w'→Post i v w'→K ((puts ops vs (pre ops i) a0).put o.dst v) w') →
   if Region.wanted o (yielded ops (puts ops vs (pre ops i) a0).tmps)=true then o.wp P (puts ops vs (pre ops i) a0) w K (fun _ _ _=>False) else K ((puts ops vs (pre ops i) a0).put o.dst undef) w

theorem Step.mk {Post:Nat→Value→World→Prop} {a0:Act} {w0:World} {i:Nat} {o:Oper} (ho:ops[i]? = some o) (l:List Nat) (hl:pre ops i=l)
  (h:∀ (vs:Nat→Value) (w:World),Below w0.heap.size w0 w→(∀ j∈l,Post j (vs j) w)→∀ b:Act,b=puts ops vs l a0 →
   ∀ K:Act→World→Prop,(∀ v w',Below w.heap.size w w'→Post i v w'→K (b.put o.dst v) w') →
    if Region.wanted o (yielded ops b.tmps)=true then o.wp P b w K (fun _ _ _=>False) else K (b.put o.dst undef) w):Step P ops Post a0 w0 i:=by
 subst hl
 intro o' ho' vs w hE hp K hK
 rw[ho] at ho'
 injection ho' with ho'
 subst ho'
 exact h vs w hE hp _ rfl K hK
theorem slot {a b:Act} (k:Nat) {x v:Value} (hb:a=b) (h:b.tmps[k]?.getD undef=x) (hx:x=v):a.tmps[k]?.getD undef=v:=by rw[hb,h,hx]
theorem wanted_none {o:Oper} {y:Nat→Option Bool} (h:o.guard=none):Region.wanted o y=true:=by simp[Region.wanted,h]
theorem sz {ops:Array Oper} {vs:Nat→Value} {l:List Nat} {a0 b:Act} {v:Value} (k:Nat) (hb:Hid (b=puts ops vs l a0)) (h:(puts ops vs l a0).tmps[k]?.getD undef=v:=by kernel_rfl):b.tmps[k]?.getD undef=v:=by rw[hb.out,h]
theorem sw {ops:Array Oper} {vs:Nat→Value} {l:List Nat} {a0 b:Act} {Post:Nat→Value→World→Prop} {u:World} (k j:Nat) (hb:Hid (b=puts ops vs l a0)) (hp:Hid (∀ j∈l,Post j (vs j) u)) (hm:j∈l:=by decide +kernel) (h:(puts ops vs l a0).tmps[k]?.getD undef=vs j:=by kernel_rfl):Post j (b.tmps[k]?.getD undef) u:=by
 rw[hb.out,h]
 exact hp.out j hm
theorem sv {ops:Array Oper} {vs:Nat→Value} {l:List Nat} {a0 b:Act} {D:Nat→Bool} {PV:Nat→Value→Prop} {X:Prop} (k j:Nat) (hb:Hid (b=puts ops vs l a0)) (hp:Hid (∀ j∈l,D j=true)) (Q:Hid ((∀ j,D j=true→PV j (vs j))∧X)) (hm:j∈l:=by decide +kernel) (h:(puts ops vs l a0).tmps[k]?.getD undef=vs j:=by kernel_rfl):PV j (b.tmps[k]?.getD undef):=by
 rw[hb.out,h]
 exact Q.out.1 j (hp.out j hm)
theorem sl {a b:Act} (k:Nat) {x v:Value} (hb:Hid (a=b)) (hx:x=v) (h:b.tmps[k]?.getD undef=x:=by kernel_rfl):a.tmps[k]?.getD undef=v:=by rw[hb.out,h,hx]
theorem S {Post:Nat→Value→World→Prop} {a0:Act} {w0:World} {i:Nat} {o:Oper} (ho:ops[i]? = some o) (l:List Nat)
  (h:∀ (vs:Nat→Value) (w:World),Below w0.heap.size w0 w→Hid (∀ j∈l,Post j (vs j) w)→∀ b:Act,Hid (b=puts ops vs l a0) →
   ∀ K:Act→World→Prop,(∀ v w',Below w.heap.size w w'→Post i v w'→K (b.put o.dst v) w')→o.wp P b w K (fun _ _ _=>False))
  (hl:pre ops i=l:=by kernel_rfl) (hg:o.guard=none:=by rfl):Step P ops Post a0 w0 i :=
 Step.mk ho l hl fun vs w hE hp b hb K hK=>by
  rw[if_pos (wanted_none hg)]
  exact h vs w hE (Lib.hid hp) b (Lib.hid hb) K hK
theorem T {Post:Nat→Value→World→Prop} {a0:Act} {w0:World} {i:Nat} {o:Oper} (ho:ops[i]? = some o)
  (h:∀ (vs:Nat→Value) (w:World),Below w0.heap.size w0 w→Hid (∀ j∈pre ops i,Post j (vs j) w)→∀ b:Act,Hid (b=puts ops vs (pre ops i) a0) →
   ∀ K:Act→World→Prop,(∀ v w',Below w.heap.size w w'→Post i v w'→K (b.put o.dst v) w')→o.wp P b w K (fun _ _ _=>False))
  (hg:o.guard=none:=by rfl):Step P ops Post a0 w0 i:=S ho _ h rfl hg
theorem wanted_some {o:Oper} {b:Act} {g t:Nat} {want:Bool} (h:o.guard=some (g,want)) (hd:dst ops g=some t) (hv:b.tmps[t]?.getD undef=.bool want):Region.wanted o (yielded ops b.tmps)=true:=by
 unfold Region.wanted
 rw[h]
 show (yielded ops b.tmps g==some want)=true
 unfold yielded
 have hd':(ops[g]?).bind (·.dst)=some t:=hd
 rw[hd']
 show ((match b.tmps[t]? with|some (.bool b)=>some b|_=>none)==some want)=true
 cases ht:b.tmps[t]? with
 | none=>rw[ht] at hv;cases hv
 | some v =>
  rw[ht] at hv
  simp only[Option.getD_some] at hv
  subst hv
  simp
def unl (ops:Array Oper) (listed:Array Bool):List Nat:=(List.range ops.size).filter fun i => !listed.getD i false
def listedL (ops:Array Oper) (listed:Array Bool):List Nat:=(List.range ops.size).filter fun i=>listed.getD i false

theorem walk (hok:ok ops=true) (Post:Nat→Value→World→Prop) (hmono:∀ i v w w',Below w.heap.size w w'→Post i v w→Post i v w') (a0:Act) (w0:World)
  (hstep:∀ i,i<ops.size→Step P ops Post a0 w0 i)
  (hfin:∀ (vs:Nat→Value) (w:World),Below w0.heap.size w0 w→(∀ i,i<ops.size→Post i (vs i) w)→Q .normal (puts ops vs (List.range ops.size) a0) w) :
  ∀ (fuel:Nat) (listed:Array Bool) (vs:Nat→Value) (w:World),listed.size=ops.size→(unl ops listed).length≤fuel→Below w0.heap.size w0 w →
   (∀ i,listed.getD i false=true→Post i (vs i) w)→(∀ i,listed.getD i false=true→∀ j∈pre ops i,listed.getD j false=true)→wpAny P .any ops Q fuel listed (puts ops vs (listedL ops listed) a0) w:=by
 have hspec:∀ i,i<ops.size→(∀ j∈pre ops i,j<i)∧(∀ j,j<ops.size→j≠i→∀ s,dst ops i=some s→dst ops j≠some s) ∧
   (∀ o,ops[i]? = some o→(∀ cs b,o.op≠.select cs b)∧∀ t∈o.looksAt ops,∀ j,j<ops.size→dst ops j=some t→j∈pre ops i∨i∈pre ops j):=by
  intro i hi
  have h:=List.all_eq_true.1 hok i (List.mem_range.2 hi)
  simp only[Bool.and_eq_true] at h
  obtain⟨⟨h1,h2⟩,h3⟩:=h
  refine⟨fun j hj=>by simpa using List.all_eq_true.1 h1 j hj,fun j hj hne s hs hs'=>?_,fun o ho=>?_⟩
  ·have:=List.all_eq_true.1 h2 j (List.mem_range.2 hj)
   rw[hs,hs'] at this
   simp[hne] at this
  ·rw[ho] at h3
   simp only[Bool.and_eq_true] at h3
   refine⟨fun cs b e=>by rw[e] at h3;simp at h3,fun t ht j hj hd=>?_⟩
   have:=List.all_eq_true.1 (List.all_eq_true.1 h3.2 t ht) j (List.mem_range.2 hj)
   rw[hd] at this
   simpa using this
 have hlt:∀ i s,dst ops i=some s→i<ops.size:=fun i s h=>by
  unfold dst at h
  rcases Nat.lt_or_ge i ops.size with h'|h'
  ·exact h'
  ·rw[Array.getElem?_eq_none h'] at h;cases h
 have honce:Once ops:=fun i j s hi hj=>by
  by_cases e:j=i
  ·exact e.symm
  ·exact absurd hj ((hspec i (hlt i s hi)).2.1 j (hlt j s hj) e s hi)
 have hready:∀ listed:Array Bool,listed.size=ops.size→Region.ready .any ops listed=[]→∀ i,i<ops.size→listed.getD i false=true:=by
  intro listed hsz hr i
  induction i using Nat.strongRecOn with
  | ind i ih =>
   intro hi
   rcases hb:listed.getD i false with _|_
   ·exfalso
    have hmem:i∈Region.ready .any ops listed:=by
     rw[mem_ready]
     refine⟨?_,ops[i],Array.getElem?_eq_getElem hi,fun e he hbi=>?_⟩
     ·rw[Array.getD_eq_getD_getElem?,Array.getElem?_eq_getElem (by omega)] at hb ⊢
      simpa using hb
     ·have hp:e.on∈pre ops i:=by
       unfold pre
       rw[Array.getElem?_eq_getElem hi]
       exact List.mem_filterMap.2 ⟨e,by simpa using he,by simp[hbi]⟩
      have:=(hspec i hi).1 _ hp
      exact ih _ this (by omega)
    rw[hr] at hmem
    cases hmem
   ·rfl
 intro fuel
 induction fuel with
 | zero =>
  intro listed vs w hsz hfu hE hP hC
  have hall:∀ i,i<ops.size→listed.getD i false=true:=by
   intro i hi
   have hnil:unl ops listed=[]:=List.eq_nil_of_length_eq_zero (by omega)
   unfold unl at hnil
   rw[List.filter_eq_nil_iff] at hnil
   have:=hnil i (List.mem_range.2 hi)
   simpa using this
  have hset:puts ops vs (listedL ops listed) a0=puts ops vs (List.range ops.size) a0 :=
   puts_same honce vs vs _ _ a0 (fun i=>by
    unfold listedL
    rw[List.mem_filter,List.mem_range]
    exact⟨fun h=>h.1,fun h=>⟨h,hall i h⟩⟩) (fun _ _=>rfl)
  refine⟨?_,?_⟩
  ·cases hr:Region.ready .any ops listed with
   | nil=>rfl
   | cons i l =>
    exfalso
    have hm:i∈Region.ready .any ops listed:=by rw[hr];exact List.mem_cons_self ..
    rw[mem_ready] at hm
    obtain⟨h0,o,ho,_⟩:=hm
    have hi:i<ops.size:=(Array.getElem?_eq_some_iff.1 ho).1
    have:=hall i hi
    rw[Array.getD_eq_getD_getElem?,Array.getElem?_eq_getElem (by omega)] at h0 this
    simp at h0 this
    rw[h0] at this
    cases this
  ·rw[hset]
   exact hfin vs w hE fun i hi=>hP i (hall i hi)
 | succ fuel ih =>
  intro listed vs w hsz hfu hE hP hC
  refine⟨fun hr=>?_,fun i hi=>?_⟩
  ·have hall:=hready listed hsz hr
   have hset:puts ops vs (listedL ops listed) a0=puts ops vs (List.range ops.size) a0 :=
    puts_same honce vs vs _ _ a0 (fun i=>by
     unfold listedL
     rw[List.mem_filter,List.mem_range]
     exact⟨fun h=>h.1,fun h=>⟨h,hall i h⟩⟩) (fun _ _=>rfl)
   rw[hset]
   exact hfin vs w hE fun i hi=>hP i (hall i hi)
  ·rw[mem_ready] at hi
   obtain⟨h0,o,ho,hall⟩:=hi
   have hi':i<ops.size:=(Array.getElem?_eq_some_iff.1 ho).1
   have h0':listed.getD i false=false:=by
    rw[Array.getD_eq_getD_getElem?,Array.getElem?_eq_getElem (by omega)] at h0 ⊢
    simpa using h0
   have hpre:∀ j∈pre ops i,listed.getD j false=true:=by
    intro j hj
    unfold pre at hj
    rw[ho] at hj
    obtain⟨e,he,hb⟩:=List.mem_filterMap.1 hj
    split at hb
    ·rename_i hbi
     injection hb with hb
     subst hb
     exact hall e (by simpa using he) hbi
    ·cases hb
   obtain⟨hp1,hp2,hp3⟩:=hspec i hi'
   obtain⟨hsel,hlook⟩:=hp3 o ho
   -- the frame that the operation sees
   have hsee:∀ t∈o.looksAt ops,(puts ops vs (pre ops i) a0).tmps[t]? = (puts ops vs (listedL ops listed) a0).tmps[t]?:=by
    intro t ht
    by_cases hw:∃ j,j<ops.size∧dst ops j=some t
    ·obtain⟨j,hj,hd⟩:=hw
     rcases hlook t ht j hj hd with hpj|hpi
     ·have hlj:j∈listedL ops listed:=by
       unfold listedL
       rw[List.mem_filter,List.mem_range]
       exact⟨hj,hpre j hpj⟩
      by_cases hts:t<a0.tmps.size
      ·rw[puts_some vs t j hd _ a0 hts hpj (fun k _ hk=>honce k j t hk hd),puts_some vs t j hd _ a0 hts hlj (fun k _ hk=>honce k j t hk hd)]
      ·have n1:(puts ops vs (pre ops i) a0).tmps[t]? = none:=Array.getElem?_eq_none (by rw[puts_size];exact Nat.le_of_not_lt hts)
       have n2:(puts ops vs (listedL ops listed) a0).tmps[t]? = none:=Array.getElem?_eq_none (by rw[puts_size];exact Nat.le_of_not_lt hts)
       rw[n1,n2]
     ·have hnl:listed.getD j false=false:=by
       rcases hb:listed.getD j false with _|_
       ·rfl
       ·exfalso
        have:=hC j hb i hpi
        rw[h0'] at this
        cases this
      have h1:∀ k∈pre ops i,dst ops k≠some t:=fun k hk e=>by
       have:=honce k j t e hd
       subst this
       have:=(hspec k hj).1 i hpi
       have:=hp1 k hk
       omega
      have h2:∀ k∈listedL ops listed,dst ops k≠some t:=fun k hk e=>by
       have:=honce k j t e hd
       subst this
       unfold listedL at hk
       rw[List.mem_filter] at hk
       rw[hnl] at hk
       cases hk.2
      rw[puts_none vs t _ a0 h1,puts_none vs t _ a0 h2]
    ·have h1:∀ l:List Nat,∀ k∈l,dst ops k≠some t:=fun l k _ e=>hw ⟨k,hlt k t e,e⟩
     rw[puts_none vs t _ a0 (h1 _),puts_none vs t _ a0 (h1 _)]
   have hex:execOp (puts ops vs (listedL ops listed) a0).eval o=execOp (puts ops vs (pre ops i) a0).eval o:=by
    refine execOp_congr o hsel fun x hx=>?_
    cases x with
    | tmp t =>
     have:=hsee t (List.mem_append_left _ (List.mem_filterMap.2 ⟨.tmp t,by simpa using hx,rfl⟩))
     simp[Act.eval,this]
    | _=>rfl
   have hwant:Region.wanted o (yielded ops (puts ops vs (listedL ops listed) a0).tmps)=Region.wanted o (yielded ops (puts ops vs (pre ops i) a0).tmps):=by
    unfold Region.wanted
    cases hg:o.guard with
    | none=>rfl
    | some gw =>
     obtain⟨g,want⟩:=gw
     have hy:yielded ops (puts ops vs (listedL ops listed) a0).tmps g=yielded ops (puts ops vs (pre ops i) a0).tmps g:=by
      unfold yielded
      cases ht:(ops[g]?).bind (·.dst) with
      | none=>rfl
      | some t =>
       have:=hsee t (by simp[Oper.looksAt,hg,ht])
       simp[this]
     simp only[hy]
   have hst:=hstep i hi' o ho vs w hE (fun j hj=>hP j (hpre j hj)) (fun a' w'=>∃ v,a'=(puts ops vs (pre ops i) a0).put o.dst v∧(Below w.heap.size w w'∧Post i v w')) (fun v w' h1 h2=>⟨v,rfl,h1,h2⟩)
   have hdst:dst ops i=o.dst:=by unfold dst;rw[ho];rfl
   have hnext:∀ v w',Below w.heap.size w w'∧Post i v w'→wpAny P .any ops Q fuel (listed.setIfInBounds i true) ((puts ops vs (listedL ops listed) a0).put o.dst v) w':=by
    rintro v w' ⟨h1,h2⟩
    have hE':Below w0.heap.size w0 w':=hE.trans (h1.mono hE.size)
    have hil:i∉listedL ops listed:=by
     unfold listedL
     rw[List.mem_filter]
     rintro⟨_,h⟩
     rw[h0'] at h
     cases h
    let vs':Nat→Value:=fun j=>if j=i then v else vs j
    have hmem:∀ j,(listed.setIfInBounds i true).getD j false=true↔(j=i∨listed.getD j false=true):=by
     intro j
     by_cases hji:j=i
     ·subst hji
      simp[show j<listed.size by omega]
     ·rw[getD_set_ne false (Ne.symm hji)]
      simp[hji]
    have heq:(puts ops vs (listedL ops listed) a0).put o.dst v=puts ops vs' (listedL ops (listed.setIfInBounds i true)) a0:=by
     have e1:puts ops vs (listedL ops listed) a0=puts ops vs' (listedL ops listed) a0:=puts_same honce vs vs' _ _ a0 (fun _=>Iff.rfl) (fun j hj=>by
      have:j≠i:=fun e=>hil (e▸hj)
      simp[vs',this])
     have e2:((puts ops vs' (listedL ops listed) a0).put o.dst v)=puts ops vs' (listedL ops listed++[i]) a0:=by
      rw[puts_snoc,hdst]
      simp[vs']
     rw[e1,e2]
     refine puts_same honce vs' vs' _ _ a0 (fun j=>?_) (fun _ _=>rfl)
     unfold listedL
     rw[List.mem_append,List.mem_filter,List.mem_filter,hmem j,List.mem_singleton,List.mem_range]
     constructor
     ·rintro (⟨hj,hl⟩|rfl)
      ·exact⟨hj,Or.inr hl⟩
      ·exact⟨hi',Or.inl rfl⟩
     ·rintro⟨hj,rfl|hl⟩
      ·exact Or.inr rfl
      ·exact Or.inl ⟨hj,hl⟩
    rw[heq]
    refine ih _ vs' w' (by simpa using hsz) ?_ hE' ?_ ?_
    ·have hun:unl ops (listed.setIfInBounds i true)=(unl ops listed).filter (fun j=>j != i):=by
      unfold unl
      rw[List.filter_filter]
      refine List.filter_congr fun j hj=>?_
      rw[Bool.eq_iff_iff]
      have hm:=hmem j
      by_cases hji:j=i
      ·subst hji
       have:(listed.setIfInBounds j true).getD j false=true:=hm.2 (Or.inl rfl)
       rw[this]
       simp
      ·rw[getD_set_ne false (Ne.symm hji)]
       simp[hji]
     have hlt2:((unl ops listed).filter (fun j=>j != i)).length<(unl ops listed).length:=by
      rw[List.length_filter_lt_length_iff_exists]
      refine⟨i,?_,by simp⟩
      unfold unl
      rw[List.mem_filter,List.mem_range,h0']
      exact⟨hi',rfl⟩
     rw[hun]
     omega
    ·intro j hj
     by_cases hji:j=i
     ·subst hji
      simpa[vs'] using h2
     ·have hl:listed.getD j false=true:=((hmem j).1 hj).resolve_left hji
      have:=hmono j _ _ _ h1 (hP j hl)
      simpa[vs',hji] using this
    ·intro j hj k hk
     rw[hmem]
     rcases (hmem j).1 hj with rfl|hl
     ·exact Or.inr (hpre k hk)
     ·exact Or.inr (hC j hl k hk)
   unfold wpOp
   rw[ho]
   show if Region.wanted o (yielded ops (puts ops vs (listedL ops listed) a0).tmps)=true then _ else _
   rw[hwant]
   split at hst
   ·rename_i hw
    rw[if_pos hw]
    refine Or.inl (Oper.wp_mono ?_ (wp_frame hex (by rw[puts_size,puts_size]) Q hst))
    rintro a' w' ⟨v,rfl,hr⟩
    exact hnext v w' hr
   ·rename_i hw
    rw[if_neg hw]
    obtain⟨v,hv,hr⟩:=hst
    have:(puts ops vs (listedL ops listed) a0).put o.dst undef=(puts ops vs (listedL ops listed) a0).put o.dst v:=by
     cases hd:o.dst with
     | none=>rfl
     | some d =>
      rw[hd] at hv
      by_cases hlt':d<a0.tmps.size
      ·have h1:=put_get_eq (puts ops vs (pre ops i) a0) undef d (by rw[puts_size];exact hlt')
       rw[hv,put_get_eq (puts ops vs (pre ops i) a0) v d (by rw[puts_size];exact hlt')] at h1
       rw[Option.some.inj h1]
      ·have hb:¬ d<(puts ops vs (listedL ops listed) a0).tmps.size:=by rw[puts_size];exact hlt'
       simp[Act.put,Array.setIfInBounds,hb]
    rw[this]
    exact hnext v w hr

theorem wp_any {id:Nat} {a0:Act} {w0:World} (hm:P.follows .mixedOrders=true) (hok:ok ops=true) (Post:Nat→Value→World→Prop) (hmono:∀ i v w w',Below w.heap.size w w'→Post i v w→Post i v w')
  (hstep:∀ i,i<ops.size→Step P ops Post a0 w0.drew i)
  (hfin:∀ (vs:Nat→Value) (w:World),Below w0.heap.size w0 w→(∀ i,i<ops.size→Post i (vs i) w)→Q .normal (puts ops vs (List.range ops.size) a0) w) :
  (Code.region id ops true).wp P Q a0 w0:=by
 refine wp_region_any hm ?_
 have h0:listedL ops (Array.replicate ops.size false)=[]:=by
  unfold listedL
  rw[List.filter_eq_nil_iff]
  intro i hi
  simp[List.mem_range.1 hi]
 have:=walk (Q:=Q) hok Post hmono a0 w0.drew hstep (fun vs w hb h=>hfin vs w ((Below.refl _ _).drew.trans hb) h) ops.size (Array.replicate ops.size false) (fun _=>undef) w0.drew (by simp) (by unfold unl;exact Nat.le_trans (List.length_filter_le _ _) (by simp)) (Below.refl _ _)
  (fun i hi=>by
   rw[Array.getD_eq_getD_getElem?] at hi
   rcases Nat.lt_or_ge i ops.size with h|h
   ·simp[h] at hi
   ·simp[Nat.not_lt.2 h] at hi)
  (fun i hi=>by
   rw[Array.getD_eq_getD_getElem?] at hi
   rcases Nat.lt_or_ge i ops.size with h|h
   ·simp[h] at hi
   ·simp[Nat.not_lt.2 h] at hi)
 rw[h0] at this
 exact this
end AnyO
end Go.Proofs.YtgojaelkdpabkaaGreatDoor
