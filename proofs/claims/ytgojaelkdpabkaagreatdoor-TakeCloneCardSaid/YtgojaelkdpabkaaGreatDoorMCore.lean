/- A region that draws its order and ends in a forced tail: the head is walked operation by operation in whatever order, the tail as a straight list. -/
import Derived.Test.YtgojaelkdpabkaaGreatDoorMAny
import Derived.StillTail
import Derived.Test.YtgojaelkdpabkaaGreatDoorProg
namespace Go.Proofs.YtgojaelkdpabkaaGreatDoor
open Go.RowKit
theorem List.length_filter_ne_of_nodup {i:Nat}:∀ {l:List Nat},l.Nodup→i∈l→(l.filter (fun j=>j != i)).length+1=l.length
 | [],_,h=>by cases h
 | x :: l,hn,h=>by
  obtain⟨h1,h2⟩:=List.nodup_cons.1 hn
  by_cases hx:x=i
  ·subst hx
   have:l.filter (fun j=>j != x)=l:=List.filter_eq_self.2 fun a ha=>by
    simp only[bne_iff_ne,ne_eq]
    exact fun e=>h1 (e▸ha)
   simp[this]
  ·have hm:i∈l:=(List.mem_cons.1 h).resolve_left (fun e=>hx e.symm)
   have:=List.length_filter_ne_of_nodup h2 hm
   simp[hx,this]
namespace AnyO
variable {P : Program} {ops : Array Oper} {Q : Exit → Act → World → Prop}
def unlN (n:Nat) (listed:Array Bool):List Nat:=(List.range n).filter fun i => !listed.getD i false
theorem walkT (hok:ok ops=true) (n:Nat) (hn:n<ops.size) (hs:Region.sinkB .any ops n=true) (hc:Region.chainB .any ops n=true) (hq:Region.seqB .any ops (ops.size - n) n ((List.range ops.size).map fun i=>decide (i<n)).toArray=true)
  (Post:Nat→Value→World→Prop) (hmono:∀ i v w w',Below w.heap.size w w'→Post i v w→Post i v w') (a0:Act) (w0:World)
  (hstep:∀ i,i<n→Step P ops Post a0 w0 i)
  (hfin:∀ (vs:Nat→Value) (w:World),Below w0.heap.size w0 w→(∀ i,i<n→Post i (vs i) w)→wpList P ops Q (ops.toList.drop n) (puts ops vs (List.range n) a0) w) :
  ∀ (fuel:Nat) (listed:Array Bool) (vs:Nat→Value) (w:World),listed.size=ops.size→(unlN n listed).length=fuel→Below w0.heap.size w0 w →
   (∀ i,listed.getD i false=true→Post i (vs i) w)→(∀ i,listed.getD i false=true→∀ j∈pre ops i,listed.getD j false=true)→(∀ t,n≤t→listed.getD t false=false)→wpAny P .any ops Q (fuel+(ops.size - n)) listed (puts ops vs (listedL ops listed) a0) w:=by
 have hspec:∀ i,i<ops.size→(∀ j∈pre ops i,j<i)∧(∀ j,j<ops.size→j≠i→∀ s,dst ops i=some s→dst ops j≠some s) ∧
   (∀ o,ops[i]? = some o→(∀ cs b,o.op≠.select cs b)∧∀ t∈o.looksAt ops,∀ j,j<ops.size→dst ops j=some t→j∈pre ops i∨i∈pre ops j):=by
  intro i hi
  have h:=List.all_eq_true.1 hok i (List.mem_range.2 hi)
  simp only[Bool.and_eq_true] at h
  obtain⟨⟨h1,h2⟩,h3⟩:=h
  refine⟨fun j hj=>by simpa using List.all_eq_true.1 h1 j hj,fun j hj hne s hs hs'=>?_,fun o ho=>?_⟩
  ·have:=List.all_eq_true.1 h2 j (List.mem_range.2 hj)
   rw[hs,hs'] at this
   simp[hne] at this
  ·rw[ho] at h3
   simp only[Bool.and_eq_true] at h3
   refine⟨fun cs b e=>by rw[e] at h3;simp at h3,fun t ht j hj hd=>?_⟩
   have:=List.all_eq_true.1 (List.all_eq_true.1 h3.2 t ht) j (List.mem_range.2 hj)
   rw[hd] at this
   simpa using this
 have hlt:∀ i s,dst ops i=some s→i<ops.size:=fun i s h=>by
  unfold dst at h
  rcases Nat.lt_or_ge i ops.size with h'|h'
  ·exact h'
  ·rw[Array.getElem?_eq_none h'] at h;cases h
 have honce:Once ops:=fun i j s hi hj=>by
  by_cases e:j=i
  ·exact e.symm
  ·exact absurd hj ((hspec i (hlt i s hi)).2.1 j (hlt j s hj) e s hi)
 have hready:∀ listed:Array Bool,listed.size=ops.size→Region.ready .any ops listed=[]→∀ i,i<ops.size→listed.getD i false=true:=by
  intro listed hsz hr i
  induction i using Nat.strongRecOn with
  | ind i ih =>
   intro hi
   rcases hb:listed.getD i false with _|_
   ·exfalso
    have hmem:i∈Region.ready .any ops listed:=by
     rw[mem_ready]
     refine⟨?_,ops[i],Array.getElem?_eq_getElem hi,fun e he hbi=>?_⟩
     ·rw[Array.getD_eq_getD_getElem?,Array.getElem?_eq_getElem (by omega)] at hb ⊢
      simpa using hb
     ·have hp:e.on∈pre ops i:=by
       unfold pre
       rw[Array.getElem?_eq_getElem hi]
       exact List.mem_filterMap.2 ⟨e,by simpa using he,by simp[hbi]⟩
      have:=(hspec i hi).1 _ hp
      exact ih _ this (by omega)
    rw[hr] at hmem
    cases hmem
   ·rfl
 intro fuel
 induction fuel with
 | zero =>
  intro listed vs w hsz hfu hE hP hC hT
  have hall:∀ i,i<n→listed.getD i false=true:=by
   intro i hi
   have hnil:unlN n listed=[]:=List.eq_nil_of_length_eq_zero hfu
   unfold unlN at hnil
   rw[List.filter_eq_nil_iff] at hnil
   have:=hnil i (List.mem_range.2 hi)
   simpa using this
  have hset:puts ops vs (listedL ops listed) a0=puts ops vs (List.range n) a0 :=
   puts_same honce vs vs _ _ a0 (fun i=>by
    unfold listedL
    rw[List.mem_filter,List.mem_range,List.mem_range]
    refine⟨fun h=>?_,fun h=>⟨by omega,hall i h⟩⟩
    rcases Nat.lt_or_ge i n with h'|h'
    ·exact h'
    ·rw[hT i h'] at h
     cases h.2) (fun _ _=>rfl)
  have hlist:listed=((List.range ops.size).map fun i=>decide (i<n)).toArray:=by
   apply Array.ext (by simp[hsz])
   intro i h1 h2
   simp only[List.getElem_toArray,List.getElem_map,List.getElem_range]
   have hg:listed.getD i false=listed[i]:=by simp[h1]
   rcases Nat.lt_or_ge i n with h'|h'
   ·rw[← hg,hall i h'];simp[h']
   ·rw[← hg,hT i h'];simp;omega
  have hl:(ops.toList.drop n).length=ops.size - n:=by simp
  have:=wpAny_of_seq (P:=P) (ops:=ops) (md:=.any) (Q':=Q) (ops.toList.drop n) n listed (puts ops vs (listedL ops listed) a0) w (fun j=>by simp[List.getElem?_drop]) (by rw[hl,hlist];exact hq)
   (by rw[hset];exact hfin vs w hE fun i hi=>hP i (hall i hi))
  rw[hl] at this
  rw[Nat.zero_add]
  exact this
 | succ fuel ih =>
  intro listed vs w hsz hfu hE hP hC hT
  have hsome:∃ i,i<n∧listed.getD i false=false:=by
   have hne:unlN n listed≠[]:=fun h=>by rw[h] at hfu;cases hfu
   obtain⟨i,hi⟩:=List.exists_mem_of_ne_nil _ hne
   unfold unlN at hi
   rw[List.mem_filter,List.mem_range] at hi
   exact⟨i,hi.1,by simpa using hi.2⟩
  have inv:HeadInv .any ops n listed:=⟨hsz,fun j oj hj hl e he hb=>hC j hl e.on (by
    unfold pre
    rw[hj]
    exact List.mem_filterMap.2 ⟨e,by simpa using he,by simp[hb]⟩),fun t ht ht'=>getD_in (by omega) (hT t ht)⟩
  have hhead:∀ t,n≤t→t∉Region.ready .any ops listed:=by
   obtain⟨i0,hi0,hf0⟩:=hsome
   exact tail_waits hs hc hn inv _ i0 rfl hi0 (getD_in (by omega) hf0)
  rw[show fuel+1+(ops.size - n)=(fuel+(ops.size - n))+1 by omega]
  refine⟨fun hr=>?_,fun i hi=>?_⟩
  ·exfalso
   have:=hready listed hsz hr n hn
   rw[hT n (Nat.le_refl _)] at this
   cases this
  ·have hin:i<n:=by
    rcases Nat.lt_or_ge i n with h|h
    ·exact h
    ·exact absurd hi (hhead i h)
   rw[mem_ready] at hi
   obtain⟨h0,o,ho,hall⟩:=hi
   have hi':i<ops.size:=(Array.getElem?_eq_some_iff.1 ho).1
   have h0':listed.getD i false=false:=by
    rw[Array.getD_eq_getD_getElem?,Array.getElem?_eq_getElem (by omega)] at h0 ⊢
    simpa using h0
   have hpre:∀ j∈pre ops i,listed.getD j false=true:=by
    intro j hj
    unfold pre at hj
    rw[ho] at hj
    obtain⟨e,he,hb⟩:=List.mem_filterMap.1 hj
    split at hb
    ·rename_i hbi
     injection hb with hb
     subst hb
     exact hall e (by simpa using he) hbi
    ·cases hb
   obtain⟨hp1,hp2,hp3⟩:=hspec i hi'
   obtain⟨hsel,hlook⟩:=hp3 o ho
   -- the frame that the operation sees
   have hsee:∀ t∈o.looksAt ops,(puts ops vs (pre ops i) a0).tmps[t]? = (puts ops vs (listedL ops listed) a0).tmps[t]?:=by
    intro t ht
    by_cases hw:∃ j,j<ops.size∧dst ops j=some t
    ·obtain⟨j,hj,hd⟩:=hw
     rcases hlook t ht j hj hd with hpj|hpi
     ·have hlj:j∈listedL ops listed:=by
       unfold listedL
       rw[List.mem_filter,List.mem_range]
       exact⟨hj,hpre j hpj⟩
      by_cases hts:t<a0.tmps.size
      ·rw[puts_some vs t j hd _ a0 hts hpj (fun k _ hk=>honce k j t hk hd),puts_some vs t j hd _ a0 hts hlj (fun k _ hk=>honce k j t hk hd)]
      ·have n1:(puts ops vs (pre ops i) a0).tmps[t]? = none:=Array.getElem?_eq_none (by rw[puts_size];exact Nat.le_of_not_lt hts)
       have n2:(puts ops vs (listedL ops listed) a0).tmps[t]? = none:=Array.getElem?_eq_none (by rw[puts_size];exact Nat.le_of_not_lt hts)
       rw[n1,n2]
     ·have hnl:listed.getD j false=false:=by
       rcases hb:listed.getD j false with _|_
       ·rfl
       ·exfalso
        have:=hC j hb i hpi
        rw[h0'] at this
        cases this
      have h1:∀ k∈pre ops i,dst ops k≠some t:=fun k hk e=>by
       have:=honce k j t e hd
       subst this
       have:=(hspec k hj).1 i hpi
       have:=hp1 k hk
       omega
      have h2:∀ k∈listedL ops listed,dst ops k≠some t:=fun k hk e=>by
       have:=honce k j t e hd
       subst this
       unfold listedL at hk
       rw[List.mem_filter] at hk
       rw[hnl] at hk
       cases hk.2
      rw[puts_none vs t _ a0 h1,puts_none vs t _ a0 h2]
    ·have h1:∀ l:List Nat,∀ k∈l,dst ops k≠some t:=fun l k _ e=>hw ⟨k,hlt k t e,e⟩
     rw[puts_none vs t _ a0 (h1 _),puts_none vs t _ a0 (h1 _)]
   have hex:execOp (puts ops vs (listedL ops listed) a0).eval o=execOp (puts ops vs (pre ops i) a0).eval o:=by
    refine execOp_congr o hsel fun x hx=>?_
    cases x with
    | tmp t =>
     have:=hsee t (List.mem_append_left _ (List.mem_filterMap.2 ⟨.tmp t,by simpa using hx,rfl⟩))
     simp[Act.eval,this]
    | _=>rfl
   have hwant:Region.wanted o (yielded ops (puts ops vs (listedL ops listed) a0).tmps)=Region.wanted o (yielded ops (puts ops vs (pre ops i) a0).tmps):=by
    unfold Region.wanted
    cases hg:o.guard with
    | none=>rfl
    | some gw =>
     obtain⟨g,want⟩:=gw
     have hy:yielded ops (puts ops vs (listedL ops listed) a0).tmps g=yielded ops (puts ops vs (pre ops i) a0).tmps g:=by
      unfold yielded
      cases ht:(ops[g]?).bind (·.dst) with
      | none=>rfl
      | some t =>
       have:=hsee t (by simp[Oper.looksAt,hg,ht])
       simp[this]
     simp only[hy]
   have hst:=hstep i hin o ho vs w hE (fun j hj=>hP j (hpre j hj)) (fun a' w'=>∃ v,a'=(puts ops vs (pre ops i) a0).put o.dst v∧(Below w.heap.size w w'∧Post i v w')) (fun v w' h1 h2=>⟨v,rfl,h1,h2⟩)
   have hdst:dst ops i=o.dst:=by unfold dst;rw[ho];rfl
   have hnext:∀ v w',Below w.heap.size w w'∧Post i v w'→wpAny P .any ops Q (fuel+(ops.size - n)) (listed.setIfInBounds i true) ((puts ops vs (listedL ops listed) a0).put o.dst v) w':=by
    rintro v w' ⟨h1,h2⟩
    have hE':Below w0.heap.size w0 w':=hE.trans (h1.mono hE.size)
    have hil:i∉listedL ops listed:=by
     unfold listedL
     rw[List.mem_filter]
     rintro⟨_,h⟩
     rw[h0'] at h
     cases h
    let vs':Nat→Value:=fun j=>if j=i then v else vs j
    have hmem:∀ j,(listed.setIfInBounds i true).getD j false=true↔(j=i∨listed.getD j false=true):=by
     intro j
     by_cases hji:j=i
     ·subst hji
      simp[show j<listed.size by omega]
     ·rw[getD_set_ne false (Ne.symm hji)]
      simp[hji]
    have heq:(puts ops vs (listedL ops listed) a0).put o.dst v=puts ops vs' (listedL ops (listed.setIfInBounds i true)) a0:=by
     have e1:puts ops vs (listedL ops listed) a0=puts ops vs' (listedL ops listed) a0:=puts_same honce vs vs' _ _ a0 (fun _=>Iff.rfl) (fun j hj=>by
      have:j≠i:=fun e=>hil (e▸hj)
      simp[vs',this])
     have e2:((puts ops vs' (listedL ops listed) a0).put o.dst v)=puts ops vs' (listedL ops listed++[i]) a0:=by
      rw[puts_snoc,hdst]
      simp[vs']
     rw[e1,e2]
     refine puts_same honce vs' vs' _ _ a0 (fun j=>?_) (fun _ _=>rfl)
     unfold listedL
     rw[List.mem_append,List.mem_filter,List.mem_filter,hmem j,List.mem_singleton,List.mem_range]
     constructor
     ·rintro (⟨hj,hl⟩|rfl)
      ·exact⟨hj,Or.inr hl⟩
      ·exact⟨hi',Or.inl rfl⟩
     ·rintro⟨hj,rfl|hl⟩
      ·exact Or.inr rfl
      ·exact Or.inl ⟨hj,hl⟩
    rw[heq]
    refine ih _ vs' w' (by simpa using hsz) ?_ hE' ?_ ?_ (fun t ht=>by rw[getD_set_ne false (by omega)];exact hT t ht)
    ·have hun:unlN n (listed.setIfInBounds i true)=(unlN n listed).filter (fun j=>j != i):=by
      unfold unlN
      rw[List.filter_filter]
      refine List.filter_congr fun j hj=>?_
      rw[Bool.eq_iff_iff]
      have hm:=hmem j
      by_cases hji:j=i
      ·subst hji
       have:(listed.setIfInBounds j true).getD j false=true:=hm.2 (Or.inl rfl)
       rw[this]
       simp
      ·rw[getD_set_ne false (Ne.symm hji)]
       simp[hji]
     rw[hun]
     have hnd:(unlN n listed).Nodup:=List.Nodup.sublist List.filter_sublist List.nodup_range
     have hmi:i∈unlN n listed:=by
      unfold unlN
      rw[List.mem_filter,List.mem_range,h0']
      exact⟨hin,rfl⟩
     have:=List.length_filter_ne_of_nodup hnd hmi
     omega
    ·intro j hj
     by_cases hji:j=i
     ·subst hji
      simpa[vs'] using h2
     ·have hl:listed.getD j false=true:=((hmem j).1 hj).resolve_left hji
      have:=hmono j _ _ _ h1 (hP j hl)
      simpa[vs',hji] using this
    ·intro j hj k hk
     rw[hmem]
     rcases (hmem j).1 hj with rfl|hl
     ·exact Or.inr (hpre k hk)
     ·exact Or.inr (hC j hl k hk)
   unfold wpOp
   rw[ho]
   show if Region.wanted o (yielded ops (puts ops vs (listedL ops listed) a0).tmps)=true then _ else _
   rw[hwant]
   split at hst
   ·rename_i hw
    rw[if_pos hw]
    refine Or.inl (Oper.wp_mono ?_ (wp_frame hex (by rw[puts_size,puts_size]) Q hst))
    rintro a' w' ⟨v,rfl,hr⟩
    exact hnext v w' hr
   ·rename_i hw
    rw[if_neg hw]
    obtain⟨v,hv,hr⟩:=hst
    have:(puts ops vs (listedL ops listed) a0).put o.dst undef=(puts ops vs (listedL ops listed) a0).put o.dst v:=by
     cases hd:o.dst with
     | none=>rfl
     | some d =>
      rw[hd] at hv
      by_cases hlt':d<a0.tmps.size
      ·have h1:=put_get_eq (puts ops vs (pre ops i) a0) undef d (by rw[puts_size];exact hlt')
       rw[hv,put_get_eq (puts ops vs (pre ops i) a0) v d (by rw[puts_size];exact hlt')] at h1
       rw[Option.some.inj h1]
      ·have hb:¬ d<(puts ops vs (listedL ops listed) a0).tmps.size:=by rw[puts_size];exact hlt'
       simp[Act.put,Array.setIfInBounds,hb]
    rw[this]
    exact hnext v w hr

theorem wp_any_tail {id:Nat} {a0:Act} {w0:World} (n:Nat) (hm:P.follows .mixedOrders=true) (hok:ok ops=true) (hn:decide (n<ops.size)=true) (hs:Region.sinkB .any ops n=true) (hc:Region.chainB .any ops n=true) (hq:Region.seqB .any ops (ops.size - n) n ((List.range ops.size).map fun i=>decide (i<n)).toArray=true)
  (Post:Nat→Value→World→Prop) (hmono:∀ i v w w',Below w.heap.size w w'→Post i v w→Post i v w')
  (hstep:∀ i,i<n→Step P ops Post a0 w0.drew i)
  (hfin:∀ (vs:Nat→Value) (w:World),Below w0.heap.size w0 w→(∀ i,i<n→Post i (vs i) w)→wpList P ops Q (ops.toList.drop n) (puts ops vs (List.range n) a0) w) :
  (Code.region id ops true).wp P Q a0 w0:=by
 have hn:=of_decide_eq_true hn
 refine wp_region_any hm ?_
 have h00:∀ i,(Array.replicate ops.size false).getD i false=false:=fun i=>getD_replicate_false _ _
 have h0:listedL ops (Array.replicate ops.size false)=[]:=by
  unfold listedL
  rw[List.filter_eq_nil_iff]
  intro i hi
  rw[h00]
  simp
 have hu:(unlN n (Array.replicate ops.size false)).length=n:=by
  unfold unlN
  rw[List.filter_eq_self.2 (fun i _=>by rw[h00];rfl)]
  simp
 have:=walkT (Q:=Q) hok n hn hs hc hq Post hmono a0 w0.drew hstep (fun vs w hb h=>hfin vs w ((Below.refl _ _).drew.trans hb) h) n (Array.replicate ops.size false) (fun _=>undef) w0.drew (by simp) hu (Below.refl _ _)
  (fun i hi=>by rw[h00] at hi;cases hi) (fun i hi=>by rw[h00] at hi;cases hi) (fun t _=>h00 t)
 rw[h0,show n+(ops.size - n)=ops.size by omega] at this
 exact this
end AnyO
end Go.Proofs.YtgojaelkdpabkaaGreatDoor
namespace Go.Proofs.YtgojaelkdpabkaaGreatDoor
open Go.RowKit
theorem below_alloc (w:World) (o:Obj):Below w.heap.size w (w.alloc o):=(Below.refl _ _).alloc (Nat.le_refl _) o
theorem below_drew (w:World):Below w.heap.size w w.drew:=(Below.refl _ _).drew
theorem below_drewN (w:World) (n:Nat):Below w.heap.size w (w.drewN n):=⟨rfl,rfl,rfl,Nat.le_refl _,fun _ _=>rfl⟩
theorem Below.step {w w1 w2:World} (h:Below w.heap.size w w1) (h2:Below w1.heap.size w1 w2):Below w.heap.size w w2:=h.trans (h2.mono h.size)
def putL:List (Option Tmp)→(Nat→Value)→Nat→Act→Act
 | [],_,_,a=>a
 | d :: ds,vs,k,a=>putL ds vs (k+1) (a.put d (vs k))
theorem puts_range' {ops:Array Oper} (vs:Nat→Value):∀ (n k:Nat) (ds:List (Option Tmp)) (a:Act),(List.range' k n).map (AnyO.dst ops)=ds→AnyO.puts ops vs (List.range' k n) a=putL ds vs k a
 | 0,_,_,_,h=>by subst h;rfl
 | n+1,k,ds,a,h=>by
  subst h
  rw[List.range'_succ,List.map_cons,AnyO.puts_cons,putL]
  exact puts_range' vs n (k+1) _ _ rfl
theorem puts_range {ops:Array Oper} {vs:Nat→Value} {n:Nat} {a:Act} (ds:List (Option Tmp)) (h:(List.range n).map (AnyO.dst ops)=ds):AnyO.puts ops vs (List.range n) a=putL ds vs 0 a:=by
 rw[List.range_eq_range'] at *
 exact puts_range' vs n 0 ds a h
def Mono (p:Value→World→Prop):Prop:=∀ v w w',Below w.heap.size w w'→p v w→p v w'
def isV (u:Value):Value→World→Prop:=fun v _=>v=u
theorem Mono.v (u:Value):Mono (isV u):=fun _ _ _ _ h=>h
def pstP (L:List (Value→World→Prop)) (i:Nat) (v:Value) (w:World):Prop :=
 match L[i]? with
 | some p=>p v w
 | none=>True
def MonoL (L:List (Value→World→Prop)):Prop:=∀ i v w w',Below w.heap.size w w'→pstP L i v w→pstP L i v w'
theorem MonoL.nil:MonoL []:=fun _ _ _ _ _ _=>trivial
theorem MonoL.cons {p:Value→World→Prop} {L:List (Value→World→Prop)} (h:Mono p) (hL:MonoL L):MonoL (p :: L):=by
 intro i v w w' hb hp
 cases i with
 | zero=>exact h v w w' hb hp
 | succ i=>exact hL i v w w' hb hp
theorem info_of {P:Program} {e:TypeId} {c s b:Nat} (h:(P.info? e).map (fun i=>(i.zero.map (·.cells.size),i.size,i.bytes))=some (some c,s,b)):∃ i z,P.info? e=some i∧i.zero=some z∧i.size=s:=by
 cases hq:P.info? e with
 | none=>rw[hq] at h;cases h
 | some i =>
  cases hz:i.zero with
  | none=>simp[hq,hz] at h
  | some z=>simp[hq,hz] at h;exact⟨i,z,rfl,hz,h.2.1⟩
end Go.Proofs.YtgojaelkdpabkaaGreatDoor
