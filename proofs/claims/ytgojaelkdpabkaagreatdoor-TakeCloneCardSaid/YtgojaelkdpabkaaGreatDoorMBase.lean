/- Plain words and laws over any program: arrays of bytes as values, slices that read as lists, the step laws for loads, stores and comparisons of whole arrays. -/
import Derived.WalkKit
import Derived.WalkSpells
import Derived.WalkLawsBesides
import Derived.Deep.Draws
import Derived.Lib.Hide
import Derived.Lib.AppendZeros
namespace Go.Proofs.YtgojaelkdpabkaaGreatDoor
open Go.RowKit

abbrev Id:={ l:List UInt8 // l.length=32 }

def cB (b:UInt8):Value:=.int .u8 (b.toNat:Int)
def cI (x:Id):List Value:=x.1.map cB
def vI (x:Id):Value:=.agg (cI x).toArray

theorem cI_length (x:Id):(cI x).length=32:=by simp[cI,x.2]
theorem cI_one (x:Id):∀ u∈cI x,u.oneCell'=true:=by
 intro u hu
 simp only[cI,List.mem_map] at hu
 obtain⟨b,_,rfl⟩:=hu
 rfl

theorem block_of_add (a:Addr) (n:Nat):(a.add n).block=a.block:=by unfold Addr.add;split <;> rfl
theorem add_of_add (a:Addr) (i j:Nat):(a.add i).add j=a.add (i+j):=by
 unfold Addr.add
 by_cases hi:i=0 <;> by_cases hj:j=0 <;> simp[hi,hj,Nat.add_assoc]

theorem flatMap_getElem {α:Type} (enc:α→List Value) (s:Nat) (hs:∀ x,(enc x).length=s):∀ (xs:List α) (k:Nat) (hk:k<xs.length) (j:Nat),j<s→(xs.flatMap enc)[k * s+j]? = (enc xs[k])[j]?
 | x :: xs,0,_,j,hj=>by
  simp only[List.flatMap_cons,Nat.zero_mul,Nat.zero_add,List.getElem_cons_zero]
  rw[List.getElem?_append_left (by rw[hs];exact hj)]
 | x :: xs,k+1,hk,j,hj=>by
  simp only[List.flatMap_cons,List.getElem_cons_succ]
  rw[List.getElem?_append_right (by rw[hs,Nat.succ_mul];omega),hs]
  have:=flatMap_getElem enc s hs xs k (by simpa using hk) j hj
  rw[← this]
  congr 1
  rw[Nat.succ_mul]
  omega
theorem flatMap_length {α:Type} (enc:α→List Value) (s:Nat) (hs:∀ x,(enc x).length=s) (xs:List α):(xs.flatMap enc).length=xs.length * s:=by
 induction xs with
 | nil=>simp
 | cons x xs ih=>simp[List.flatMap_cons,ih,hs,Nat.succ_mul,Nat.add_comm]

def At (w:World) (ad:Addr) (cs:List Value):Prop:=ad.block<w.heap.size∧∀ j u,cs[j]? = some u→w.cell? (ad.add j)=some u

def Sl {α:Type} (w:World) (enc:α→List Value) (A:Option Addr) (xs:List α):Prop :=
 xs≠[]→∃ ad,A=some ad∧At w ad (xs.flatMap enc)

theorem At.keep {w w':World} {ad:Addr} {cs:List Value} (h:At w ad cs) (hb:Below w.heap.size w w'):At w' ad cs :=
 ⟨Nat.lt_of_lt_of_le h.1 hb.size,fun j u hu=>(hb.cell (by rw[block_of_add];exact h.1)).trans (h.2 j u hu)⟩
theorem Sl.keep {α:Type} {w w':World} {enc:α→List Value} {A:Option Addr} {xs:List α} (h:Sl w enc A xs) (hb:Below w.heap.size w w'):Sl w' enc A xs:=by
 intro hx
 obtain⟨ad,rfl,h1⟩:=h hx
 exact⟨ad,rfl,At.keep h1 hb⟩
theorem Sl.cut {α:Type} {w:World} {enc:α→List Value} {s:Nat} (hs:∀ x,(enc x).length=s) {A:Option Addr} {xs:List α} (h:Sl w enc A xs) {c k:Nat} (hc:xs.length≤c) :
  Sl w enc (if c=k then A else A.map (·.add (k * s))) (xs.drop k):=by
 intro hx
 have hk:k<xs.length:=by
  rcases Nat.lt_or_ge k xs.length with h|h
  ·exact h
  ·rw[List.drop_eq_nil_of_le h] at hx;exact absurd rfl hx
 obtain⟨ad,rfl,hb,hcell⟩:=h (by intro e;subst e;simp at hk)
 rw[if_neg (by omega)]
 refine⟨ad.add (k * s),rfl,by rw[block_of_add];exact hb,fun j u hu=>?_⟩
 rw[add_of_add]
 refine hcell _ u ?_
 have e1:xs.flatMap enc=(xs.take k).flatMap enc++(xs.drop k).flatMap enc:=by rw[← List.flatMap_append,List.take_append_drop]
 have e2:((xs.take k).flatMap enc).length=k * s:=by rw[flatMap_length enc s hs,List.length_take,Nat.min_eq_left (by omega)]
 rw[e1,List.getElem?_append_right (by omega),e2,show k * s+j - k * s=j from by omega]
 exact hu
theorem Sl.take {α:Type} {w:World} {enc:α→List Value} {A:Option Addr} {xs:List α} (h:Sl w enc A xs) (k:Nat):Sl w enc A (xs.take k):=by
 intro hx
 obtain⟨ad,rfl,hb,hcell⟩:=h (by intro e;subst e;simp at hx)
 refine⟨ad,rfl,hb,fun j u hu=>hcell j u ?_⟩
 have e1:xs.flatMap enc=(xs.take k).flatMap enc++(xs.drop k).flatMap enc:=by rw[← List.flatMap_append,List.take_append_drop]
 rw[e1,List.getElem?_append_left (List.getElem?_eq_some_iff.1 hu).1]
 exact hu
theorem Sl.nil {α:Type} (w:World) (enc:α→List Value) (A:Option Addr):Sl w enc A []:=fun h=>absurd rfl h

theorem Sl.at_ {α:Type} {w:World} {enc:α→List Value} {s:Nat} (hs:∀ x,(enc x).length=s) {A:Option Addr} {xs:List α} (h:Sl w enc A xs) {k:Nat} (hk:k<xs.length) :
  ∃ ad,A=some ad∧At w (ad.add (k * s)) (enc xs[k]):=by
 obtain⟨ad,rfl,hb,hc⟩:=h (by intro e;subst e;simp at hk)
 refine⟨ad,rfl,by rw[block_of_add];exact hb,fun j u hu=>?_⟩
 rw[add_of_add]
 refine hc _ _ ?_
 have hj:j<s:=by
  rw[← hs xs[k]]
  exact (List.getElem?_eq_some_iff.1 hu).1
 rw[flatMap_getElem enc s hs xs k hk j hj]
 exact hu

theorem Sl.of_own {α:Type} {w:World} {enc:α→List Value} {base:Nat} {e:TypeId} {s:Nat} {v:Value} {xs:List α} (h:w.ownsRow base e s v xs.length (xs.flatMap enc)) :
  ∃ A c,v=.slice A xs.length c∧xs.length≤c∧Sl w enc A xs:=by
 rcases h.2 with⟨rfl,hx⟩|⟨g,cap,cur,rfl,hb,hg,hnc,hm,hsz,htake⟩
 ·refine⟨none,0,?_,?_,?_⟩
  ·have:xs.length=0:=by assumption
   rw[this]
  ·have:xs.length=0:=by assumption
   omega
  ·have h0:xs=[]:=List.eq_nil_of_length_eq_zero (by assumption)
   subst h0
   exact Sl.nil _ _ _
 ·refine⟨some ⟨g,0,none⟩,cap,rfl,hnc,fun _=>⟨_,rfl,(Array.getElem?_eq_some_iff.1 hg).1,?_⟩⟩
  exact h.cells (g:=g) rfl

section
variable {P : Program}
theorem run_loadVar_at (w:World) (ad:Addr) (ty:TypeId) (cs:List Value) (d:TypeDesc) (hat:At w ad cs)
  (hu:P.underlying ty=some d) (hd:(match d with|.struct _|.array _ _=>true|_=>false)=true) (hi:(P.info? ty).map (·.size)=some cs.length) :
  (loadVar ty ad).run P w=.ok (.agg cs.toArray) w:=by
 have hl:(loadCells ad cs.length).run P w=.ok cs.toArray w:=run_loadCells_list (P:=P) w ad cs hat.2
 cases hq:P.info? ty with
 | none=>simp[hq] at hi
 | some i =>
  have hs:i.size=cs.length:=by simpa[hq] using hi
  have hagg:(isAgg ty).run P w=.ok true w:=by
   unfold isAgg
   rw[Sem.run_bind,run_underlying hu w]
   cases d <;> simp_all
  simp[loadVar,Sem.run_bind,hagg,sizeOf,typeInfo,hq,hs,hl]
end


/-! ### whole arrays of bytes compared -/
section
variable {P : Program} (w : World)
theorem run_part_byte (e:TypeId) (k:IntKind) (cs:Array Value) (i:Nat) (v:Value) (hu:P.underlying e=some (.int k)) (hv:cs[i]? = some v):(part e cs i).run P w=.ok v w:=by
 simp[part,isAgg,run_underlying hu,hv]
theorem run_equalIn_byte (d:Nat) (e:TypeId) (x y:UInt8) (hu:P.underlying e=some (.int .u8)):(Op.equalIn (d+1) e (cB x) (cB y)).run P w=.ok (decide (x=y)) w:=by
 rw[cB,cB,run_equalIn_int w d e .u8 .u8 _ _ hu]
 congr 1
 by_cases h:x=y
 ·subst h;simp
 ·have:¬ ((x.toNat:Int)=y.toNat):=fun e=>h (UInt8.toNat_inj.1 (by omega))
  simp[h,this]
theorem run_bytes_loop (d:Nat) (e:TypeId) (a b:List UInt8) (he:P.underlying e=some (.int .u8)) (hab:a.length=b.length):∀ (m k:Nat),k+m=a.length →
  Sem.run P (forIn (List.range' k m) ((none,()):Option Bool×Unit) fun i __s=>do
      let __do_lift ← part e (List.map cB a).toArray (i * 1)
      let __do_lift_1 ← part e (List.map cB b).toArray (i * 1)
      let __do_lift ← Op.equalIn (d+1) e __do_lift __do_lift_1
      if (!__do_lift)=true then pure (ForInStep.done (some false,())) else pure (ForInStep.yield (none,()))) w
   = .ok (if a.drop k=b.drop k then (none,()) else (some false,())) w:=by
 intro m
 induction m with
 | zero =>
  intro k hk
  have h1:a.drop k=[]:=List.drop_eq_nil_of_le (by omega)
  have h2:b.drop k=[]:=List.drop_eq_nil_of_le (by omega)
  simp[h1,h2]
 | succ m ih =>
  intro k hk
  have hka:k<a.length:=by omega
  have hkb:k<b.length:=by omega
  have e1:a.drop k=a[k] :: a.drop (k+1):=List.drop_eq_getElem_cons hka
  have e2:b.drop k=b[k] :: b.drop (k+1):=List.drop_eq_getElem_cons hkb
  have p1:(part e (List.map cB a).toArray (k * 1)).run P w=.ok (cB a[k]) w:=run_part_byte w e .u8 _ _ _ he (by simp[List.getElem?_eq_getElem hka])
  have p2:(part e (List.map cB b).toArray (k * 1)).run P w=.ok (cB b[k]) w:=run_part_byte w e .u8 _ _ _ he (by simp[List.getElem?_eq_getElem hkb])
  have p3:=run_equalIn_byte (P:=P) w d e a[k] b[k] he
  simp only[List.range'_succ,List.forIn_cons,Sem.run_bind,p1,p2,p3,Result.andThen_ok]
  by_cases h:a[k]=b[k]
  ·have ih':=ih (k+1) (by omega)
   simp only[h,decide_true,Bool.not_true,Bool.false_eq_true,if_false,Sem.run_pure,Result.andThen_ok]
   rw[ih']
   have key:(a.drop k=b.drop k)↔(a.drop (k+1)=b.drop (k+1)):=by rw[e1,e2,List.cons.injEq];exact⟨fun x=>x.2,fun x=>⟨h,x⟩⟩
   simp only[key]
  ·have key:¬ a.drop k=b.drop k:=by rw[e1,e2,List.cons.injEq];exact fun x=>h x.1
   clear e1 e2 ih
   simp[h,key]
theorem run_equalIn_bytes (d n:Nat) (t e:TypeId) (i:TypeInfo) (a b:List UInt8) (ht:P.underlying t=some (.array n e)) (he:P.underlying e=some (.int .u8)) (hi:P.info? e=some i) (hs:i.size=1)
  (ha:a.length=n) (hb:b.length=n) :
  (Op.equalIn (d+2) t (.agg (a.map cB).toArray) (.agg (b.map cB).toArray)).run P w=.ok (decide (a=b)) w:=by
 rw[Op.equalIn]
 simp only[Sem.run_bind,run_underlying ht,Result.andThen_ok,sizeOf,typeInfo,run_program,hi,hs,Sem.run_pure,Std.Legacy.Range.forIn_eq_forIn_range']
 have hl:=run_bytes_loop (P:=P) w d e a b he (by omega) n 0 (by omega)
 have hsz:[:n].size=n:=by simp[Std.Legacy.Range.size]
 rw[hsz]
 erw [hl]
 by_cases h:a=b <;> simp[h]
end
section
variable {P : Program} (w : World)
theorem run_eql_bytes (n:Nat) (t e:TypeId) (i:TypeInfo) (a b:List UInt8) (ht:P.underlying t=some (.array n e)) (he:P.underlying e=some (.int .u8)) (hi:P.info? e=some i) (hs:i.size=1)
  (ha:a.length=n) (hb:b.length=n):(binOp .eql t (.agg (a.map cB).toArray) (.agg (b.map cB).toArray)).run P w=.ok (.bool (decide (a=b))) w:=by
 rw[run_eql_struct,run_equalIn_bytes w 9998 n t e i a b ht he hi hs ha hb]
 rfl
theorem run_neq_bytes (n:Nat) (t e:TypeId) (i:TypeInfo) (a b:List UInt8) (ht:P.underlying t=some (.array n e)) (he:P.underlying e=some (.int .u8)) (hi:P.info? e=some i) (hs:i.size=1)
  (ha:a.length=n) (hb:b.length=n):(binOp .neq t (.agg (a.map cB).toArray) (.agg (b.map cB).toArray)).run P w=.ok (.bool (!decide (a=b))) w:=by
 rw[run_neq_struct,run_equalIn_bytes w 9998 n t e i a b ht he hi hs ha hb]
 rfl
end


/-! ### whole arrays and structs read out of memory as one value -/
def okA (w:World) (ad:Addr) (n:Nat):Bool:=(List.range n).all fun j=>(w.cell? (ad.add j)).isSome
def rdA (w:World) (ad:Addr) (n:Nat):Value:=.agg ((List.range n).map fun j=>(w.cell? (ad.add j)).getD undef).toArray
theorem At.ok {w:World} {ad:Addr} {cs:List Value} (h:At w ad cs):okA w ad cs.length=true:=by
 simp only[okA,List.all_eq_true,List.mem_range]
 intro j hj
 rw[h.2 j cs[j] (List.getElem?_eq_getElem hj)]
 rfl
theorem At.rd {w:World} {ad:Addr} {cs:List Value} (h:At w ad cs):rdA w ad cs.length=.agg cs.toArray:=by
 unfold rdA
 congr 2
 refine List.ext_getElem (by simp) fun j h1 h2=>?_
 simp only[List.getElem_map,List.getElem_range]
 rw[h.2 j cs[j] (List.getElem?_eq_getElem (by simpa using h2))]
 rfl
theorem At.of_ok {w:World} {ad:Addr} {n:Nat} (h:okA w ad n=true):∃ cs:List Value,cs.length=n∧rdA w ad n=.agg cs.toArray∧∀ j u,cs[j]? = some u→w.cell? (ad.add j)=some u:=by
 refine⟨(List.range n).map fun j=>(w.cell? (ad.add j)).getD undef,by simp,rfl,fun j u hu=>?_⟩
 simp only[List.getElem?_map,Option.map_eq_some_iff] at hu
 obtain⟨k,hk,rfl⟩:=hu
 obtain⟨hlt,rfl⟩:j<n∧j=k:=by
  rw[List.getElem?_eq_some_iff] at hk
  obtain⟨h1,h2⟩:=hk
  exact⟨by simpa using h1,by simpa using h2⟩
 simp only[okA,List.all_eq_true,List.mem_range] at h
 have:=h j hlt
 cases hc:w.cell? (ad.add j) with
 | none=>rw[hc] at this;cases this
 | some v=>rfl
def ldA (t:TypeId) (v:Value):Sem Value:=Instr.loadAt t v
def blA (t:TypeId) (parts:Array (Nat×Value)):Sem Value:=Instr.build t parts
def ldB (t:TypeId) (v:Value):Sem Value:=Instr.loadAt t v
def bxA (t:TypeId) (v:Value):Sem Value:=Instr.box t v
section
variable {P : Program} (w : World)
theorem run_ldA (ty:TypeId) (ad:Addr) (n:Nat) (d:TypeDesc) (h:okA w ad n=true)
  (hu:P.underlying ty=some d) (hd:(match d with|.struct _|.array _ _=>true|_=>false)=true) (hi:(P.info? ty).map (·.size)=some n) :
  (ldA ty (.pointer (some ad))).run P w=.ok (rdA w ad n) w:=by
 obtain⟨cs,hl,hr,hc⟩:=At.of_ok h
 have hlc:(loadCells ad cs.length).run P w=.ok cs.toArray w:=run_loadCells_list (P:=P) w ad cs hc
 cases hq:P.info? ty with
 | none=>simp[hq] at hi
 | some i =>
  have hs:i.size=cs.length:=by rw[hl];simpa[hq] using hi
  have hagg:(isAgg ty).run P w=.ok true w:=by
   unfold isAgg
   rw[Sem.run_bind,run_underlying hu w]
   cases d <;> simp_all
  rw[hr]
  simp[ldA,Instr.loadAt,Instr.sureAddr,loadVar,Sem.run_bind,hagg,sizeOf,typeInfo,hq,hs,hlc]
theorem run_ldA_if (ty:TypeId) (ad:Addr) (n:Nat) (d:TypeDesc)
  (hu:P.underlying ty=some d) (hd:(match d with|.struct _|.array _ _=>true|_=>false)=true) (hi:(P.info? ty).map (·.size)=some n) :
  (ldA ty (.pointer (some ad))).run P w=if okA w ad n=true then .ok (rdA w ad n) w else (ldB ty (.pointer (some ad))).run P w:=by
 split
 ·rename_i h;exact run_ldA w ty ad n d h hu hd hi
 ·rfl
theorem run_bxA (ty:TypeId) (cs:Array Value):(bxA ty (.agg cs)).run P w=.ok (.pointer (some ⟨w.heap.size,0,none⟩)) (w.alloc (.cells cs ty)):=by
 simp[bxA,Instr.box,newVar,newRow,newObj,Value.cells]
 rfl
theorem okA_drew (ad:Addr) (n:Nat):okA w.drew ad n=okA w ad n:=rfl
theorem rdA_drew (ad:Addr) (n:Nat):rdA w.drew ad n=rdA w ad n:=rfl
theorem okA_drewN (ad:Addr) (n k:Nat):okA (w.drewN k) ad n=okA w ad n:=rfl
theorem rdA_drewN (ad:Addr) (n k:Nat):rdA (w.drewN k) ad n=rdA w ad n:=rfl
theorem okA_alloc (o:Obj) (ad:Addr) (n:Nat) (h:ad.block<w.heap.size):okA (w.alloc o) ad n=okA w ad n:=by
 unfold okA
 congr 1
 funext j
 rw[World.cell?_alloc_lt w o _ (by rw[block_of_add];exact h)]
theorem rdA_alloc (o:Obj) (ad:Addr) (n:Nat) (h:ad.block<w.heap.size):rdA (w.alloc o) ad n=rdA w ad n:=by
 unfold rdA
 congr 2
 refine List.map_congr_left fun j _=>?_
 rw[World.cell?_alloc_lt w o _ (by rw[block_of_add];exact h)]
theorem at_new (cs:List Value) (t:TypeId) (k:Nat) (hk:k=w.heap.size):At (w.alloc (.cells cs.toArray t)) ⟨k,0,none⟩ cs:=by
 subst hk
 refine⟨by simp,fun j u hu=>?_⟩
 have hadd:(⟨w.heap.size,0,none⟩:Addr).add j=⟨w.heap.size,j,none⟩:=by unfold Addr.add;split <;> simp_all
 rw[hadd,World.cell?_alloc_at _ _ _ _ rfl]
 simpa using hu
theorem okA_new (cs:List Value) (t:TypeId) (k n:Nat) (hk:k=w.heap.size) (hn:cs.length=n):okA (w.alloc (.cells cs.toArray t)) ⟨k,0,none⟩ n=true:=by
 subst hn
 exact (at_new w cs t k hk).ok
theorem rdA_new (cs:List Value) (t:TypeId) (k n:Nat) (hk:k=w.heap.size) (hn:cs.length=n):rdA (w.alloc (.cells cs.toArray t)) ⟨k,0,none⟩ n=.agg cs.toArray:=by
 subst hn
 exact (at_new w cs t k hk).rd
end


/-! ### slice literals -/
theorem fold_set (off:Nat):∀ (l:List Value) (k:Nat) (cs:Array Value),off+k+l.length≤cs.size →
  ((l.zipIdx k).foldl (fun (cs:Array Value) (x:Value×Nat)=>cs.setIfInBounds (off+x.2) x.1) cs).toList=cs.toList.take (off+k)++l++cs.toList.drop (off+k+l.length)
 | [],k,cs,_=>by simp
 | u :: l,k,cs,h=>by
  simp only[List.length_cons] at h
  rw[List.zipIdx_cons,List.foldl_cons,fold_set off l (k+1) (cs.setIfInBounds (off+k) u) (by simp;omega)]
  have hk:off+k<cs.toList.length:=by simp;omega
  simp only[Array.toList_setIfInBounds,List.length_cons]
  rw[show off+(k+1)=off+k+1 from by omega,show off+k+(l.length+1)=off+k+1+l.length from by omega]
  rw[List.take_succ_eq_append_getElem (by simpa using hk),List.take_set_of_le (by omega),List.drop_set_of_lt (by omega)]
  simp
theorem fill_step (s:Nat) (k:Nat) (cs:Array Value) (v:Value) (rest:List (Nat×Value)) (hv:v.cells.size=s) (hc:(k+1) * s≤cs.size) :
  ∃ cs':Array Value,Instr.fill (fun i=>some (i * s,s)) cs ((k,v) :: rest)=Instr.fill (fun i=>some (i * s,s)) cs' rest∧cs'.size=cs.size ∧
   cs'.toList=cs.toList.take (k * s)++v.cells.toList++cs.toList.drop ((k+1) * s):=by
 have h1:k * s+s≤cs.size:=by rw[Nat.succ_mul] at hc;exact hc
 have hf:=fold_set (k * s) v.cells.toList 0 cs (by simp only[Array.length_toList,hv];omega)
 refine⟨(v.cells.toList.zipIdx 0).foldl (fun (cs:Array Value) (x:Value×Nat)=>cs.setIfInBounds (k * s+x.2) x.1) cs,?_,?_,?_⟩
 ·rw[Instr.fill]
  simp only[hv,ne_eq,not_true_eq_false]
  rw[if_neg (by simp;omega)]
  congr 1
  rw[← Array.foldl_toList,Array.toList_zipIdx]
 ·have:=congrArg List.length hf
  simp only[Array.length_toList,List.length_append,List.length_take,List.length_drop] at this
  omega
 ·rw[hf]
  simp only[Nat.add_zero,Array.length_toList,hv]
  rw[show (k+1) * s=k * s+s from Nat.succ_mul k s]
theorem fill_all {α:Type} (enc:α→Value) (s:Nat) (hs:∀ x,(enc x).cells.size=s):∀ (xs:List α) (k:Nat) (cs:Array Value),(k+xs.length) * s≤cs.size →
  ∃ cs':Array Value,Instr.fill (fun i=>some (i * s,s)) cs ((xs.zipIdx k).map fun x=>(x.2,enc x.1))=some cs'∧cs'.size=cs.size ∧
   cs'.toList=cs.toList.take (k * s)++xs.flatMap (fun x=>(enc x).cells.toList)++cs.toList.drop ((k+xs.length) * s)
 | [],k,cs,_=>⟨cs,rfl,rfl,by simp⟩
 | x :: xs,k,cs,h=>by
  simp only[List.length_cons] at h
  have h1:(k+1) * s≤cs.size:=Nat.le_trans (Nat.mul_le_mul_right _ (by omega)) h
  obtain⟨c1,e1,z1,t1⟩:=fill_step s k cs (enc x) ((xs.zipIdx (k+1)).map fun x=>(x.2,enc x.1)) (hs x) h1
  obtain⟨c2,e2,z2,t2⟩:=fill_all enc s hs xs (k+1) c1 (by rw[z1];exact Nat.le_trans (Nat.le_of_eq (by congr 1;omega)) h)
  refine⟨c2,?_,z2.trans z1,?_⟩
  ·rw[List.zipIdx_cons,List.map_cons,e1,e2]
  ·have h2:k * s+s≤cs.size:=by rw[← Nat.succ_mul];exact h1
   have hl:(cs.toList.take (k * s)++(enc x).cells.toList).length=(k+1) * s:=by
    simp only[List.length_append,List.length_take,Array.length_toList,hs,Nat.succ_mul]
    omega
   rw[t2,t1,List.take_append_of_le_length (by rw[hl];exact Nat.le_refl _),List.take_of_length_le (by rw[hl];exact Nat.le_refl _)]
   have hge:(k+1) * s≤(k+1+xs.length) * s:=Nat.mul_le_mul_right _ (by omega)
   rw[List.drop_append,List.drop_of_length_le (by rw[hl];exact hge),hl,List.drop_drop,List.nil_append]
   rw[show (k+1) * s+((k+1+xs.length) * s - (k+1) * s)=(k+(xs.length+1)) * s from by rw[show k+(xs.length+1)=k+1+xs.length from by omega];omega]
   simp[List.flatMap_cons]

section
variable {P : Program} (w : World)
def bsA (t:TypeId) (len:Nat) (parts:Array (Nat×Value)):Sem Value:=Instr.buildSlice t len parts
theorem run_bsA {α:Type} (enc:α→Value) (t e:TypeId) (i:TypeInfo) (z:Value) (s:Nat) (ht:P.underlying t=some (.slice e)) (hi:P.info? e=some i) (hz:i.zero=some z) (his:i.size=s)
  (hs:∀ x,(enc x).cells.size=s) (xs:List α) (hsmall:xs.length * s≤16777216) :
  (bsA t xs.length (xs.zipIdx.map fun x=>(x.2,enc x.1)).toArray).run P w=.ok (.slice (some ⟨w.heap.size,0,none⟩) xs.length xs.length) (w.alloc (.cells (xs.flatMap (fun x=>(enc x).cells.toList)).toArray e)):=by
 subst his
 have hfl:(xs.flatMap (fun x=>(enc x).cells.toList)).length=xs.length * i.size:=flatMap_length (fun x=>(enc x).cells.toList) i.size (fun x=>by simpa using hs x) xs
 unfold bsA Instr.buildSlice
 simp only[Sem.run_bind,run_underlying ht,Result.andThen_ok,sizeOf,typeInfo,run_program,hi,Sem.run_pure,zeroValue]
 rw[if_neg (by omega)]
 have key:∀ za:Array Value,Instr.fill (fun i_1=>some (i_1 * i.size,i.size)) (Array.map (fun x=>za[x % za.size]!) (Array.range (xs.length * i.size))) (List.map (fun x=>(x.snd,enc x.fst)) xs.zipIdx)
   = some (xs.flatMap (fun x=>(enc x).cells.toList)).toArray:=by
  intro za
  obtain⟨cs',e1,z1,t1⟩:=fill_all enc i.size hs xs 0 ((Array.range (xs.length * i.size)).map fun x=>za[x % za.size]!) (by simp)
  rw[e1]
  congr 1
  apply Array.ext'
  rw[t1]
  simp
 by_cases h0:xs.length * i.size=0
 ·rw[if_pos h0]
  simp only[Sem.run_bind,Sem.run_pure,Result.andThen_ok,key]
  rfl
 ·rw[if_neg h0]
  simp only[Sem.run_bind,Sem.run_pure,Result.andThen_ok,run_program,hi,hz,key]
  rfl
end

/-! ### slices that the call itself makes -/
def Own {α:Type} (w:World) (base:Nat) (e:TypeId) (s:Nat) (enc:α→List Value) (v:Value) (xs:List α):Prop:=w.ownsRow base e s v xs.length (xs.flatMap enc)

section
variable {α : Type} {w w' : World} {base : Nat} {e : TypeId} {s : Nat} {enc : α → List Value} {v : Value} {xs : List α}
theorem Own.nil (w:World) (base:Nat) (e:TypeId) (s:Nat) (enc:α→List Value):Own w base e s enc (.slice none 0 0) []:=World.ownsRow_nil w base e s
theorem Own.lit (hs:∀ x,(enc x).length=s) (xs:List α) (hb:base≤w.heap.size) (hm:xs.length≤4294967296) :
  Own (w.alloc (.cells (xs.flatMap enc).toArray e)) base e s enc (.slice (some ⟨w.heap.size,0,none⟩) xs.length xs.length) xs:=by
 have h:=World.ownsRow_lit (base:=base) (e:=e) (size:=s) w (xs.flatMap enc).toArray xs.length hb (by unfold maxLen;omega) (by simpa using flatMap_length enc s hs xs)
 exact h
theorem Own.sl (h:Own w base e s enc v xs):∃ A c,v=.slice A xs.length c∧xs.length≤c∧Sl w enc A xs:=Sl.of_own h
theorem Own.mono {base':Nat} (h:Own w base e s enc v xs) (hb:base'≤base):Own w base' e s enc v xs :=
 ⟨h.1,h.2.imp id fun ⟨g,cap,cur,a1,a2,r⟩=>⟨g,cap,cur,a1,Nat.le_trans hb a2,r⟩⟩
theorem Own.keep (h:Own w base e s enc v xs) (hb:Below w.heap.size w w'):Own w' base e s enc v xs:=by
 refine⟨h.1,h.2.imp id fun ⟨g,cap,cur,a1,a2,a3,r⟩=>⟨g,cap,cur,a1,a2,?_,r⟩⟩
 rw[hb.block g (Array.getElem?_eq_some_iff.1 a3).1]
 exact a3
theorem Own.lt (h:Own w base e s enc v xs):∀ k,v.ownBlock=some k→base≤k∧k<w.heap.size:=World.ownsRow.lt h
theorem Own.grew {B:Nat} {w0:World} (h:Own w base e s enc v xs) (hg:w.grownBy w' v.ownBlock) (hb:Below B w0 w) (hB:B≤base) (hs:B≤w.heap.size):Below B w0 w' :=
 hb.grown hg hs fun k hk=>Nat.le_trans hB (Own.lt h k hk).1
end

section
variable {P : Program} (w : World)
theorem wp_append_sl {α:Type} {o:Oper} {a:Act} {K:Act→World→Prop} {Q:Exit→Act→World→Prop} (sx x:Operand) (t:TypeId)
  (ho:o.op=.call { callee:=.builtin .append,args:=#[sx,x],argTypes:=#[t,t] })
  (base:Nat) (e:TypeId) (s bytes:Nat) (enc:α→List Value) (ht:P.underlying t=some (.slice e)) (hi:(P.info? e).map (fun i=>(i.zero.map (·.cells.size),i.size,i.bytes))=some (some s,s,bytes)) (hsz:0<s)
  (hs:∀ x,(enc x).length=s) (h1:∀ x,∀ u∈enc x,u.oneCell'=true)
  (v:Value) (xs:List α) (hv:a.eval sx=v) (hown:Own w base e s enc v xs)
  (A:Option Addr) (m c:Nat) (ys:List α) (hm:ys.length=m) (hx:a.eval x=.slice A m c) (hsl:Sl w enc A ys)
  (hlen:(xs.length+m) * bytes≤140737488355328) (hl2:xs.length+m≤9223372036854775807) (hbase:base≤w.heap.size)
  (h:∀ v' w',Own w' base e s enc v' (xs++ys)→w.grownBy w' v.ownBlock→K (a.put o.dst v') w'):o.wp P a w K Q:=by
 subst hm
 cases hq:P.info? e with
 | none=>rw[hq] at hi;cases hi
 | some i =>
  simp only[hq,Option.map_some,Option.some.injEq,Prod.mk.injEq] at hi
  obtain⟨hz,hsi,hby⟩:=hi
  cases hz0:i.zero with
  | none=>rw[hz0] at hz;cases hz
  | some z =>
   simp only[hz0,Option.map_some,Option.some.injEq] at hz
   have hones:∀ u∈ys.flatMap enc,u.oneCell'=true:=by
    intro u hu
    obtain⟨y,_,hy⟩:=List.mem_flatMap.1 hu
    exact h1 y u hy
   have fin:∀ v' w',w'.ownsRow base e s v' (xs.length+ys.length) (xs.flatMap enc++ys.flatMap enc)→Own w' base e s enc v' (xs++ys):=by
    intro v' w' ho
    unfold Own
    rw[List.length_append,List.flatMap_append]
    exact ho
   by_cases hys:ys=[]
   ·subst hys
    have hrun:(Builtin.append_ #[t,t] o.type #[v,.slice A 0 c]).run P w=.ok v w:=by
     rcases hown.2 with⟨rfl,_⟩|⟨g,cap,cur,rfl,_,_,hnc,_⟩
     ·cases A <;> simp[Builtin.append_,run_underlying ht,sizeOf,typeInfo,hq,Builtin.lenOf,Builtin.firstCells,loadCells,loadCellsFrom]
     ·cases A <;> simp[Builtin.append_,run_underlying ht,sizeOf,typeInfo,hq,Builtin.lenOf,Builtin.firstCells,hnc,storeCells,loadCells,loadCellsFrom]
    unfold Oper.wp execOp
    simp only[ho,resolve,invoke,builtin,Sem.run_bind,Sem.run_pure,Result.andThen_ok,List.map_toArray,List.map_cons,List.map_nil,hv,hx,List.length_nil,hrun]
    exact (h v w (fin v w (by have:=hown;unfold Own at this;simpa using this)) (World.grownBy.refl w _))
   ·obtain⟨ad,rfl,hat⟩:=hsl hys
    refine wp_append_own w sx x t ho base e i z s bytes ht hq hz0 hsi hby hz hsz v xs.length (xs.flatMap enc) hv hown ad ys.length c (ys.flatMap enc) hx
     (flatMap_length enc s hs ys) hat.2 hones (by unfold maxLen;omega) hlen hbase ?_
    intro v' w' h2 h3 _
    exact h v' w' (fin v' w' h2) h3
theorem wpList_append_sl {α:Type} {ops:Array Oper} {rest:List Oper} {o:Oper} {a:Act} {Q:Exit→Act→World→Prop} (hgd:o.guard=none) (sx x:Operand) (t:TypeId)
  (ho:o.op=.call { callee:=.builtin .append,args:=#[sx,x],argTypes:=#[t,t] })
  (base:Nat) (e:TypeId) (s bytes:Nat) (enc:α→List Value) (ht:P.underlying t=some (.slice e)) (hi:(P.info? e).map (fun i=>(i.zero.map (·.cells.size),i.size,i.bytes))=some (some s,s,bytes)) (hsz:0<s)
  (hs:∀ x,(enc x).length=s) (h1:∀ x,∀ u∈enc x,u.oneCell'=true)
  (v:Value) (xs:List α) (hv:a.eval sx=v) (hown:Own w base e s enc v xs)
  (A:Option Addr) (m c:Nat) (ys:List α) (hm:ys.length=m) (hx:a.eval x=.slice A m c) (hsl:Sl w enc A ys)
  (hlen:(xs.length+m) * bytes≤140737488355328) (hl2:xs.length+m≤9223372036854775807) (hbase:base≤w.heap.size)
  (h:∀ v' w',Own w' base e s enc v' (xs++ys)→w.grownBy w' v.ownBlock→wpList P ops Q rest (a.put o.dst v') w'):wpList P ops Q (o :: rest) a w :=
 wpList_plain hgd fun _ hK=>wp_append_sl w sx x t ho base e s bytes enc ht hi hsz hs h1 v xs hv hown A m c ys hm hx hsl hlen hl2 hbase fun v' w' h2 h3=>hK _ _ (h v' w' h2 h3)
end


def apA (ts:Array TypeId) (ty:TypeId) (args:Array Value):Sem Value:=Builtin.append_ ts ty args
@[go_sem ↓] theorem append_apA (ts:Array TypeId) (ty:TypeId) (args:Array Value):Builtin.append_ ts ty args=apA ts ty args:=rfl


/-! ### whole arrays and structs stored into variables of the call's own -/
def rowOk (w:World) (g n:Nat):Bool:=match w.heap[g]? with|some (.cells cs _ (0,0))=>cs.size==n|_=>false
def stA (t:TypeId) (v u:Value):Sem Unit:=Instr.storeAt t v u
def stB (t:TypeId) (v u:Value):Sem Unit:=Instr.storeAt t v u
def alA (t:TypeId) (h:Bool) (v:Value):Sem Value:=Instr.alloc t h v
section
variable {P : Program} (w : World)
theorem run_stA (ty:TypeId) (g:Nat) (cells:Array Value) (n:Nat) (h:rowOk w g n=true) (hi:(P.info? ty).map (·.size)=some n) (hn:cells.size=n) (h1:cells.all (·.oneCell')=true) :
  (stA ty (.pointer (some ⟨g,0,none⟩)) (.agg cells)).run P w=.ok () (w.setRow g cells):=by
 unfold rowOk at h
 split at h
 ·rename_i cs t hg
  simp only[beq_iff_eq] at h
  simp only[stA,Instr.storeAt,Instr.sureAddr,Sem.run_bind,Sem.run_pure,Result.andThen_ok]
  exact run_storeVar_row w g t ty cs cells hg (by rw[hi,hn]) (by omega) h1
 ·cases h
theorem run_stA_if (ty:TypeId) (g:Nat) (cells:Array Value) (n:Nat) (hi:(P.info? ty).map (·.size)=some n) (hn:cells.size=n) (h1:cells.all (·.oneCell')=true) :
  (stA ty (.pointer (some ⟨g,0,none⟩)) (.agg cells)).run P w=if rowOk w g n=true then .ok () (w.setRow g cells) else (stB ty (.pointer (some ⟨g,0,none⟩)) (.agg cells)).run P w:=by
 split
 ·rename_i h;exact run_stA w ty g cells n h hi hn h1
 ·rfl
theorem rowOk_drew (g n:Nat):rowOk w.drew g n=rowOk w g n:=rfl
theorem rowOk_drewN (g n k:Nat):rowOk (w.drewN k) g n=rowOk w g n:=rfl
theorem rowOk_new (cs:Array Value) (t:TypeId) (g n:Nat) (hg:g=w.heap.size) (hn:cs.size=n):rowOk (w.alloc (.cells cs t)) g n=true:=by
 subst hg
 unfold rowOk
 rw[heap_alloc_new]
 simpa using hn
theorem rowOk_alloc (o:Obj) (g n:Nat) (hg:g<w.heap.size):rowOk (w.alloc o) g n=rowOk w g n:=by
 unfold rowOk
 rw[Below.heap_alloc w o g hg]
theorem setRow_new (c cs:Array Value) (t:TypeId) (g:Nat) (hg:g=w.heap.size):(w.alloc (.cells c t)).setRow g cs=w.alloc (.cells cs t):=by
 subst hg
 show World.setRow { w with heap:=w.heap.push (.cells c t) } w.heap.size cs={ w with heap:=w.heap.push (.cells cs t) }
 unfold World.setRow
 congr 1
 apply Array.ext
 ·simp
 ·intro i h1 h2
  simp only[Array.getElem_modify,Array.getElem_push]
  by_cases hi:i<w.heap.size
  ·simp[hi,Nat.ne_of_gt hi]
  ·have:i=w.heap.size:=by simp at h2;omega
   subst this
   simp
theorem setRow_alloc (o:Obj) (cs:Array Value) (g:Nat) (hg:g<w.heap.size):(w.alloc o).setRow g cs=(w.setRow g cs).alloc o:=by
 show World.setRow { w with heap:=w.heap.push o } g cs={ (w.setRow g cs) with heap:=(w.setRow g cs).heap.push o }
 unfold World.setRow
 congr 1
 apply Array.ext
 ·simp
 ·intro i h1 h2
  simp only[Array.getElem_modify,Array.getElem_push,Array.size_modify]
  by_cases hi:i<w.heap.size
  ·simp[hi]
  ·have:i=w.heap.size:=by simp at h2;omega
   subst this
   simp[Nat.ne_of_lt hg]
theorem setRow_drew (cs:Array Value) (g:Nat):w.drew.setRow g cs=(w.setRow g cs).drew:=rfl
theorem setRow_drewN (cs:Array Value) (g k:Nat):(w.drewN k).setRow g cs=(w.setRow g cs).drewN k:=rfl
end

end Go.Proofs.YtgojaelkdpabkaaGreatDoor
