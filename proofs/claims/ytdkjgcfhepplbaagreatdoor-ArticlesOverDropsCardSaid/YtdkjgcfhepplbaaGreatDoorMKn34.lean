/- Slices of the call's own that may begin anywhere in their block: what append and a cut make of them. -/
import Derived.Laws.AppendOwn
import Derived.Lib.AppendStr
import Derived.Test.YtdkjgcfhepplbaaGreatDoorMAnsV
namespace Go.Proofs.YtdkjgcfhepplbaaGreatDoor
open Go.RowKit
theorem add_plain (g off k:Nat):(⟨g,off,none⟩:Addr).add k=⟨g,off+k,none⟩:=by unfold Addr.add;split <;> simp_all
def Os {α:Type} (w:World) (e:TypeId) (s:Nat) (enc:α→List Value) (A:Option Addr) (n c:Nat) (xs:List α):Prop :=
 n=xs.length∧n≤c∧c≤maxLen∧(xs.flatMap enc).length=n * s ∧
 ((A=none∧n=0∧c=0)∨∃ g off cur,A=some ⟨g,off,none⟩∧w.heap[g]? = some (.cells cur e (0,0))∧off+c * s≤cur.size∧(cur.toList.drop off).take (n * s)=xs.flatMap enc)
def blkA (A:Option Addr):Option Nat:=A.map (·.block)
section
variable {α : Type} {w w' : World} {e : TypeId} {s : Nat} {enc : α → List Value} {A : Option Addr} {n c : Nat} {xs : List α}
theorem Os.nil (w:World) (e:TypeId) (s:Nat) (enc:α→List Value):Os w e s enc none 0 0 []:=⟨rfl,Nat.le_refl _,Nat.zero_le _,by simp,.inl ⟨rfl,rfl,rfl⟩⟩
theorem Os.cells (h:Os w e s enc A n c xs) (hx:xs.flatMap enc≠[]):∃ ad,A=some ad∧At w ad (xs.flatMap enc):=by
 obtain⟨h1,h2,h3,h4,h5⟩:=h
 rcases h5 with⟨rfl,rfl,rfl⟩|⟨g,off,cur,rfl,hg,hs,ht⟩
 ·rw[Nat.zero_mul] at h4
  exact absurd (List.eq_nil_of_length_eq_zero h4) hx
 ·refine⟨_,rfl,(Array.getElem?_eq_some_iff.1 hg).1,fun j u hu=>?_⟩
  rw[add_plain,cell_of_row w g (off+j) cur e (0,0) hg]
  rw[← ht,List.getElem?_take] at hu
  split at hu
  ·rw[List.getElem?_drop] at hu
   simpa using hu
  ·cases hu
theorem Os.sl (h:Os w e s enc A n c xs) (hs:∀ x,enc x≠[]):Sl w enc A xs:=by
 intro hx
 refine h.cells (fun h0=>?_)
 cases xs with
 | nil=>exact hx rfl
 | cons x r =>
  rw[List.flatMap_cons] at h0
  exact hs x (List.append_eq_nil_iff.1 h0).1
theorem Os.same (h:Os w e s enc A n c xs) (hk:∀ g,blkA A=some g→w'.heap[g]? = w.heap[g]?):Os w' e s enc A n c xs:=by
 obtain⟨h1,h2,h3,h4,h5⟩:=h
 refine⟨h1,h2,h3,h4,?_⟩
 rcases h5 with h5|⟨g,off,cur,rfl,hg,hs,ht⟩
 ·exact .inl h5
 ·exact .inr ⟨g,off,cur,rfl,(hk g rfl).trans hg,hs,ht⟩
theorem Os.lt (h:Os w e s enc A n c xs):∀ g,blkA A=some g→g<w.heap.size:=by
 intro g hg
 obtain⟨h1,h2,h3,h4,h5⟩:=h
 rcases h5 with⟨rfl,_⟩|⟨g',off,cur,rfl,hb,hs,ht⟩
 ·cases hg
 ·obtain rfl:g'=g:=by simpa[blkA] using hg
  exact (Array.getElem?_eq_some_iff.1 hb).1
theorem Os.keep (h:Os w e s enc A n c xs) (hb:Below w.heap.size w w'):Os w' e s enc A n c xs:=h.same fun g hg=>hb.block g (h.lt g hg)
theorem Os.of_own {base:Nat} (hs:∀ x,(enc x).length=s) (h:Own w base e s enc (.slice A n c) xs):Os w e s enc A n c xs:=by
 obtain⟨h1,h2⟩:=h
 rcases h2 with⟨hv,hn⟩|⟨g,cap,cur,hv,_,hg,hnc,hcm,hcs,ht⟩
 ·injection hv with e1 e2 e3
  subst e1 e2 e3
  obtain rfl:xs=[]:=List.eq_nil_of_length_eq_zero hn
  exact Os.nil _ _ _ _
 ·injection hv with e1 e2 e3
  subst e1 e2 e3
  exact⟨rfl,hnc,hcm,h1,.inr ⟨g,0,cur,rfl,hg,by omega,by rw[List.drop_zero];exact ht⟩⟩
theorem Os.cut (hs:∀ x,(enc x).length=s) (h:Os w e s enc A n c xs) (k:Nat) (hk:k≤n):Os w e s enc (if c=k then A else A.map (·.add (k * s))) (n - k) (c - k) (xs.drop k):=by
 obtain⟨h1,h2,h3,h4,h5⟩:=h
 have hd:(xs.drop k).flatMap enc=(xs.flatMap enc).drop (k * s):=by
  have h6:xs.flatMap enc=(xs.take k).flatMap enc++(xs.drop k).flatMap enc:=by rw[← List.flatMap_append,List.take_append_drop]
  have h7:((xs.take k).flatMap enc).length=k * s:=by rw[flatMap_length enc s hs,List.length_take,Nat.min_eq_left (by omega)]
  rw[h6,← h7,List.drop_left]
 refine⟨by rw[List.length_drop,h1],by omega,by omega,by rw[hd,List.length_drop,h4,Nat.sub_mul],?_⟩
 rcases h5 with⟨rfl,rfl,rfl⟩|⟨g,off,cur,rfl,hg,hz,ht⟩
 ·exact .inl ⟨by split <;> rfl,by omega,by omega⟩
 ·by_cases hc:c=k
  ·rw[if_pos hc]
   refine .inr ⟨g,off,cur,rfl,hg,by rw[show c - k=0 by omega];omega,?_⟩
   rw[show n - k=0 by omega,Nat.zero_mul,List.take_zero,hd,List.drop_eq_nil_of_le (by rw[h4];exact Nat.mul_le_mul_right _ (by omega))]
  ·rw[if_neg hc]
   refine .inr ⟨g,off+k * s,cur,by simp[add_plain],hg,?_,?_⟩
   ·rw[Nat.add_assoc,← Nat.add_mul,show k+(c - k)=c by omega]
    exact hz
   ·rw[hd,← ht,List.drop_take,List.drop_drop,Nat.sub_mul]
theorem blk_cut (A:Option Addr) (c k j:Nat):blkA (if c=k then A else A.map (·.add j))=blkA A:=by
 split
 ·rfl
 ·cases A with
  | none=>rfl
  | some a=>simp[blkA,block_of_add]
structure OsGrew (w:World) (A:Option Addr) (w':World) (A':Option Addr):Prop where
 grown:w.grownBy w' (blkA A)
 blk:blkA A'=blkA A∨blkA A'=some w.heap.size
theorem os_new {ys:List α} {zs:List Value} (arr:Array Value) (ha:arr.toList=ys.flatMap enc++zs) (old need:Nat) (h63:need≤maxLen) (hl:(ys.flatMap enc).length=need * s) (hn:ys.length=need) (hz:zs.length=(grownCap w need old e - need) * s) (A:Option Addr) :
  Os (w.drew.alloc (.cells arr e)) e s enc (some ⟨w.heap.size,0,none⟩) need (grownCap w need old e) ys ∧
  OsGrew w A (w.drew.alloc (.cells arr e)) (some ⟨w.heap.size,0,none⟩):=by
 have hge:=grownCap_ge w need old e
 have hcm:grownCap w need old e≤maxLen:=grownCap_le_maxLen w need old e h63
 refine⟨⟨hn.symm,hge,hcm,hl,.inr ⟨w.heap.size,0,_,rfl,heap_alloc_new w.drew _,?_,?_⟩⟩,⟨⟨rfl,rfl,rfl,by simp,fun k hk _=>(below_alloc w.drew _).block k hk⟩,Or.inr rfl⟩⟩
 ·rw[← Array.length_toList,ha,List.length_append,hl,hz,← Nat.add_mul,Nat.zero_add]
  exact Nat.le_of_eq (by congr 1;omega)
 ·rw[List.drop_zero,ha,← hl]
  exact List.take_left
theorem list_put (cur news:List Value) (off k:Nat) (h:off+k+news.length≤cur.length) :
  ((cur.take (off+k)++news++cur.drop (off+k+news.length)).drop off).take (k+news.length)=(cur.drop off).take k++news:=by
 rw[List.append_assoc,List.drop_append_of_le_length (by rw[List.length_take];omega),List.drop_take,show off+k - off=k by omega,← List.append_assoc]
 have hl:((cur.drop off).take k++news).length=k+news.length:=by rw[List.length_append,List.length_take,List.length_drop];omega
 rw[← hl,List.take_left]
theorem os_put (h:Os w e s enc A n c xs) {g off:Nat} {cur:Array Value} (hA:A=some ⟨g,off,none⟩) (hg:w.heap[g]? = some (.cells cur e (0,0))) (hz:off+c * s≤cur.size) (ht:(cur.toList.drop off).take (n * s)=xs.flatMap enc)
  (ys:List α) (m:Nat) (hm:ys.length=m) (hl:(ys.flatMap enc).length=m * s) (hr:n+m≤c) :
  Os (w.setRow g (cur.toList.take (off+n * s)++ys.flatMap enc++cur.toList.drop (off+n * s+(ys.flatMap enc).length)).toArray) e s enc A (n+m) c (xs++ys) ∧
  OsGrew w A (w.setRow g (cur.toList.take (off+n * s)++ys.flatMap enc++cur.toList.drop (off+n * s+(ys.flatMap enc).length)).toArray) A:=by
 subst hA
 have hfit:off+n * s+(ys.flatMap enc).length≤cur.toList.length:=by
  rw[hl,Nat.add_assoc,← Nat.add_mul,Array.length_toList]
  exact Nat.le_trans (Nat.add_le_add_left (Nat.mul_le_mul_right _ hr) _) hz
 refine⟨⟨by rw[List.length_append,← h.1,hm],hr,h.2.2.1,by rw[List.flatMap_append,List.length_append,h.2.2.2.1,hl,Nat.add_mul],.inr ⟨g,off,_,rfl,setRow_heap w g cur _ e _ hg,?_,?_⟩⟩,⟨⟨rfl,rfl,rfl,by simp,fun k _ hk=>setRow_other w g k _ (fun e=>hk (by simp[blkA,e]))⟩,Or.inl rfl⟩⟩
 ·simp only[List.size_toArray,List.length_append,List.length_take,List.length_drop]
  rw[Array.length_toList] at hfit ⊢
  omega
 ·rw[List.flatMap_append,← ht,show (n+m) * s=n * s+(ys.flatMap enc).length by rw[hl,Nat.add_mul]]
  exact list_put _ _ _ _ hfit
end
section
variable {P : Program} {α : Type} (w : World) {e : TypeId} {s : Nat} {enc : α → List Value} {A : Option Addr} {n c : Nat} {xs : List α}
theorem run_append_os (t ty:TypeId) (bytes:Nat) (ht:P.underlying t=some (.slice e)) (hi:(P.info? e).map (fun i=>(i.zero.map (·.cells.size),i.size,i.bytes))=some (some s,s,bytes)) (hsz:0<s)
  (hs:∀ x,(enc x).length=s) (h1:∀ x,∀ u∈enc x,u.oneCell'=true) (h:Os w e s enc A n c xs)
  (B:Option Addr) (m c2:Nat) (ys:List α) (hm:ys.length=m) (hsl:Sl w enc B ys) (hlen:(n+m) * bytes≤140737488355328) (hl2:n+m≤4294967296) :
  ∃ A' c' w',(Builtin.append_ #[t,t] ty #[.slice A n c,.slice B m c2]).run P w=.ok (.slice A' (n+m) c') w'∧Os w' e s enc A' (n+m) c' (xs++ys)∧OsGrew w A w' A':=by
 cases hq:P.info? e with
 | none=>rw[hq] at hi;cases hi
 | some i =>
  simp only[hq,Option.map_some,Option.some.injEq,Prod.mk.injEq] at hi
  obtain⟨hz,hsi,hby⟩:=hi
  cases hz0:i.zero with
  | none=>rw[hz0] at hz;cases hz
  | some z =>
   simp only[hz0,Option.map_some,Option.some.injEq] at hz
   subst hsi hby
   have hl:(ys.flatMap enc).length=m * i.size:=by rw[flatMap_length enc _ hs,hm]
   have hones:∀ u∈ys.flatMap enc,u.oneCell'=true:=by
    intro u hu
    obtain⟨y,_,hy⟩:=List.mem_flatMap.1 hu
    exact h1 y u hy
   by_cases hys:ys=[]
   ·subst hys
    obtain rfl:m=0:=hm.symm
    refine⟨A,c,w,?_,by simpa using h,⟨World.grownBy.refl w _,Or.inl rfl⟩⟩
    have hnc:=h.2.1
    rcases h.2.2.2.2 with⟨rfl,rfl,rfl⟩|⟨g,off,cur,rfl,hg,hz2,ht2⟩
    ·cases B <;> simp[Builtin.append_,run_underlying ht,sizeOf,typeInfo,hq,Builtin.lenOf,Builtin.firstCells,loadCells,loadCellsFrom]
    ·cases B <;> simp[Builtin.append_,run_underlying ht,sizeOf,typeInfo,hq,Builtin.lenOf,Builtin.firstCells,hnc,storeCells,loadCells,loadCellsFrom]
   ·obtain⟨ad,rfl,hat⟩:=hsl hys
    have hm0:0<m:=by rw[← hm];exact List.length_pos_iff.2 hys
    have hzl:∀ k,(Builtin.zeroCells z.cells k).toList.length=k * i.size:=fun k=>by rw[Array.length_toList,size_zeroCells,hz]
    rcases h.2.2.2.2 with⟨rfl,rfl,rfl⟩|⟨g,off,cur,rfl,hg,hz2,ht2⟩
    ·obtain rfl:xs=[]:=List.eq_nil_of_length_eq_zero h.1.symm
     simp only[Nat.zero_add] at hlen hl2 ⊢
     have hr:=run_append_nil (P:=P) w t ty e i z ht hq hz0 ad m c2 (ys.flatMap enc) hl hat.2 hm0 (by omega) (by omega)
     exact⟨_,_,_,hr,os_new (w:=w) (e:=e) _ (by simp) 0 m (by unfold maxLen;omega) hl hm (hzl _) none⟩
    ·by_cases hroom:n+m≤c
     ·have hfit:off+n * i.size+0+(ys.flatMap enc).length≤cur.size:=by
       rw[hl,Nat.add_zero,Nat.add_assoc,← Nat.add_mul]
       exact Nat.le_trans (Nat.add_le_add_left (Nat.mul_le_mul_right _ hroom) _) hz2
      have hst:=run_storeCells_at P g (off+n * i.size) e (ys.flatMap enc) 0 cur w hg hfit hones
      simp only[Nat.add_zero] at hst
      have hf:=run_firstCells_some (P:=P) w i.size m ad m c2 (ys.flatMap enc) hl hat.2
      obtain⟨h5,h6⟩:=os_put h rfl hg hz2 ht2 ys m hm hl hroom
      refine⟨_,_,_,?_,h5,h6⟩
      simp[Builtin.append_,run_underlying ht,sizeOf,typeInfo,hq,Builtin.lenOf,hroom,hf,add_plain,hst]
     ·have hxl:(xs.flatMap enc).length=n * i.size:=h.2.2.2.1
      have holds:∀ j u,(xs.flatMap enc)[j]? = some u→w.cell? ((⟨g,off,none⟩:Addr).add j)=some u:=by
       by_cases hx:xs.flatMap enc=[]
       ·rw[hx];intro j u hu;cases hu
       ·obtain⟨ad',h7,h8⟩:=h.cells hx
        injection h7 with h7
        rw[h7]
        exact h8.2
      have hr:=run_append_grow (P:=P) w t ty e i z ht hq hz0 ⟨g,off,none⟩ n c (xs.flatMap enc) hxl holds ad m c2 (ys.flatMap enc) hl hat.2 (by omega) (by omega) (growslice_fits (by omega) hlen)
      exact⟨_,_,_,hr,os_new (w:=w) (e:=e) (ys:=xs++ys) _ (by simp) c (n+m) (by unfold maxLen;omega) (by rw[List.flatMap_append,List.length_append,hxl,hl,Nat.add_mul]) (by rw[List.length_append,← h.1,hm]) (hzl _) (some ⟨g,off,none⟩)⟩
theorem run_append_os_text (t u ty:TypeId) (ht:P.underlying t=some (.slice e)) (hu:P.underlying u=some .string) (hi:(P.info? e).map (fun i=>(i.zero,i.size,i.bytes))=some (some (.int .u8 0),1,1))
  {xs:List UInt8} (h:Os w e 1 (fun b=>[cB b]) A n c xs) (tx:ByteArray) (hl2:n+tx.size≤4294967296) :
  ∃ A' c' w',(Builtin.append_ #[t,u] ty #[.slice A n c,.string tx]).run P w=.ok (.slice A' (n+tx.size) c') w'∧Os w' e 1 (fun b=>[cB b]) A' (n+tx.size) c' (xs++tx.data.toList)∧OsGrew w A w' A':=by
 have hcs:∀ l:List UInt8,l.flatMap (fun b=>[cB b])=l.map cB:=fun l=>by induction l <;> simp_all
 have hsc:Lib.strCells tx=tx.data.toList.flatMap (fun b=>[cB b]):=by rw[hcs];rfl
 cases hq:P.info? e with
 | none=>rw[hq] at hi;cases hi
 | some i =>
  simp only[hq,Option.map_some,Option.some.injEq,Prod.mk.injEq] at hi
  obtain⟨hz0,hsi,hby⟩:=hi
  have hl:(tx.data.toList.flatMap (fun b=>[cB b])).length=tx.size * 1:=by rw[← hsc,Lib.strCells_length,Nat.mul_one]
  have hm:tx.data.toList.length=tx.size:=by rw[Array.length_toList];rfl
  have hzl:∀ k,(Builtin.zeroCells (Value.int .u8 0).cells k).toList.length=k * 1:=fun k=>by rw[Array.length_toList,size_zeroCells];rfl
  by_cases hys:tx.size=0
  ·refine⟨A,c,w,?_,?_,⟨World.grownBy.refl w _,Or.inl rfl⟩⟩
   ·have hnc:=h.2.1
    have hx:(tx.extract 0 0).data=#[]:=by
     rw[ByteArray.data_extract]
     simp
    rcases h.2.2.2.2 with⟨rfl,rfl,rfl⟩|⟨g,off,cur,rfl,hg,hz2,ht2⟩
    ·simp[Builtin.append_,run_underlying ht,run_underlying hu,sizeOf,typeInfo,hq,Builtin.lenOf,Builtin.firstCells,hys,hx]
    ·simp[Builtin.append_,run_underlying ht,run_underlying hu,sizeOf,typeInfo,hq,Builtin.lenOf,Builtin.firstCells,hys,hnc,hx,storeCells]
   ·rw[hys,Nat.add_zero,show tx.data.toList=[] from List.eq_nil_of_length_eq_zero (by omega),List.append_nil]
    exact h
  ·rcases h.2.2.2.2 with⟨rfl,rfl,rfl⟩|⟨g,off,cur,rfl,hg,hz2,ht2⟩
   ·obtain rfl:xs=[]:=List.eq_nil_of_length_eq_zero h.1.symm
    simp only[Nat.zero_add] at hl2 ⊢
    have hr:=run_append_nil_string (P:=P) w t u ty e i (.int .u8 0) ht hu hq hz0 tx (by omega) (by omega) (by rw[hby];omega)
    have hcc:(tx.data.map (fun b=>Value.int .u8 (b.toNat:Int))).toList=tx.data.toList.flatMap (fun b=>[cB b]):=by
     rw[hcs,Array.toList_map]
     rfl
    exact⟨_,_,_,hr,os_new (w:=w) (e:=e) (enc:=fun b=>[cB b]) (ys:=tx.data.toList) _ (by rw[Array.toList_append,hcc]) 0 tx.size (by unfold maxLen;omega) hl hm (hzl _) none⟩
   ·by_cases hroom:n+tx.size≤c
    ·have hfit:off+n * 1+0+(tx.data.toList.flatMap (fun b=>[cB b])).length≤cur.size:=by
      rw[hl]
      omega
     have hst:=run_storeCells_at P g (off+n * 1) e (tx.data.toList.flatMap (fun b=>[cB b])) 0 cur w hg hfit (fun v hv=>by
      obtain⟨b,_,hb⟩:=List.mem_flatMap.1 hv
      rw[List.mem_singleton.1 hb]
      rfl)
     simp only[Nat.add_zero] at hst
     have hf:=Lib.run_firstCells_string (P:=P) w 1 tx
     rw[hsc] at hf
     obtain⟨h5,h6⟩:=os_put h rfl hg hz2 ht2 tx.data.toList tx.size hm hl hroom
     refine⟨_,_,_,?_,h5,h6⟩
     simp only[Nat.mul_one] at hst ⊢
     simp[Builtin.append_,run_underlying ht,run_underlying hu,sizeOf,typeInfo,hq,hsi,Builtin.lenOf,hroom,hf,add_plain,hst]
    ·have hxl:(xs.flatMap (fun b=>[cB b])).length=n * i.size:=by rw[hsi];exact h.2.2.2.1
     have holds:∀ j u,(xs.flatMap (fun b=>[cB b]))[j]? = some u→w.cell? ((⟨g,off,none⟩:Addr).add j)=some u:=by
      by_cases hx:xs.flatMap (fun b=>[cB b])=[]
      ·rw[hx];intro j u hu;cases hu
      ·obtain⟨ad',h7,h8⟩:=h.cells hx
       injection h7 with h7
       rw[h7]
       exact h8.2
     have hr:=Lib.run_append_grow_string (P:=P) w t u ty e i (.int .u8 0) ht hu hq hz0 ⟨g,off,none⟩ n c (xs.flatMap (fun b=>[cB b])) hxl holds tx (by omega) (by omega) (growslice_fits (by omega) (by rw[hby];omega))
     exact⟨_,_,_,hr,os_new (w:=w) (e:=e) (enc:=fun b=>[cB b]) (ys:=xs++tx.data.toList) _ (by rw[hsc];simp) c (n+tx.size) (by unfold maxLen;omega) (by rw[List.flatMap_append,List.length_append,h.2.2.2.1,hl];omega) (by rw[List.length_append,← h.1,hm]) (hzl _) (some ⟨g,off,none⟩)⟩
theorem wp_append_os {o:Oper} {a:Act} {K:Act→World→Prop} {Q:Exit→Act→World→Prop} (sx x:Operand) (t:TypeId)
  (ho:o.op=.call { callee:=.builtin .append,args:=#[sx,x],argTypes:=#[t,t] })
  (bytes:Nat) (ht:P.underlying t=some (.slice e)) (hi:(P.info? e).map (fun i=>(i.zero.map (·.cells.size),i.size,i.bytes))=some (some s,s,bytes)) (hsz:0<s)
  (hs:∀ x,(enc x).length=s) (h1:∀ x,∀ u∈enc x,u.oneCell'=true) (hv:a.eval sx=.slice A n c) (h:Os w e s enc A n c xs)
  (B:Option Addr) (m c2:Nat) (ys:List α) (hm:ys.length=m) (hx:a.eval x=.slice B m c2) (hsl:Sl w enc B ys) (hlen:(n+m) * bytes≤140737488355328) (hl2:n+m≤4294967296)
  (hK:∀ A' c' w',Os w' e s enc A' (n+m) c' (xs++ys)→OsGrew w A w' A'→K (a.put o.dst (.slice A' (n+m) c')) w'):o.wp P a w K Q:=by
 obtain⟨A',c',w',hr,h2,h3⟩:=run_append_os (P:=P) w t o.type bytes ht hi hsz hs h1 h B m c2 ys hm hsl hlen hl2
 unfold Oper.wp execOp
 simp only[ho,resolve,invoke,builtin,Sem.run_bind,Sem.run_pure,Result.andThen_ok,List.map_toArray,List.map_cons,List.map_nil,hv,hx,hr]
 exact hK A' c' w' h2 h3
theorem wp_append_os_text {o:Oper} {a:Act} {K:Act→World→Prop} {Q:Exit→Act→World→Prop} (sx x:Operand) (t u:TypeId)
  (ho:o.op=.call { callee:=.builtin .append,args:=#[sx,x],argTypes:=#[t,u] })
  (ht:P.underlying t=some (.slice e)) (hu:P.underlying u=some .string) (hi:(P.info? e).map (fun i=>(i.zero,i.size,i.bytes))=some (some (.int .u8 0),1,1))
  {xs:List UInt8} (hv:a.eval sx=.slice A n c) (h:Os w e 1 (fun b=>[cB b]) A n c xs) (tx:ByteArray) (hx:a.eval x=.string tx) (hl2:n+tx.size≤4294967296)
  (hK:∀ A' c' w',Os w' e 1 (fun b=>[cB b]) A' (n+tx.size) c' (xs++tx.data.toList)→OsGrew w A w' A'→K (a.put o.dst (.slice A' (n+tx.size) c')) w'):o.wp P a w K Q:=by
 obtain⟨A',c',w',hr,h2,h3⟩:=run_append_os_text (P:=P) w t u o.type ht hu hi h tx hl2
 unfold Oper.wp execOp
 simp only[ho,resolve,invoke,builtin,Sem.run_bind,Sem.run_pure,Result.andThen_ok,List.map_toArray,List.map_cons,List.map_nil,hv,hx,hr]
 exact hK A' c' w' h2 h3
end
open Go.RowKit
def HearQ (b:Nat) (s':Tk) (qs:List Qn) (ts:List Txt) (no:Int) (F:List Nat) (w:World) (e:Ending) (w':World):Prop :=
 ∃ q l:SlV,e=.returned (.tuple #[.slice q.1 q.2.1 q.2.2,.slice l.1 l.2.1 l.2.2,.int .i64 no])∧∃ F',TkAt b s' F' w'∧Kp F F' w w'∧SlF F' w' cQn q qs∧SlF F' w' cTx l ts∧∀ y,blkA l.1=some y→w.heap.size≤y
section
set_option maxRecDepth 100000
set_option maxHeartbeats 3200000
theorem done39F (b:Nat) (s:Tk) (F:List Nat) (c:Cm) (w:World) (h:TkAt b s F w) (hn:s.act.length≤1000000) (hz:∀ p∈s.act,p.bytes.size≤1000000) (_hc:c.text.size≤1000000) (k:Nat) (hr:rcvL s.act c.id=some k) (hfull:¬ (((ptK s.act k).bytes.size:Int)<(ptK s.act k).size)) :
  Calls Tryz.prog 67 #[.pointer (some ⟨b,0,none⟩),vC c] w (HearQ b (doneT s c).1 [] (doneT s c).2.1 (doneT s c).2.2 F w):=by
 obtain⟨va,vk,h⟩:=h
 obtain⟨g,hg⟩:∃ g,w.heap.size=g:=⟨_,rfl⟩
 obtain⟨W1,hW1⟩:∃ W1,w.alloc (.cells (aC c) 74)=W1:=⟨_,rfl⟩
 have hb1:Below w.heap.size w W1:=by rw[← hW1];exact below_alloc _ _
 have hrow:Row W1 g (cC c) 74:=by rw[← hW1,← hg];exact Row.new w (cC c) _
 obtain⟨i1,i2⟩:=hrow.idC
 have hgF:g∉F∨True:=Or.inr trivial
 have H1:=Lib.hid (And.intro hrow (And.intro (h.keep hb1) hb1))
 have HV:=Lib.hid h
 clear hb1 h hrow hgF
 obtain⟨hk, -, -⟩:=rcv_some hr
 obtain⟨g0,hva⟩:=Own.ad0 (HV.out.oa) (fun e=>by rw[e] at hk;exact absurd hk (Nat.not_lt_zero _))
 obtain⟨p,hp⟩:∃ p,s.act[k]=p:=⟨_,rfl⟩
 have hpk:ptK s.act k=p:=(ptK_eq hk).trans hp
 have hv:rcvV va (some k)=.pointer (some ⟨g0,k * 35,none⟩):=by
  unfold rcvV
  rw[hva]
  show Value.pointer (some ((⟨g0,0,none⟩:Addr).add (k * 35)))=_
  rw[add_off,Nat.zero_add]
 have hsz:p.bytes.size≤1000000:=hz p (by rw[← hp];exact List.getElem_mem hk)
 have hat:∀ u,Below W1.heap.size W1 u→At u ⟨g0,k * 35,none⟩ (cA p):=by
  intro u hu
  obtain⟨ad,e1, -, -,hat⟩:=Sl.pt (Own.slOf (H1.out.2.1.keep hu).oa) hk
  rw[hva] at e1
  cases e1
  rw[add_off,Nat.zero_add,hp] at hat
  exact hat
 have e:doneT s c=(if (p.bytes.size:Int)<p.size then (s,[],4) else ({ s with act:=s.act.set k (endB p) },[(p.id,p.bytes)],0)):=by unfold doneT;rw[hr];dsimp only;rw[hpk]
 rw[e]
 clear e
 have HRS:=Lib.hid hr
 have HAT:=Lib.hid hat
 have HVV:=Lib.hid (And.intro hv (And.intro hva (And.intro hp hsz)))
 have HFU:=Lib.hid (show ¬ (p.bytes.size:Int)<p.size by rw[← hpk];exact hfull)
 clear hr hat hv hva hpk hp hfull

 have h1:¬ (p.bytes.size:Int)<p.size:=HFU.out
 rw[if_neg h1]
 go_enter Tryz.func67,Tryz.ntmps67
 go_wp2_with (go_at_call 101;refine (receiving63 b s F va vk c.id W1 H1.out.2.1 hn).mono ?_;rintro e w2 ⟨rfl,hb2⟩;have H2:=Lib.hid (And.intro (H1.out.1.keep hb2) (And.intro (HAT.out w2 hb2) hb2));clear hb2;rw[HRS.out,HVV.out.1];have r34:=H2.out.2.1.f34;have r32:=H2.out.2.1.f32;have r33:=H2.out.2.1.f33;have ff:=((H1.out.2.1.keep H2.out.2.2).setF HVV.out.2.1 k hk 33 (by decide) (.int .i64 3) (endB p) (by rw[HVV.out.2.2.1];exact cA_set33 _ _)).1;dsimp only at r33;dsimp only at r34 r32)
 go_quiet (fail)
 go_wp2
 generalize hW5:World.setCell _ _ _=W5
 have hset:TkR b { s with act:=s.act.set k (endB p) } F va vk W5∧Kp F F w2 W5:=by
  rw[← hW5]
  have hs:=fun n=>((H1.out.2.1.keep H2.out.2.2).keep (below_drewN w2 n)).setF HVV.out.2.1 k hk 33 (by decide) (.int .i64 3) (endB p) (by rw[HVV.out.2.2.1];exact cA_set33 _ _)
  exact⟨(hs _).2.1,(Kp.of_below (below_drewN _ _)).trans (hs _).2.2⟩
 obtain⟨F2,hT5,hK5,hF5⟩:=hset.1.shrink
 have hat5:At W5 ⟨g0,k * 35,none⟩ (cA (endB p)):=by
  have hk5:k<(s.act.set k (endB p)).length:=by rw[List.length_set];exact hk
  obtain⟨ad,e1, -, -,hat⟩:=Sl.pt (Own.slOf hT5.oa) hk5
  rw[HVV.out.2.1] at e1
  cases e1
  rw[add_off,Nat.zero_add,List.getElem_set_self] at hat
  exact hat
 have HS:=Lib.hid (And.intro hT5 (And.intro ((hset.2).trans hK5) (And.intro hF5 hat5)))
 clear hset hT5 hK5 hF5 hat5 hW5 r34 r32 r33 ff
 refine AnyO.wp_anyI (by kernel_rfl) (by kernel_rfl) (AnyO.InvG (σ:=Nat) (fun σ=>AnyO.pvL [some (.pointer (some ⟨g0,k * 35,none⟩)),some (.pointer (some ⟨g0,k * 35,none⟩)),some (.pointer (some ⟨g0,k * 35,none⟩)),some (vI p.id),some (.pointer (some ⟨g0,k * 35,none⟩)),some (.pointer (some ⟨g0,k * 35,none⟩)),some (.pointer (some ⟨g0,k * 35+34,none⟩)),some (.string p.bytes),some (vTx (p.id,p.bytes)),some (.slice (some ⟨σ,0,none⟩) 1 1),some (Value.slice none 0 0),some (.slice (some ⟨σ,0,none⟩) 1 1),some (Value.int IntKind.i64 0)]) (fun σ D u=>TxW W5 (p.id,p.bytes) σ (D 9) u)) (AnyO.InvG.start (g:=0) (⟨below_drew _,fun h=>by cases h⟩)) ?_ ?_
 ·intro i hi
  have hi2:i=3∨i=7∨i=9∨i=0∨i=1∨i=2∨i=4∨i=5∨i=6∨i=8∨i=10∨i=11∨i=12:=by simp only[List.size_toArray,List.length_cons,List.length_nil] at hi;omega
  clear hi
  rcases hi2 with rfl|rfl|rfl|rfl|rfl|rfl|rfl|rfl|rfl|rfl|rfl|rfl|rfl
  ·refine AnyO.I rfl [2] ?_;rintro D vs u σ Q h0 hC hp ac hb K hK
   have s31:_=_:=AnyO.sv 31 2 hb hp Q
   have q:=(HS.out.2.2.2.keep Q.out.2.bl).id
   have rr1:=q.1
   have rr2:rdA u ⟨g0,k * 35,none⟩ 32=vI p.id:=q.2
   clear q
   go_simp
   exact hK _ _ (AnyO.InvG.step (g:=σ) Q.out.1 rfl (TxW.read Q.out.2 (Below.refl _ _)))
  ·refine AnyO.I rfl [6] ?_;rintro D vs u σ Q h0 hC hp ac hb K hK
   have s35:_=_:=AnyO.sv 35 6 hb hp Q
   have rr:=(HS.out.2.2.2.keep Q.out.2.bl).f34
   dsimp only [endB] at rr
   go_simp
   exact hK _ _ (AnyO.InvG.step (g:=σ) Q.out.1 rfl (TxW.read Q.out.2 (Below.refl _ _)))
  ·refine AnyO.I rfl [8] ?_;rintro D vs u σ Q h0 hC hp ac hb K hK
   have s37:_=_:=AnyO.sv 37 8 hb hp Q
   have hf11:=AnyO.fls (hC.out 11) h0 (by kernel_rfl)
   go_simp
   refine hK _ _ (AnyO.InvG.ghost (g:=σ) u.heap.size Q.out.1 ?_ rfl ?_)
   ·intro j hj hq
    rcases j with _|_|_|_|_|_|_|_|_|_|_|_|_|j
    all_goals first|exact hq|exact absurd (show D 9=true from hj) (by rw[h0];decide)|exact absurd (show D 11=true from hj) (by rw[hf11];decide)
   exact⟨Below.step Q.out.2.bl (below_alloc _ _),fun _=>⟨fun _=>⟨_,rfl,at_new u _ _ _ rfl⟩,Q.out.2.bl.size⟩⟩
  all_goals
   refine AnyO.J rfl ?_;rintro D vs u σ Q h0 hC hp ac hb K hK
   try have s7:ac.tmps[7]?.getD undef=.pointer (some ⟨g0,k * 35,none⟩):=by rw[hb.out];kernel_rfl
   try have s29:_=_:=AnyO.sv 29 0 hb hp Q
   try have s30:_=_:=AnyO.sv 30 1 hb hp Q
   try have s33:_=_:=AnyO.sv 33 4 hb hp Q
   try have s34:_=_:=AnyO.sv 34 5 hb hp Q
   try have s32:_=_:=AnyO.sv 32 3 hb hp Q
   try have s36:_=_:=AnyO.sv 36 7 hb hp Q
   try have s38:_=_:=AnyO.sv 38 9 hb hp Q
   go_simp
   exact hK _ _ (AnyO.InvG.step (g:=σ) Q.out.1 rfl (TxW.read Q.out.2 (Below.refl _ _)))
 ·intro D vs u hI hD
  obtain⟨σ,hP,hW⟩:=hI
  have e0:_=_:=hP 0 (hD 0 (by decide))
  have e1:_=_:=hP 1 (hD 1 (by decide))
  have e2:_=_:=hP 2 (hD 2 (by decide))
  have e3:_=_:=hP 3 (hD 3 (by decide))
  have e4:_=_:=hP 4 (hD 4 (by decide))
  have e5:_=_:=hP 5 (hD 5 (by decide))
  have e6:_=_:=hP 6 (hD 6 (by decide))
  have e7:_=_:=hP 7 (hD 7 (by decide))
  have e8:_=_:=hP 8 (hD 8 (by decide))
  have e9:_=_:=hP 9 (hD 9 (by decide))
  have e10:_=_:=hP 10 (hD 10 (by decide))
  have e11:_=_:=hP 11 (hD 11 (by decide))
  have e12:_=_:=hP 12 (hD 12 (by decide))
  have hst:=hW.one (hD 9 (by decide))
  have HST:=Lib.hid (And.intro hW.bl hst)
  clear hst
  have HW:=Lib.hid hW
  clear hW hP hD
  rw[puts_range [some 29,some 30,some 31,some 32,some 33,some 34,some 35,some 36,some 37,some 38,some 4,some 5,some 6] (by kernel_rfl)]
  simp only[putL,Nat.reduceAdd,e0,e1,e2,e3,e4,e5,e6,e7,e8,e9,e10,e11,e12]
  clear e0 e1 e2 e3 e4 e5 e6 e7 e8 e9 e10 e11 e12
  go_simp
  go_wp2
  go_ret3
  refine⟨(none,0,0),(some ⟨σ,0,none⟩,1,1),rfl,F2,⟨va,vk,HS.out.1.keep HST.out.1⟩,((Kp.of_below (Below.step H1.out.2.2 H2.out.2.2)).trans HS.out.2.1).trans (Kp.of_below HST.out.1),SlF.nil _ _ _,⟨rfl,Nat.le_refl _,HST.out.2.1,fun ad e _ hm=>?_⟩,fun y e=>?_⟩
  ·cases e
   have h1:=HS.out.2.2.1 _ hm
   have h2:=HST.out.2.2
   dsimp only at h1
   omega
  ·obtain rfl:σ=y:=by simpa[blkA] using e
   have h2:=HST.out.2.2
   have h3:=HS.out.2.1.size
   have h4:=(Below.step H1.out.2.2 H2.out.2.2).size
   omega
theorem hear15_goF (b:Nat) (s s':Tk) (qs:List Qn) (ts:List Txt) (no:Int) (F:List Nat) (c:Cm) (w:World) (h:TkAt b s F w) (hL:FormsAt w) (hn:c.name.size≤1000000) (ho:s.opn=true) (hc:chk c=0) (f:Nat) (hf:hearF c.verb=some (.func (.func f) #[] #[]))
  (he:∀ (args:Array Value) (W:World),Sem.run Tryz.prog (callFunc f args) W=.ok (.enter f args) W) (hcall:∀ u,TkAt b s F u→Calls Tryz.prog f #[.pointer (some ⟨b,0,none⟩),vC c] u (HearQ b s' qs ts no F u)) :
  Calls Tryz.prog 31 #[.pointer (some ⟨b,0,none⟩),vC c] w (HearQ b s' qs ts no F w):=by
 obtain⟨va,vk,h⟩:=h
 obtain⟨g,hg⟩:∃ g,w.heap.size=g:=⟨_,rfl⟩
 obtain⟨W1,hW1⟩:∃ W1,w.alloc (.cells (aC c) 74)=W1:=⟨_,rfl⟩
 have hb1:Below w.heap.size w W1:=by rw[← hW1];exact below_alloc _ _
 have hrow:Row W1 g (cC c) 74:=by rw[← hW1,← hg];exact Row.new w (cC c) _
 have r1:=(Row.okw hrow (cC_length c)).1
 have r2:rdA W1 ⟨g,0,none⟩ 39=vC c:=(Row.okw hrow (cC_length c)).2
 have c1:=(h.keep hb1).c1
 rw[ho] at c1
 have H1:=Lib.hid (And.intro (h.keep hb1) (And.intro hb1 (And.intro (hL.keep hb1) hrow)))
 have HN:=Lib.hid hn
 have HC:=Lib.hid hc
 have HF:=Lib.hid hf
 have HE:=Lib.hid hcall
 clear h hb1 hrow hL hn hc hf hcall
 go_enter Tryz.func31,Tryz.ntmps31
 go_wp2_with (go_at_call 53;refine (check16 c W1 H1.out.2.2.1 HN.out).mono ?_;rintro e w2 ⟨rfl,hb2⟩;rw[HC.out];obtain⟨g3,W3,W4,W5,W6,m3,m4,m5,m6,hF6,hB6⟩:=hear_map w2;have ml:=hF6.look c.verb _ HF.out;have hb6:=Below.step hb2 hB6;have hr6:=H1.out.2.2.2.keep hb6;have j0:W6.cell? ⟨g,0,none⟩=some (.int .i64 c.verb):=hr6.cell 0;have j1:=(Row.okw hr6 (cC_length c)).1;have j2:rdA W6 ⟨g,0,none⟩ 39=vC c:=(Row.okw hr6 (cC_length c)).2;have H2:=Lib.hid hb6;clear hb2 hF6 hB6 hb6 hr6)
 go_wp2_with (refine (HE.out W6 ⟨va,vk,H1.out.1.keep H2.out⟩).mono ?_;rintro e w7 ⟨q,l,rfl,h7⟩;have H7:=Lib.hid h7;clear h7)
 go_ret3
 obtain⟨F',h2,h3,h4,h5,h6⟩:=H7.out
 exact⟨q,l,rfl,F',h2,(Kp.of_below (Below.step H1.out.2.1 H2.out)).trans h3,h4,h5,fun y e=>Nat.le_trans (Below.step H1.out.2.1 H2.out).size (h6 y e)⟩
end
open Go.RowKit
section
variable (w : World)
theorem aQn_32 (x:Qn):(aQn x)[32]? = some (.int .i64 x.2.1):=by unfold aQn;rw[List.getElem?_toArray];exact cQn_hi x 0
theorem aQn_33 (x:Qn):(aQn x)[33]? = some (.int .i64 x.2.2):=by unfold aQn;rw[List.getElem?_toArray];exact cQn_hi x 1
theorem cQn_id (x:Qn):((cQn x).drop 0).take 32=cI x.1:=by
 unfold cQn
 rw[List.drop_zero,List.take_append_of_le_length (by rw[cI_length];omega),List.take_of_length_le (by rw[cI_length];omega)]
theorem eqsQn (a b:Qn):(Op.eqFields 9999 (cQn a).toArray (cQn b).toArray (Tryz.prog.fieldsOf 90).toList).run Tryz.prog w=.ok (decide (a=b)) w:=by
 simp only[Program.fieldsOf,Tryz.underlying90]
 refine Eq.trans (eqF_cons w (by decide) (idpartC w _ 0 a.1 (cQn_id a)) (idpartC w _ 0 b.1 (cQn_id b)) (eqidC w 9997 _ _) (eqF_cons w (by decide) (part_c w 3 _ 32 _ _ Tryz.underlying3 rfl (aQn_32 a)) (part_c w 3 _ 32 _ _ Tryz.underlying3 rfl (aQn_32 b)) (run_equalIn_int w 9998 3 .i64 .i64 _ _ Tryz.underlying3) (eqF_cons w (by decide) (part_c w 3 _ 33 _ _ Tryz.underlying3 rfl (aQn_33 a)) (part_c w 3 _ 33 _ _ Tryz.underlying3 rfl (aQn_33 b)) (run_equalIn_int w 9998 3 .i64 .i64 _ _ Tryz.underlying3) (eqF_nil w 9999 _ _)))) ?_
 congr 1
 rw[Bool.eq_iff_iff]
 simp only[Bool.and_eq_true,beq_iff_eq,decide_eq_true_eq,and_true]
 obtain⟨a1,a2,a3⟩:=a
 obtain⟨b1,b2,b3⟩:=b
 simp[Prod.mk.injEq]
theorem prelQn:Tryz.prog.underlying 90=some (.struct (Tryz.prog.fieldsOf 90)):=by rw[Program.fieldsOf,Tryz.underlying90]
theorem heldQn:Tryz.prog.stoodInHeld 90=false:=by kernel_rfl
theorem guardQn:Tryz.prog.eqGuardType Tryz.prog.depth 90=false:=by kernel_rfl
@[go_sem] theorem eqGuardQn (op:BinOp) (x y:Operand) (a b:Qn):(eqGuard op 90 x y (vQn a) (vQn b)).run Tryz.prog w=.ok () w:=run_eqGuard_agg w op 90 x y _ _ guardQn
@[go_sem] theorem neqQn (a b:Qn):(binOp .neq 90 (vQn a) (vQn b)).run Tryz.prog w=.ok (.bool (!decide (a=b))) w:=by
 unfold vQn
 rw[run_neq_struct,run_equalIn_struct w 9999 90 _ _ prelQn heldQn,eqsQn]
 rfl
end
def idB (n:UInt8):Id:=⟨n :: List.replicate 31 0,by rw[List.length_cons,List.length_replicate]⟩
theorem idB_ne (n:UInt8) (h:n≠0):idB n≠zI:=by
 intro e
 have h1:=congrArg (fun x:Id=>x.1.head?) e
 simp[idB,zI] at h1
 exact h h1
def cOff1:Cm:=⟨2,⟨#[]⟩,idB 1,3,0,0,0,⟨#[]⟩⟩
def cWant1:Cm:=⟨3,⟨#[]⟩,idB 1,0,0,0,0,⟨#[]⟩⟩
def cData1:Cm:=⟨7,⟨#[]⟩,idB 1,0,0,0,0,⟨#[97,98,99]⟩⟩
def cDone1:Cm:=⟨8,⟨#[]⟩,idB 1,0,0,0,0,⟨#[]⟩⟩
theorem chk_off1:chk cOff1=0:=by unfold chk chkF psC;simp only[isE];decide +kernel
theorem chk_want1:chk cWant1=0:=by unfold chk chkF psC;simp only[isE];decide +kernel
theorem chk_data1:chk cData1=0:=by unfold chk chkF psC crL;simp only[isE];decide +kernel
theorem chk_done1:chk cDone1=0:=by unfold chk chkF psC;simp only[isE];decide +kernel
def tkA:Tk:=⟨2,true,[],[]⟩
def tkB:Tk:=⟨2,true,[⟨idB 1,3,1,⟨#[]⟩⟩],[]⟩
def tkC:Tk:=⟨2,true,[⟨idB 1,3,2,⟨#[]⟩⟩],[]⟩
def tkD:Tk:=⟨2,true,[⟨idB 1,3,2,⟨#[97,98,99]⟩⟩],[]⟩
def tkE:Tk:=⟨2,true,[⟨idB 1,3,3,⟨#[97,98,99]⟩⟩],[]⟩
theorem ex_off:offerT tkA cOff1=(tkB,[(idB 1,3,0)],0):=rfl
theorem ex_want:answerT tkB cWant1=(tkC,cWant1,0):=by
 unfold answerT
 rw[if_neg (by rw[chk_want1];decide),if_neg (by decide)]
 rfl
theorem ex_data:dataT tkC cData1=(tkD,0):=rfl
theorem ex_done:doneT tkD cDone1=(tkE,[(idB 1,⟨#[97,98,99]⟩)],0):=rfl
theorem kn_off (b:Nat) (F:List Nat) (w:World) (h:TkAt b tkA F w) (hL:FormsAt w):Calls Tryz.prog 31 #[.pointer (some ⟨b,0,none⟩),vC cOff1] w (HearP b tkB [(idB 1,3,0)] [] 0 F w) :=
 hear15_go b _ _ _ _ _ F cOff1 w h hL (by decide) rfl chk_off1 65 rfl (enters_of Tryz.func65 (by kernel_rfl) rfl) (fun u hu=>by
  have e:=offer37 b tkA F cOff1 u hu (by decide) (by decide)
  rw[ex_off] at e
  exact e)
theorem kn_data (b:Nat) (F:List Nat) (w:World) (h:TkAt b tkC F w) (hL:FormsAt w):Calls Tryz.prog 31 #[.pointer (some ⟨b,0,none⟩),vC cData1] w (HearP b tkD [] [] 0 F w) :=
 hear15_go b _ _ _ _ _ F cData1 w h hL (by decide) rfl chk_data1 66 rfl (enters_of Tryz.func66 (by kernel_rfl) rfl) (fun u hu=>by
  have e:=data38 b tkC F cData1 u hu (by decide) (by decide) (by decide)
  rw[ex_data] at e
  exact e)
theorem kn_done (b:Nat) (F:List Nat) (w:World) (h:TkAt b tkD F w) (hL:FormsAt w):Calls Tryz.prog 31 #[.pointer (some ⟨b,0,none⟩),vC cDone1] w (HearP b tkE [] [(idB 1,⟨#[97,98,99]⟩)] 0 F w) :=
 (hear15_goF b _ _ _ _ _ F cDone1 w h hL (by decide) rfl chk_done1 67 rfl (enters_of Tryz.func67 (by kernel_rfl) rfl) (fun u hu=>by
  have e:=done39F b tkD F cDone1 u hu (by decide) (by decide) (by decide) 0 rfl (by decide)
  rw[ex_done] at e
  exact e)).mono fun _ _ ⟨q,l,e,F',h1,h2,h3,h4,_⟩=>⟨q,l,e,F',h1,h2,h3,h4⟩
section
variable (w : World)
@[go_sem] theorem bl_id1:(blA 39 #[(0,.int .u8 1)]).run Tryz.prog w=.ok (vI (idB 1)) w:=by kernel_rfl
@[go_sem] theorem bl_off1:(blA 74 #[(0,.int .i64 2),(2,vI (idB 1)),(3,.int .i64 3)]).run Tryz.prog w=.ok (vC cOff1) w:=by kernel_rfl
@[go_sem] theorem bl_want1:(blA 74 #[(0,.int .i64 3),(2,vI (idB 1))]).run Tryz.prog w=.ok (vC cWant1) w:=by kernel_rfl
@[go_sem] theorem bl_data1:(blA 74 #[(0,.int .i64 7),(2,vI (idB 1)),(7,.string ⟨#[97,98,99]⟩)]).run Tryz.prog w=.ok (vC cData1) w:=by kernel_rfl
@[go_sem] theorem bl_done1:(blA 74 #[(0,.int .i64 8),(2,vI (idB 1))]).run Tryz.prog w=.ok (vC cDone1) w:=by kernel_rfl
@[go_sem] theorem bl_qn1:(blA 90 #[(0,vI (idB 1)),(1,.int .i64 3)]).run Tryz.prog w=.ok (vQn (idB 1,3,0)) w:=by kernel_rfl
end
theorem knownL (w:World) (hL:Laid w):Calls Tryz.prog 4 #[] w fun e w'=>e=.returned (.bool true)∧Below w.heap.size w w':=by
 have HL:=Lib.hid hL
 clear hL
 go_enter Tryz.func4,Tryz.ntmps4
 go_wp2_with (go_at_call 12;refine (known11 w HL.out).mono ?_;rintro e w2 ⟨rfl,hb2⟩;have H2:=Lib.hid hb2;clear hb2)
 go_ret
 exact⟨rfl,H2.out⟩
theorem kn_below {F:List Nat} {w w2 w':World} {b:Nat} (hb:w.heap.size=b) (h:Below w.heap.size w w2) (hk:Kp [b] F w2 w'):Below w.heap.size w w':=by
 have h2:Below w.heap.size w2 w':=hk.below (fun k hm=>by rw[List.mem_singleton.1 hm];exact Nat.le_of_eq hb) h.size
 exact Below.trans h h2
theorem qn_one {F:List Nat} {w:World} {q:SlV} {x:Qn} (h:SlF F w cQn q [x]):∃ ad c,q=(some ad,1,c)∧okA w ad 34=true∧rdA w ad 34=vQn x:=by
 obtain⟨A,n,c⟩:=q
 obtain⟨h1,h2,h3, -⟩:=h
 obtain⟨ad,e,hat⟩:=h3 (by simp)
 cases e
 have hn:n=1:=h1.symm
 subst hn
 have hat2:At w ad (cQn x):=by simpa using hat
 have q1:=hat2.ok
 have q2:=hat2.rd
 rw[cQn_length] at q1 q2
 exact⟨ad,c,rfl,q1,q2⟩
theorem tx_one {F:List Nat} {w:World} {q:SlV} {x:Txt} (h:SlF F w cTx q [x]):∃ ad c,q=(some ad,1,c)∧At w ad (cTx x):=by
 obtain⟨A,n,c⟩:=q
 obtain⟨h1,h2,h3, -⟩:=h
 obtain⟨ad,e,hat⟩:=h3 (by simp)
 cases e
 have hn:n=1:=h1.symm
 subst hn
 exact⟨ad,c,rfl,by simpa using hat⟩
theorem TkAt.shrink {b:Nat} {s:Tk} {F:List Nat} {w:World} (h:TkAt b s F w):∃ F2,TkAt b s F2 w∧Kp F F2 w w∧∀ k∈F2,k<w.heap.size:=by
 obtain⟨va,vk,h⟩:=h
 obtain⟨F2,h1,h2,h3⟩:=h.shrink
 exact⟨F2,⟨va,vk,h1⟩,h2,h3⟩
theorem hold_c (w5:World) {F5:List Nat} (hF:∀ k∈F5,k<w5.heap.size) (d:Cm):∃ r W,w5.heap.size=r∧rowOk (w5.alloc (.cells (aC zC) 74)) r 39=true∧(w5.alloc (.cells (aC zC) 74)).setRow r (aC d)=W∧Row W r (cC d) 74∧Below w5.heap.size w5 W∧r∉F5:=by
 have hr:=Row.new w5 (cC zC) 74
 refine⟨_,_,rfl,hr.rowOk (cC_length zC),rfl,?_,Below.setRow' (below_alloc _ _) (Nat.le_refl _) _,fun hm=>Nat.lt_irrefl _ (hF _ hm)⟩
 exact hr.setRow (cC d)
set_option maxRecDepth 100000 in
set_option maxHeartbeats 800000 in
theorem known34 (w:World) (hL:Laid w):Calls Tryz.prog 13 #[] w fun e w'=>e=.returned (.bool true)∧Below w.heap.size w w':=by
 have HL:=Lib.hid hL
 clear hL
 obtain⟨b,hb⟩:∃ b,w.heap.size=b:=⟨_,rfl⟩
 have HBB:=Lib.hid hb
 have HO:=Lib.hid (show openT (Tk.new 2)=(tkA,0) from rfl)
 have HX2:=Lib.hid ex_want
 go_enter Tryz.func13,Tryz.ntmps13
 go_wp2_with (first
  | (go_at_call 31;refine (kn_done b F7 w7 H7.out.1 (HL.out.keep (kn_below HBB.out H2.out.2 H7.out.2.1)).forms).mono ?_;rintro e w8 ⟨q8,l8,rfl,F8,hT8,hK8, -,hl8⟩;obtain⟨ad8,c8,rfl,hat8⟩:=tx_one hl8;have s8:w8.cell? ⟨ad8.block,ad8.off+32,none⟩=some (.string ⟨#[97,98,99]⟩):=hat8.2 32 _ rfl;have j8:w8.cell? ⟨r6,0,none⟩=some (.int .i64 3):=(H7.out.2.2.1.kp hK8 H7.out.2.2.2).cell 0;have H8:=Lib.hid (H7.out.2.1.trans hK8);clear hT8 hK8 hl8 hat8)
  | (go_at_call 31;refine (kn_data b F6 W6 H6.out.1 (HL.out.keep (kn_below HBB.out H2.out.2 H6.out.2.1)).forms).mono ?_;rintro e w7 ⟨q7,l7,rfl,F7,hT7,hK7, -, -⟩;have H7:=Lib.hid (And.intro hT7 (And.intro (H6.out.2.1.trans hK7) (And.intro (H6.out.2.2.1.kp hK7 H6.out.2.2.2) (hK7.out r6 H6.out.2.2.1.lt H6.out.2.2.2).1)));clear hT7 hK7)
  | (go_at_call 32;refine (answer16_v3 b tkB F4 cWant1 w4 H4.out.1 (HL.out.keep (kn_below HBB.out H2.out.2 H4.out.2)).forms (by decide) (by decide) (by decide) chk_want1 rfl).mono ?_;rw[HX2.out];rintro e w5 ⟨rfl,F5,hT5,hK5⟩;obtain⟨F6,hT6,hK6,hF6⟩:=hT5.shrink;obtain⟨r6,W6,hr6,ro6,hW6,hrow6,hb6,hn6⟩:=hold_c w5 hF6 cWant1;have H6:=Lib.hid (And.intro (hT6.keep hb6) (And.intro (((H4.out.2.trans hK5).trans hK6).trans (Kp.of_below hb6)) (And.intro hrow6 hn6)));clear hT5 hK5 hT6 hK6 hF6 hrow6 hb6 hn6)
  | (go_at_call 31;refine (kn_off b F3 w3 H3.out.1 (HL.out.keep (kn_below HBB.out H2.out.2 H3.out.2)).forms).mono ?_;rintro e w4 ⟨q4,l4,rfl,F4,hT4,hK4,hq4, -⟩;obtain⟨ad4,c4,rfl,r41,r42⟩:=qn_one hq4;have H4:=Lib.hid (And.intro hT4 (H3.out.2.trans hK4));clear hT4 hK4 hq4)
  | (go_at_call 30;refine (open17 b (Tk.new 2) [b] w2 H2.out.1).mono ?_;rw[HO.out];rintro e w3 ⟨rfl,F3,hT3,hK3⟩;have H3:=Lib.hid (And.intro hT3 hK3);clear hT3 hK3)
  | (go_at_call 4;refine (knownL w1 (HL.out.keep H1.out.2)).mono ?_;rintro e w2 ⟨rfl,hb2⟩;have H2:=Lib.hid (And.intro (H1.out.1.keep hb2) (Below.step H1.out.2 hb2));clear hb2)
  | (go_at_call 16;refine (new13_ok 2 (by decide) (by decide) w).mono ?_;rintro e w1 ⟨rfl,hT1,hb1⟩;rw[hb];rw[hb] at hT1;have H1:=Lib.hid (And.intro hT1 hb1);clear hT1 hb1))
 go_ret
 exact⟨rfl,kn_below HBB.out H2.out.2 H8.out⟩
end Go.Proofs.YtdkjgcfhepplbaaGreatDoor
