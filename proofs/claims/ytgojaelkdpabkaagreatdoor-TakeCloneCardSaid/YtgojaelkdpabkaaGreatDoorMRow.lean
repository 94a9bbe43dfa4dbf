/- Bytes and strings as lists; the classes of bytes. ascii.skip at the class of hexadecimal digits: the offset behind the longest run of them. The plain functions of the commands' texts. command.firstLine. The reference's has. Stuffed texts: the plain laws of the reference's loop. The reference's stuffed. Stuffed texts: plain laws. The library's pieces are those of splitGo. Unstuff: the plain steps of its loop. -/
import Derived.Test.YtgojaelkdpabkaaGreatDoorMCore
import Derived.Lib.Strings
import Derived.Lib.IndexBytes
import Derived.Test.YtgojaelkdpabkaaGreatDoorMShelf
import Derived.Test.YtgojaelkdpabkaaGreatDoorMBase
import Derived.Lib.SplitLaws
import Derived.Laws.IdiomCopy
namespace Go.Proofs.YtgojaelkdpabkaaGreatDoor
section
open Go.RowKit
abbrev bl (s:ByteArray):List UInt8:=s.data.toList
abbrev vB (c:UInt8):Value:=.int .u8 (c.toNat:Int)
def digB (c:UInt8):Bool:=decide (48≤c.toNat) && decide (c.toNat≤57)
def hexB (c:UInt8):Bool:=digB c || (decide (97≤c.toNat) && decide (c.toNat≤102))
theorem ret_bool {a b:Bool} (h:a=b):Ending.returned (.bool a)=.returned (.bool b):=by rw[h]
theorem byte_all {p:UInt8→Bool} (h:(List.range 256).all (fun n=>p (UInt8.ofNat n))=true) (c:UInt8):p c=true:=by
 have:=List.all_eq_true.1 h c.toNat (List.mem_range.2 c.toNat_lt)
 rwa[UInt8.ofNat_toNat] at this
set_option maxHeartbeats 400000 in
theorem isDigit_b (c:UInt8) (w:World):Calls Tryz.prog 79 #[vB c] w fun e w'=>e=.returned (.bool (digB c))∧w=w':=by
 go_enter Tryz.func79,Tryz.ntmps79
 go_wp2
 all_goals
  go_ret
  exact⟨ret_bool (by unfold digB;rw[Bool.eq_iff_iff];simp;try omega),rfl⟩
end
section
open Go.RowKit
theorem bl_drop (s:ByteArray) (j:Nat) (h:j<s.size):(bl s).drop j=s[j] :: (bl s).drop (j+1):=by
 rw[List.drop_eq_getElem_cons (by simpa using h)]
 rfl
theorem bl_length (s:ByteArray):(bl s).length=s.size:=(Lib.size_eq s).symm
end
section
open Go.RowKit
def splitGo (c:UInt8):List UInt8→List UInt8→List (List UInt8)
 | cur,[]=>[cur]
 | cur,x :: xs=>if x=c then cur :: splitGo c [] xs else splitGo c (cur++[x]) xs
def dotL (l:List UInt8):List UInt8:=if l.head? = some 46 then 46 :: l else l
def stuffP (ps:List (List UInt8)):List UInt8:=(ps.map fun l=>dotL l++[13,10]).flatten++[46,13,10]
def stuffL (s:List UInt8):List UInt8:=stuffP (splitGo 10 [] s)
theorem stuffP_cons (l:List UInt8) (ps:List (List UInt8)):stuffP (l :: ps)=dotL l++[13,10]++stuffP ps:=by
 simp[stuffP,List.append_assoc]
def flGo:UInt8→List UInt8→Nat→Int×Nat
 | _,[],_=>(4,0)
 | last,x :: xs,i =>
  if x=13 then (if xs≠[]∧xs.head?≠some 10 then (6,0) else flGo 13 xs (i+1))
  else if x=10 then (if last=13 then (0,i) else (6,0))
  else flGo x xs (i+1)
def unGo:Nat→Bool→List UInt8→Nat→List UInt8→List UInt8×Nat×Int
 | 0,_,_,_,_=>([],0,4)
 | fuel+1,first,text,n,s =>
  match flGo 0 s 0 with
  | (0,k) =>
   let l:=s.take (k - 1)
   if l=[46] then (if first then ([],0,3) else (text,n+(k+1),0))
   else if l.head? = some 46∧l[1]?≠some 46 then ([],0,3)
   else
    let l':=if l.head? = some 46 then l.drop 1 else l
    let text':=(if first then text else text++[10])++l'
    if 262144<text'.length then ([],0,5) else unGo fuel false text' (n+(k+1)) (s.drop (k+1))
  | (e,_)=>([],0,e)
end
section
open Go.RowKit
def hasB (s:ByteArray) (c:UInt8):Bool:=(bl s).any (· == c)
theorem any_end (s:ByteArray) (c:UInt8) (j:Nat) (h:s.size≤j):((bl s).drop j).any (· == c)=false:=by
 rw[List.drop_eq_nil_of_le (by rw[bl_length];exact h)];rfl
theorem any_step (s:ByteArray) (c:UInt8) (j:Nat) (h:j<s.size):((bl s).drop j).any (· == c)=((s[j]==c) || ((bl s).drop (j+1)).any (· == c)):=by
 rw[bl_drop s j h,List.any_cons]
set_option maxRecDepth 100000 in
set_option maxHeartbeats 1600000 in
theorem has45 (s:ByteArray) (c:UInt8) (w:World) (hs:s.size≤4611686018427387904) :
  Calls Tryz.prog 83 #[.string s,.int .u8 ((c.toNat:Nat):Int)] w fun e w'=>e=.returned (.bool (hasB s c))∧w'=w:=by
 go_enter Tryz.func83,Tryz.ntmps83
 go_wp2
 go_loop [5] (fun i=>∃ j:Nat,j≤s.size∧i=.int .i64 j∧hasB s c=((bl s).drop j).any (· == c)) (fun i=>s.size - (intOf i).toNat)
 case atStart=>exact⟨0,by omega,rfl,rfl⟩
 case round =>
  obtain⟨j,hj,rfl,he⟩:=hrel
  have HE:=Lib.hid he;clear he
  by_cases hlt:j<s.size
  ·have hb:(((s[j].toNat:Nat):Int)==((c.toNat:Nat):Int))=(s[j]==c):=by
    rw[Bool.eq_iff_iff];simp only[beq_iff_eq,Int.natCast_inj];exact⟨UInt8.toNat_inj.1,fun h=>by rw[h]⟩
   have HS:=Lib.hid (HE.out.trans (any_step s c j hlt))
   cases hq:(s[j]==c) with
   | true =>
    rw[hq] at hb
    have HQ:=Lib.hid hq
    clear hq
    go_wp2
    go_ret
    rw[HS.out,HQ.out]
    exact⟨rfl,rfl⟩
   | false =>
    rw[hq] at hb
    have HQ:=Lib.hid hq
    clear hq
    go_wp2
    go_round
    case rel=>exact⟨j+1,hlt,by go_num,by rw[HS.out,HQ.out,Bool.false_or]⟩
    case measure=>simp[intOf];omega
  ·have hjn:j=s.size:=by omega
   subst hjn
   go_wp2
   go_ret
   rw[HE.out,any_end _ _ _ (Nat.le_refl _)]
   exact⟨rfl,rfl⟩
end
section
open Go.RowKit
theorem dotL_le (l:List UInt8):(dotL l).length≤l.length+1:=by
 unfold dotL
 split
 ·simp
 ·omega
theorem stuffP_le (c:UInt8) (s:List UInt8):∀ cur,(stuffP (splitGo c cur s)).length≤cur.length+4 * s.length+6:=by
 induction s with
 | nil =>
  intro cur
  have:=dotL_le cur
  rw[splitGo,stuffP_cons]
  simp only[stuffP,List.map_nil,List.flatten_nil,List.nil_append,List.length_append,List.length_cons,List.length_nil]
  omega
 | cons x xs ih =>
  intro cur
  rw[splitGo]
  split
  ·have:=dotL_le cur
   have:=ih []
   rw[stuffP_cons]
   simp only[List.length_append,List.length_cons,List.length_nil] at this ⊢
   omega
  ·have:=ih (cur++[x])
   simp only[List.length_append,List.length_cons,List.length_nil] at this ⊢
   omega
end
section
open Go.RowKit
theorem bl_app (a b:ByteArray):bl (a++b)=bl a++bl b:=by simp[bl]
end
section
theorem splitGo_len (s:List UInt8):∀ cur,(splitGo 10 cur s).length≤s.length+1:=by
 induction s with
 | nil=>intro cur;simp[splitGo]
 | cons x xs ih =>
  intro cur
  rw[splitGo]
  split
  ·have:=ih [];simp only[List.length_cons];omega
  ·have:=ih (cur++[x]);simp only[List.length_cons];omega
end
section
open Go.Lib
theorem splitGo_cur (c:UInt8) (s:List UInt8):∀ cur,splitGo c cur s=match splitGo c [] s with|[]=>[]|h :: t=>(cur++h) :: t:=by
 induction s with
 | nil=>intro cur;simp[splitGo]
 | cons x xs ih =>
  intro cur
  rw[splitGo,splitGo]
  by_cases h:x=c
  ·rw[if_pos h,if_pos h];simp
  ·rw[if_neg h,if_neg h,ih (cur++[x]),ih ([]++[x])]
   cases splitGo c [] xs with
   | nil=>rfl
   | cons a t=>simp
theorem splitK_ne (c b:UInt8) (l:List UInt8) (k:Nat) (h:b≠c):splitK [c] 0 k (b :: l)=match splitK [c] 0 k l with|[]=>[]|h :: t=>(b :: h) :: t:=by
 cases k with
 | zero=>rfl
 | succ k =>
  have hp:([c]:List UInt8).isPrefixOf (b :: l)=false:=by simp[List.isPrefixOf,Ne.symm h]
  have hix:index (b :: l) [c]=if index l [c] == -1 then -1 else index l [c]+1:=by rw[index,hp];simp
  have hge:=index_ge l [c]
  rw[splitK,splitK,hix]
  by_cases hm:index l [c]=-1
  ·rw[hm];rfl
  ·obtain⟨j,hj⟩:∃ j:Nat,index l [c]=j:=⟨(index l [c]).toNat,by omega⟩
   rw[hj]
   have e1:((j:Int) == -1)=false:=by simp only[beq_eq_false_iff_ne];omega
   have e2:(((j:Int)+1) == -1)=false:=by simp only[beq_eq_false_iff_ne];omega
   rw[e1]
   simp only[Bool.false_eq_true,if_false]
   rw[e2]
   simp only[Bool.false_eq_true,if_false]
   rw[show ((j:Int)+1).toNat=j+1 by omega,Int.toNat_natCast]
   simp[Nat.add_assoc]
theorem splitK_go (c:UInt8) (s:List UInt8):splitK [c] 0 (count s [c]) s=splitGo c [] s:=by
 induction s with
 | nil=>rw[count_one];rfl
 | cons b l ih =>
  by_cases h:b=c
  ·rw[h,count_cons_eq,Nat.add_comm,splitK]
   have hix:index (c :: l) [c]=0:=by rw[index];simp[List.isPrefixOf]
   rw[hix,splitGo,if_pos rfl,← ih]
   rfl
  ·rw[count_cons_ne b c l h,splitK_ne c b l _ h,ih,splitGo,if_neg h,splitGo_cur c l ([]++[b])]
   rfl
theorem splitB_go (c:UInt8) (s:ByteArray):(splitB ⟨#[c]⟩ 0 (countB s ⟨#[c]⟩) s).map bl=splitGo c [] (bl s):=by
 have h:=splitB_data ⟨#[c]⟩ 0 (countB s ⟨#[c]⟩) s
 exact h.trans (splitK_go c (bl s))
theorem index_any (c:UInt8) (l:List UInt8):decide (0≤indexByte l c)=l.any (· == c):=by
 induction l with
 | nil=>rfl
 | cons b l ih =>
  have hge:=indexByte_ge l c
  rw[indexByte,List.any_cons,← ih]
  by_cases h:(b==c)=true
  ·rw[h];rfl
  ·rw[Bool.not_eq_true] at h
   rw[h]
   simp only[Bool.false_eq_true,if_false,Bool.false_or]
   by_cases hm:indexByte l c=-1
   ·rw[hm];rfl
   ·have e:(indexByte l c == -1)=false:=by simpa using hm
    rw[e]
    simp only[Bool.false_eq_true,if_false,decide_eq_decide]
    omega
theorem pre_dot (s:ByteArray):Lib.hasPrefix s.data.toList [46]=decide ((bl s).head? = some 46):=by
 unfold Lib.hasPrefix bl
 cases s.data.toList with
 | nil=>rfl
 | cons a t =>
  simp only[List.isPrefixOf,Bool.and_true,List.head?_cons,Option.some.injEq]
  rw[Bool.eq_iff_iff,decide_eq_true_eq,beq_iff_eq]
  exact⟨Eq.symm,Eq.symm⟩
end
section
section
variable {f n k : Nat} {first : Bool} {text : List UInt8} {s L : ByteArray} {X : List UInt8 × Nat × Int}
variable (hk : flGo 0 ((bl s).drop n) 0 = (0, k)) (hL : bl L = ((bl s).drop n).take (k - 1)) (hu : unGo (f + 1) first text n ((bl s).drop n) = X)
include hk hL hu
end
end
open Go.RowKit
def Row (w:World) (b:Nat) (cs:List Value) (t:TypeId):Prop:=w.heap[b]? = some (.cells cs.toArray t (0,0))
section
variable {w w' : World} {b : Nat} {cs : List Value} {t : TypeId}
theorem Row.cell (h:Row w b cs t) (k:Nat):w.cell? ⟨b,k,none⟩=cs[k]?:=by
 unfold Row at h
 simp[World.cell?,h]
theorem Row.fz (h:Row w b cs t) (k:Nat):w.frozen? ⟨b,k,none⟩=false:=by
 unfold Row at h
 simp[World.frozen?,h]
theorem Row.lt (h:Row w b cs t):b<w.heap.size:=(Array.getElem?_eq_some_iff.1 h).1
theorem add_off (b k j:Nat):(⟨b,k,none⟩:Addr).add j=⟨b,k+j,none⟩:=by unfold Addr.add;split <;> simp_all
theorem Row.at_ (h:Row w b cs t) {k n:Nat} {ds:List Value} (hd:(cs.drop k).take n=ds):At w ⟨b,k,none⟩ ds:=by
 refine⟨h.lt,fun j u hu=>?_⟩
 rw[add_off,h.cell]
 rw[← hd,List.getElem?_take] at hu
 split at hu
 ·rwa[List.getElem?_drop] at hu
 ·cases hu
theorem Row.keep (h:Row w b cs t) (hb:Below w.heap.size w w'):Row w' b cs t:=(hb.block b h.lt).trans h
theorem Row.same (h:Row w b cs t) (hb:w'.heap[b]? = w.heap[b]?):Row w' b cs t:=hb.trans h
theorem Row.new (w:World) (cs:List Value) (t:TypeId):Row (w.alloc (.cells cs.toArray t)) w.heap.size cs t:=by
 show (w.heap.push _)[w.heap.size]? = _
 simp
theorem Row.set (h:Row w b cs t) (k:Nat) (v:Value):Row (w.setCell ⟨b,k,none⟩ v) b (cs.set k v) t:=by
 unfold Row at *
 simp only[World.setCell,Array.getElem?_modify,h]
 simp
theorem heap_set_other (w:World) (g k:Nat) (v:Value) (j:Nat) (hj:j≠g):(w.setCell ⟨g,k,none⟩ v).heap[j]? = w.heap[j]?:=Below.heap_setCell w _ v j hj
def stD (w:World) (b k:Nat) (ds:List Value):World:=w.setCells b k ds
theorem heap_setCells_other (b:Nat):∀ (ds:List Value) (k:Nat) (w:World) (j:Nat),j≠b→(w.setCells b k ds).heap[j]? = w.heap[j]?
 | [],_,_,_,_=>rfl
 | v :: r,k,w,j,h=>by
  rw[World.setCells,heap_setCells_other b r (k+1) _ j h]
  exact heap_set_other w b k v j h
theorem heap_stD_other (w:World) (b k:Nat) (ds:List Value) (j:Nat) (h:j≠b):(stD w b k ds).heap[j]? = w.heap[j]?:=heap_setCells_other b ds k w j h
theorem setCells_size (b:Nat):∀ (ds:List Value) (k:Nat) (w:World),(w.setCells b k ds).heap.size=w.heap.size
 | [],_,_=>rfl
 | v :: r,k,w=>by rw[World.setCells,setCells_size b r (k+1)];simp[World.setCell]
theorem setCells_os (b:Nat):∀ (ds:List Value) (k:Nat) (w:World),(w.setCells b k ds).os=w.os∧(w.setCells b k ds).tape=w.tape∧(w.setCells b k ds).output=w.output
 | [],_,_=>⟨rfl,rfl,rfl⟩
 | v :: r,k,w=>by rw[World.setCells];exact setCells_os b r (k+1) _
theorem Below.stD {B:Nat} {a w:World} (h:Below B a w) {b:Nat} (hb:B≤b) (k:Nat) (ds:List Value):Below B a (stD w b k ds):=by
 obtain⟨h1,h2,h3⟩:=setCells_os b ds k w
 exact⟨h1.trans h.os,h2.trans h.tape,h3.trans h.output,Nat.le_trans h.size (Nat.le_of_eq (setCells_size b ds k w).symm),fun j hj=>(heap_stD_other w b k ds j (by omega)).trans (h.block j hj)⟩
theorem Row.sets:∀ (ds:List Value) (k:Nat) {w:World} {cs:List Value},Row w b cs t→k+ds.length≤cs.length→Row (w.setCells b k ds) b (cs.take k++ds++cs.drop (k+ds.length)) t
 | [],k,w,cs,h,hk=>by
  rw[World.setCells]
  simpa using h
 | v :: r,k,w,cs,h,hk=>by
  have hk2:k+1+r.length≤(cs.set k v).length:=by rw[List.length_set];simp at hk;omega
  have ih:=Row.sets r (k+1) (h.set k v) hk2
  rw[World.setCells]
  have e:(cs.set k v).take (k+1)++r++(cs.set k v).drop (k+1+r.length)=cs.take k++v :: r++cs.drop (k+(v :: r).length):=by
   have hlt:k<cs.length:=by simp at hk;omega
   rw[List.take_succ_eq_append_getElem (by rw[List.length_set];exact hlt),List.getElem_set_self,List.take_set_of_le (Nat.le_refl k),List.drop_set_of_lt (by omega),List.length_cons]
   simp only[List.append_assoc,List.cons_append,List.nil_append]
   rw[show k+1+r.length=k+(r.length+1) by omega]
  rwa[e] at ih
theorem Row.stD (h:Row w b cs t) (k:Nat) (ds:List Value) (hk:k+ds.length≤cs.length):Row (stD w b k ds) b (cs.take k++ds++cs.drop (k+ds.length)) t:=Row.sets ds k h hk
end
def stOk (w:World) (b k n:Nat):Bool:=match w.heap[b]? with|some (.cells cs _ (0,0))=>decide (k+n≤cs.size)|_=>false
section
variable {P : Program} (w : World)
theorem Row.ok {b:Nat} {cs:List Value} {t:TypeId} (h:Row w b cs t) (k n:Nat) (hk:k+n≤cs.length):stOk w b k n=true:=by
 unfold Row at h
 simp only[stOk,h]
 simpa using hk
theorem run_stA_off (ty:TypeId) (b k:Nat) (ds:List Value) (n:Nat) (h:stOk w b k n=true) (hi:(P.info? ty).map (·.size)=some n) (hn:ds.length=n) (h1:∀ v∈ds,v.oneCell'=true) :
  (stA ty (.pointer (some ⟨b,k,none⟩)) (.agg ds.toArray)).run P w=.ok () (stD w b k ds):=by
 unfold stOk at h
 split at h
 ·rename_i cs t hg
  have hk:k+n≤cs.size:=of_decide_eq_true h
  subst hn
  cases hq:P.info? ty with
  | none=>simp[hq] at hi
  | some i =>
   have hs:i.size=ds.length:=by simpa[hq] using hi
   have hst:=run_storeCells_cells (P:=P) b k ds 0 w (fun j hj=>by simp[World.cell?,hg];omega) (fun j hj=>by simp[World.frozen?,hg]) h1
   simp only[stA,Instr.storeAt,Instr.sureAddr,Sem.run_bind,Sem.run_pure,Result.andThen_ok]
   unfold storeVar
   have hc:(Value.agg ds.toArray).cells=ds.toArray:=rfl
   simp[Sem.run_bind,sizeOf,typeInfo,hq,hs,hst,stD,hc]
 ·cases h
end
end Go.Proofs.YtgojaelkdpabkaaGreatDoor
