/- Slices of the call's own: one element stored, the slice cut, what lies behind it cleared. take.find and the function values; slices.IndexFunc. slices.DeleteFunc by an identity; take.without. -/
import Derived.Test.YtdkjgcfhepplbaaGreatDoorMTyT
import Derived.Lib.SliceRun
import Derived.Laws.OwnMore
namespace Go.Proofs.YtdkjgcfhepplbaaGreatDoor
section
open Go.RowKit
section
variable {α : Type} {w : World} {base : Nat} {e : TypeId} {s : Nat} {enc : α → List Value} {v : Value} {xs : List α}
theorem Own.rowOf (h:Own w base e s enc v xs):(v=.slice none 0 0∧xs=[])∨∃ g c cs,v=.slice (some ⟨g,0,none⟩) xs.length c∧base≤g∧Row w g cs e∧xs.length≤c∧c≤maxLen∧cs.length=c * s∧cs.take (xs.length * s)=xs.flatMap enc:=by
 rcases h.2 with⟨h1,h2⟩|⟨g,c,cur,h1,h2,h3,h4,h5,h6,h7⟩
 ·exact Or.inl ⟨h1,List.eq_nil_of_length_eq_zero h2⟩
 ·refine Or.inr ⟨g,c,cur.toList,h1,h2,?_,h4,h5,by simpa using h6,h7⟩
  unfold Row
  simpa using h3
theorem Own.ofRow {g c:Nat} {cs:List Value} (hs:∀ x,(enc x).length=s) (hb:base≤g) (hr:Row w g cs e) (hc:xs.length≤c) (hm:c≤maxLen) (hl:cs.length=c * s) (ht:cs.take (xs.length * s)=xs.flatMap enc):Own w base e s enc (.slice (some ⟨g,0,none⟩) xs.length c) xs:=by
 refine⟨flatMap_length enc s hs xs,Or.inr ⟨g,c,cs.toArray,rfl,hb,hr,hc,hm,by simpa using hl,by simpa using ht⟩⟩
theorem flatMap_set (hs:∀ x,(enc x).length=s) (x:α):∀ (xs:List α) (i:Nat),i<xs.length→(xs.set i x).flatMap enc=(xs.flatMap enc).take (i * s)++enc x++(xs.flatMap enc).drop (i * s+s)
 | [],i,h=>absurd h (Nat.not_lt_zero _)
 | y :: r,0,_=>by
  have:=hs y
  simp[List.flatMap_cons,this]
 | y :: r,i+1,h=>by
  have hy:=hs y
  have ih:=flatMap_set hs x r i (by simpa using h)
  rw[List.set_cons_succ,List.flatMap_cons,ih,List.flatMap_cons]
  have e1:(i+1) * s=(enc y).length+i * s:=by rw[hy,Nat.succ_mul];omega
  rw[e1,List.take_length_add_append,show (enc y).length+i * s+s=(enc y).length+(i * s+s) by omega,List.drop_length_add_append]
  simp
theorem Own.store (h:Own w base e s enc v xs) (hs:∀ x,(enc x).length=s) (i:Nat) (hi:i<xs.length) (x:α):∃ g c,v=.slice (some ⟨g,0,none⟩) xs.length c∧xs.length≤c∧base≤g∧stOk w g (i * s) s=true∧Own (stD w g (i * s) (enc x)) base e s enc v (xs.set i x)∧One g w (stD w g (i * s) (enc x)):=by
 rcases h.rowOf with⟨_,rfl⟩|⟨g,c,cs,rfl,hb,hr,hc,hm,hl,ht⟩
 ·simp at hi
 ·have hle:i * s+s≤xs.length * s:=by
   have:(i+1) * s≤xs.length * s:=Nat.mul_le_mul_right _ hi
   rwa[Nat.succ_mul] at this
  have hle2:xs.length * s≤c * s:=Nat.mul_le_mul_right _ hc
  refine⟨g,c,rfl,hc,hb,Row.ok w hr (i * s) s (by omega),?_,One.stD _ _⟩
  have hr2:=hr.stD (i * s) (enc x) (by rw[hs];omega)
  have hlen:(xs.set i x).length=xs.length:=List.length_set
  rw[hs] at hr2
  have:=Own.ofRow (xs:=xs.set i x) hs hb hr2 (by rw[hlen];exact hc) hm (by
   simp only[List.length_append,List.length_take,List.length_drop,hs]
   omega) (by
   rw[hlen,flatMap_set hs x xs i hi,← ht]
   have e1:(cs.take (i * s)).length=i * s:=by rw[List.length_take];omega
   have t1:(cs.take (i * s)).take (xs.length * s)=cs.take (i * s):=by rw[List.take_take,Nat.min_eq_right (by omega)]
   have t2:(enc x).take (xs.length * s - i * s)=enc x:=List.take_of_length_le (by rw[hs];omega)
   have t3:(cs.take (xs.length * s)).take (i * s)=cs.take (i * s):=by rw[List.take_take,Nat.min_eq_left (by omega)]
   have t4:(cs.take (xs.length * s)).drop (i * s+s)=(cs.drop (i * s+s)).take (xs.length * s - (i * s+s)):=List.drop_take
   rw[List.append_assoc,List.take_append,e1,t1,List.take_append,hs,t2,t3,t4,List.append_assoc,Nat.sub_sub])
  rwa[hlen] at this
theorem Own.cut (h:Own w base e s enc v xs) (hs:∀ x,(enc x).length=s) {A:Option Addr} {n c:Nat} (hv:v=.slice A n c) (i:Nat) (hi:i≤xs.length):Own w base e s enc (.slice A i c) (xs.take i):=by
 rcases h.rowOf with⟨h1,rfl⟩|⟨g,c2,cs,h1,hb,hr,hc,hm,hl,ht⟩
 ·rw[h1] at hv
  cases hv
  obtain rfl:i=0:=by simpa using hi
  exact Own.nil _ _ _ _ _
 ·rw[h1] at hv
  cases hv
  have hlen:(xs.take i).length=i:=by rw[List.length_take];omega
  have:=Own.ofRow (xs:=xs.take i) hs hb hr (by omega) hm hl (by
   rw[hlen]
   have e1:=congrArg (List.take (i * s)) ht
   rw[List.take_take,Nat.min_eq_left (Nat.mul_le_mul_right _ hi)] at e1
   rw[e1]
   conv=>lhs;rw[← List.take_append_drop i xs,List.flatMap_append]
   rw[List.take_left' (by rw[flatMap_length enc s hs,hlen])])
  rwa[hlen] at this
theorem Own.behind (h:Own w base e s enc v xs) (hs:∀ x,(enc x).length=s) {g n c:Nat} (hv:v=.slice (some ⟨g,0,none⟩) n c) (k:Nat) (hk:xs.length * s≤k) (ds:List Value) (hd:k+ds.length≤c * s):Own (stD w g k ds) base e s enc v xs:=by
 rcases h.rowOf with⟨h1,rfl⟩|⟨g2,c2,cs,h1,hb,hr,hc,hm,hl,ht⟩
 ·rw[h1] at hv
  cases hv
 ·rw[h1] at hv
  cases hv
  rw[h1]
  refine Own.ofRow hs hb (hr.stD k ds (by omega)) hc hm ?_ ?_
  ·simp only[List.length_append,List.length_take,List.length_drop]
   omega
  ·rw[List.append_assoc,List.take_append,List.take_take,Nat.min_eq_left hk,List.length_take,show xs.length * s - min k cs.length=0 by omega,List.take_zero,List.append_nil,ht]
end
theorem zeroCells_size (z:Array Value) (n:Nat):(Builtin.zeroCells z n).size=n * z.size:=by
 simp[Builtin.zeroCells]
theorem run_clear_row {P:Program} (w:World) (t e:TypeId) (i:TypeInfo) (z:Value) (s:Nat) (ht:P.underlying t=some (.slice e)) (hi:P.info? e=some i) (hz:i.zero=some z) (hzs:z.cells.size=s) (h1:∀ u∈z.cells.toList,u.oneCell'=true)
  {b o n c:Nat} {cs:List Value} {t2:TypeId} (hr:Row w b cs t2) (ho:o+n * s≤cs.length) :
  ∃ ds,ds.length=n * s∧∀ ty,(Builtin.clear_ #[t] ty #[.slice (some ⟨b,o,none⟩) n c]).run P w=.ok (.tuple #[]) (stD w b o ds):=by
 have hv:∀ w,(zeroValue e).run P w=.ok z w:=by
  intro w
  simp[zeroValue,typeInfo,hi,hz]
 rcases Nat.eq_zero_or_pos n with rfl|hn
 ·refine⟨[],by simp,fun ty=>?_⟩
  simp[Builtin.clear_,run_underlying ht,stD,World.setCells]
 ·refine⟨(Builtin.zeroCells z.cells n).toList,by rw[Array.length_toList,zeroCells_size,hzs],fun ty=>?_⟩
  have hl:(Builtin.zeroCells z.cells n).toList.length=n * s:=by rw[Array.length_toList,zeroCells_size,hzs]
  have hst:=run_storeCells_cells (P:=P) b o (Builtin.zeroCells z.cells n).toList 0 w (fun j hj=>by
   rw[hr.cell,Nat.add_zero,List.getElem?_eq_getElem (by omega)];rfl) (fun j hj=>hr.fz _) (fun u hu=>?_)
  ·simp only[Nat.add_zero] at hst
   obtain⟨m,rfl⟩:∃ m,n=m+1:=⟨n - 1,by omega⟩
   simp[Builtin.clear_,run_underlying ht,hv,hst,stD]
  ·simp[Builtin.zeroCells] at hu
   obtain⟨j,hj,rfl⟩:=hu
   refine h1 _ ?_
   rw[getElem!_pos z.cells _ (Nat.mod_lt _ (by
    rcases Nat.eq_zero_or_pos z.cells.size with h0|h0
    ·rw[h0] at hj
     omega
    ·exact h0))]
   exact Array.getElem_mem_toList _
theorem clear_parts {w:World} {b o n c:Nat} {cs:List Value} {t2:TypeId} (hr:Row w b cs t2) (ho:o+n * 35≤cs.length):∃ ds,ds.length=n * 35∧∀ ty,(Builtin.clear_ #[102] ty #[.slice (some ⟨b,o,none⟩) n c]).run Tryz.prog w=.ok (.tuple #[]) (stD w b o ds):=by
 have hk:(Tryz.prog.info? 145).map (fun i=>(i.zero,i.size))=some (some (vA zA),35):=by kernel_rfl
 cases hq:Tryz.prog.info? 145 with
 | none=>rw[hq] at hk;cases hk
 | some i =>
  rw[hq] at hk
  simp only[Option.map_some,Option.some.injEq,Prod.mk.injEq] at hk
  exact run_clear_row (P:=Tryz.prog) w 102 145 i (vA zA) 35 underPAs hq hk.1 (by simp[vA,Value.cells,cA_length]) (by simpa[vA,Value.cells] using cA_one zA) hr ho
end
section
open Go.RowKit
def posL (l:List Pt) (x:Id):Option Nat:=l.findIdx? (fun p=>decide (p.id=x))
def idxL (l:List Pt) (x:Id):Int:=match posL l x with|some k=>(k:Int)|none => -1
theorem pos_hit {l:List Pt} {x:Id} {k:Nat} (hk:k<l.length) (h:∀ j (hj:j<k),l[j].id≠x) (hx:l[k].id=x):posL l x=some k:=by
 unfold posL
 rw[List.findIdx?_eq_some_iff_getElem]
 exact⟨hk,by simpa using hx,fun j hj=>by simpa using h j hj⟩
theorem pos_none {l:List Pt} {x:Id} (h:∀ j (hj:j<l.length),l[j].id≠x):posL l x=none:=by
 unfold posL
 rw[List.findIdx?_eq_none_iff]
 intro p hp
 obtain⟨j,hj,rfl⟩:=List.getElem_of_mem hp
 simpa using h j hj
theorem pos_some {l:List Pt} {x:Id} {k:Nat} (h:posL l x=some k):∃ hk:k<l.length,l[k].id=x∧∀ j (hj:j<k),l[j].id≠x:=by
 unfold posL at h
 rw[List.findIdx?_eq_some_iff_getElem] at h
 obtain⟨h1,h2,h3⟩:=h
 exact⟨h1,by simpa using h2,fun j hj=>by simpa using h3 j hj⟩
theorem pos_none' {l:List Pt} {x:Id} (h:posL l x=none):∀ p∈l,p.id≠x:=by
 unfold posL at h
 rw[List.findIdx?_eq_none_iff] at h
 intro p hp
 simpa using h p hp
theorem idx_some {l:List Pt} {x:Id} {k:Nat} (h:posL l x=some k):idxL l x=(k:Int):=by unfold idxL;rw[h]
theorem idx_none {l:List Pt} {x:Id} (h:posL l x=none):idxL l x=-1:=by unfold idxL;rw[h]
theorem find1_65 (p:Pt) (g:Nat) (x:Id) (w:World) (hr:Row w g (cI x) 39):Calls Tryz.prog 103 #[vA p,.pointer (some ⟨g,0,none⟩)] w fun e w'=>e=.returned (.bool (decide (p.id=x)))∧Below w.heap.size w w':=by
 have rr:=Row.okw (hr.keep (below_alloc w (.cells (aA p) 145))) (cI_length x)
 have r1:=rr.1
 have r2:rdA (w.alloc (.cells (aA p) 145)) ⟨g,0,none⟩ 32=vI x:=rr.2
 clear rr hr
 go_enter Tryz.func103,Tryz.ntmps103
 go_wp2
 go_ret
 exact⟨rfl,below_alloc _ _⟩
theorem without1_67 (p:Pt) (g:Nat) (x:Id) (w:World) (hr:Row w g (cI x) 39):Calls Tryz.prog 105 #[vA p,.pointer (some ⟨g,0,none⟩)] w fun e w'=>e=.returned (.bool (decide (p.id=x)))∧Below w.heap.size w w':=by
 have rr:=Row.okw (hr.keep (below_alloc w (.cells (aA p) 145))) (cI_length x)
 have r1:=rr.1
 have r2:rdA (w.alloc (.cells (aA p) 145)) ⟨g,0,none⟩ 32=vI x:=rr.2
 clear rr hr
 go_enter Tryz.func105,Tryz.ntmps105
 go_wp2
 go_ret
 exact⟨rfl,below_alloc _ _⟩
structure IdFn (F g:Nat) (x:Id) (w:World):Prop where
 enter:∀ (args:Array Value) (W:World),Sem.run Tryz.prog (callFunc F args) W=.ok (.enter F args) W
 row:Row w g (cI x) 39
 call:∀ (p:Pt) (u:World),Row u g (cI x) 39→Calls Tryz.prog F #[vA p,.pointer (some ⟨g,0,none⟩)] u fun e w'=>e=.returned (.bool (decide (p.id=x)))∧Below u.heap.size u w'
theorem idFn65 {g:Nat} {x:Id} {w:World} (hr:Row w g (cI x) 39):IdFn 103 g x w:=⟨enters_of Tryz.func103 (by kernel_rfl) rfl,hr,fun p u h=>find1_65 p g x u h⟩
theorem idFn67 {g:Nat} {x:Id} {w:World} (hr:Row w g (cI x) 39):IdFn 105 g x w:=⟨enters_of Tryz.func105 (by kernel_rfl) rfl,hr,fun p u h=>without1_67 p g x u h⟩
set_option maxRecDepth 100000 in
set_option maxHeartbeats 1600000 in
theorem index64 (A:Option Addr) (c:Nat) (l:List Pt) (F g:Nat) (x:Id) (w:World) (hl:Sl w cA A l) (hn:l.length≤1000000) (hF:IdFn F g x w) :
  Calls Tryz.prog 102 #[.slice A l.length c,.func (.func F) #[] #[.pointer (some ⟨g,0,none⟩)]] w fun e w'=>e=.returned (.int .i64 (idxL l x))∧Below w.heap.size w w':=by
 have HF:=Lib.hid hF
 have HS:=Lib.hid hl
 clear hF hl
 go_enter Tryz.func102,Tryz.ntmps102
 go_wp2
 go_loopw [8] (fun i wr=>∃ k:Nat,i=.int .i64 k∧k≤l.length∧(∀ j (hj:j<k) (hj2:j<l.length),l[j].id≠x)∧Below w.heap.size w wr) (fun i _=>l.length+1 - (intOf i).toNat)
 case atStart=>exact⟨0,rfl,Nat.zero_le _,fun j hj=>absurd hj (Nat.not_lt_zero _),Below.refl _ _⟩
 case round =>
  obtain⟨k,rfl,hk,hp,hb⟩:=hrel
  by_cases hlt:k<l.length
  ·have hlt1:(k:Int)<(l.length:Int):=by omega
   obtain⟨ad,rfl,ok1,rd1,_⟩:=Sl.pt (HS.out.keep hb) hlt
   obtain⟨p,hpp⟩:∃ p,l[k]=p:=⟨_,rfl⟩
   rw[hpp] at rd1
   have HP:=Lib.hid hpp
   have HB:=Lib.hid (And.intro hp hb)
   have HE:=HF.out.enter
   clear hp hb hpp
   by_cases hx:p.id=x
   ·have hd:decide (p.id=x)=true:=decide_eq_true hx
    have HN:=Lib.hid (idx_some (pos_hit (l:=l) (x:=x) hlt (fun j hj=>HB.out.1 j hj (by omega)) (by rw[HP.out];exact hx)))
    clear hx
    go_wp2_with (refine (HF.out.call p wr (HF.out.row.keep HB.out.2)).mono ?_;rintro e w2 ⟨rfl,hb2⟩;have H2:=Lib.hid (Below.step HB.out.2 hb2);clear hb2)
    go_ret
    exact⟨by rw[HN.out];rfl,H2.out⟩
   ·have hd:decide (p.id=x)=false:=decide_eq_false hx
    have HXX:=Lib.hid hx
    clear hx
    go_wp2_with (refine (HF.out.call p wr (HF.out.row.keep HB.out.2)).mono ?_;rintro e w2 ⟨rfl,hb2⟩;have H2:=Lib.hid (Below.step HB.out.2 hb2);clear hb2)
    go_roundw
    case rel =>
     refine⟨k+1,by go_num,by omega,fun j hj hj2=>?_,H2.out⟩
     rcases Nat.lt_succ_iff_lt_or_eq.1 hj with h|h
     ·exact HB.out.1 j h hj2
     ·subst h
      rw[HP.out]
      exact HXX.out
    case measure=>simp[intOf] <;> omega
  ·have hlt1:¬ (k:Int)<(l.length:Int):=by omega
   have HN:=Lib.hid (idx_none (pos_none (l:=l) (x:=x) fun j hj=>hp j (by omega) hj))
   have HB:=Lib.hid hb
   clear hp hb
   go_wp2
   go_ret
   exact⟨by rw[HN.out];rfl,HB.out⟩
set_option maxRecDepth 100000 in
theorem find40 (A:Option Addr) (c:Nat) (l:List Pt) (x:Id) (w:World) (hl:Sl w cA A l) (hn:l.length≤1000000) :
  Calls Tryz.prog 68 #[.slice A l.length c,vI x] w fun e w'=>e=.returned (.int .i64 (idxL l x))∧Below w.heap.size w w':=by
 obtain⟨b,hb⟩:∃ b,w.heap.size=b:=⟨_,rfl⟩
 have H1:=Lib.hid (And.intro (show Row (w.alloc (.cells (aI x) 39)) b (cI x) 39 by rw[← hb];exact Row.new w (cI x) _) (And.intro (hl.keep (below_alloc w (.cells (aI x) 39))) (below_alloc w (.cells (aI x) 39))))
 clear hl
 go_enter Tryz.func68,Tryz.ntmps68
 go_wp2_with (go_at_call 102;refine (index64 A c l _ b x _ H1.out.2.1 hn (idFn65 H1.out.1)).mono ?_;rintro e w2 ⟨rfl,hb2⟩;have H2:=Lib.hid (Below.step H1.out.2.2 hb2);clear hb2)
 go_ret
 exact⟨rfl,H2.out⟩
end
section
open Go.RowKit
theorem Own.slOf {α:Type} {w:World} {base:Nat} {e:TypeId} {s:Nat} {enc:α→List Value} {A:Option Addr} {n c:Nat} {xs:List α} (h:Own w base e s enc (.slice A n c) xs):Sl w enc A xs:=by
 obtain⟨A',c',he,_,h2⟩:=Own.sl h
 rw[(Value.slice.inj he).1]
 exact h2
def noId (x:Id) (p:Pt):Bool:=!decide (p.id=x)
def withoutL (l:List Pt) (x:Id):List Pt:=l.filter (noId x)
theorem without_none {l:List Pt} {x:Id} (h:posL l x=none):withoutL l x=l:=by
 unfold withoutL
 rw[List.filter_eq_self]
 intro p hp
 simpa[noId] using pos_none' h p hp
theorem without_len (l:List Pt) (x:Id):(withoutL l x).length≤l.length:=List.length_filter_le _ _
theorem filter_take_succ (l:List Pt) (P:Pt→Bool) (j:Nat) (h:j<l.length):(l.take (j+1)).filter P=(l.take j).filter P++(if P l[j] then [l[j]] else []):=by
 rw[List.take_succ_eq_append_getElem h,List.filter_append]
 congr 1
 by_cases hp:P l[j]=true
 ·simp[hp]
 ·simp[hp]
theorem take_of_pos {l:List Pt} {x:Id} {k:Nat} (h:posL l x=some k):(l.take (k+1)).filter (noId x)=l.take k:=by
 obtain⟨hk,hx,hp⟩:=pos_some h
 rw[filter_take_succ l _ k hk,if_neg (by simp[noId,hx]),List.append_nil,List.filter_eq_self]
 intro p hp'
 obtain⟨j,hj,rfl⟩:=List.getElem_of_mem hp'
 rw[List.length_take] at hj
 rw[List.getElem_take]
 simpa[noId] using hp j (by omega)
theorem part_store {w:World} {base:Nat} {n g0 c0:Nat} {ys:List Pt} (h:Own w base 145 35 cA (.slice (some ⟨g0,0,none⟩) n c0) ys) (i:Nat) (hi:i<ys.length) (p:Pt) :
  ∃ W,(stA 145 (.pointer (some ⟨g0,i * 35,none⟩)) (vA p)).run Tryz.prog w=.ok () W∧Own W base 145 35 cA (.slice (some ⟨g0,0,none⟩) n c0) (ys.set i p)∧One g0 w W:=by
 obtain⟨g',c',e',_,_,h1,h2,h3⟩:=Own.store h cA_length i hi p
 cases e'
 exact⟨_,run_stA_off w 145 g0 (i * 35) (cA p) 35 h1 sizePA (cA_length p) (cA_one p),h2,h3⟩
structure DelI (base g0:Nat) (v:Value) (l:List Pt) (x:Id) (g:Nat) (w:World) (i j:Nat) (ys:List Pt) (wr:World):Prop where
 len:ys.length=l.length
 own:Own wr base 145 35 cA v ys
 lt:i<j
 le:j≤l.length
 head:ys.take i=(l.take j).filter (noId x)
 rest:ys.drop j=l.drop j
 one:One g0 w wr
 row:Row wr g (cI x) 39
theorem DelI.get {base g0:Nat} {v:Value} {l:List Pt} {x:Id} {g:Nat} {w:World} {i j:Nat} {ys:List Pt} {wr:World} (h:DelI base g0 v l x g w i j ys wr) (hj:j<l.length):ys[j]'(by rw[h.len];exact hj)=l[j]:=by
 have:=congrArg List.head? h.rest
 rw[List.head?_drop,List.head?_drop,List.getElem?_eq_getElem (by rw[h.len];exact hj),List.getElem?_eq_getElem hj] at this
 exact Option.some.inj this
theorem DelI.skip {base g0:Nat} {v:Value} {l:List Pt} {x:Id} {g:Nat} {w:World} {i j:Nat} {ys:List Pt} {wr w2:World} (h:DelI base g0 v l x g w i j ys wr) (hj:j<l.length) (hx:noId x l[j]=false) (hb:Below wr.heap.size wr w2):DelI base g0 v l x g w i (j+1) ys w2 :=
 ⟨h.len,h.own.keep hb,by have:=h.lt;omega,hj,by rw[filter_take_succ l _ j hj,hx,h.head];simp,by rw[← List.drop_drop,h.rest,List.drop_drop],h.one.trans (One.of_below hb),h.row.keep hb⟩
theorem DelI.put {base g0:Nat} {v:Value} {l:List Pt} {x:Id} {g:Nat} {w:World} {i j:Nat} {ys:List Pt} {wr w2 w3:World} (h:DelI base g0 v l x g w i j ys wr) (hj:j<l.length) (hx:noId x l[j]=true) (hb:Below wr.heap.size wr w2) (ho:Own w3 base 145 35 cA v (ys.set i l[j])) (h1:One g0 w2 w3) (hg:g≠g0):DelI base g0 v l x g w (i+1) (j+1) (ys.set i l[j]) w3:=by
 have hi:i<ys.length:=by rw[h.len];have:=h.lt;omega
 refine⟨by rw[List.length_set,h.len],ho,by have:=h.lt;omega,hj,?_,?_,(h.one.trans (One.of_below hb)).trans h1,h1.row (h.row.keep hb) hg⟩
 ·rw[filter_take_succ l _ j hj,hx,← h.head,List.take_succ_eq_append_getElem (by rw[List.length_set];exact hi),List.getElem_set_self,List.take_set_of_le (Nat.le_refl i)]
  simp
 ·rw[List.drop_set_of_lt (by have:=h.lt;omega),← List.drop_drop,h.rest,List.drop_drop]
set_option maxRecDepth 100000 in
set_option maxHeartbeats 3200000 in
theorem deleteFunc66 (base:Nat) (v:Value) (l:List Pt) (F g:Nat) (x:Id) (w:World) (hO:Own w base 145 35 cA v l) (hn:l.length≤1000000) (hF:IdFn F g x w) (hg:v.ownBlock≠some g) :
  Calls Tryz.prog 104 #[v,.func (.func F) #[] #[.pointer (some ⟨g,0,none⟩)]] w fun e w'=>∃ v',e=.returned v'∧Own w' base 145 35 cA v' (withoutL l x)∧w.grownBy w' v.ownBlock∧v'.ownBlock=v.ownBlock:=by
 obtain⟨A0,c0,rfl,hc0,hs0⟩:=Own.sl hO
 have HO:=Lib.hid hO
 have HF:=Lib.hid hF
 cases hpos:posL l x with
 | none =>
  have hi:=idx_none hpos
  have HW:=Lib.hid (without_none hpos)
  clear hO hF hg hpos
  go_enter Tryz.func104,Tryz.ntmps104
  go_wp2_with (go_at_call 102;refine (index64 A0 c0 l F g x w hs0 hn HF.out).mono ?_;rw[hi];rintro e w2 ⟨rfl,hb2⟩;have H2:=Lib.hid hb2;clear hb2)
  go_ret
  exact⟨_,rfl,by rw[HW.out];exact HO.out.keep H2.out,⟨H2.out.os,H2.out.tape,H2.out.output,H2.out.size,fun k hk _=>H2.out.block k hk⟩,rfl⟩
 | some k =>
  have hi:=idx_some hpos
  obtain⟨hk,hxk,_⟩:=pos_some hpos
  have HT:=Lib.hid (take_of_pos hpos)
  rcases hO.rowOf with⟨_,rfl⟩|⟨g0,c,cs,he,hb0,hr0,hc,_⟩
  ·simp at hk
  cases he
  have hk1:((k:Int) == -1)=false:=beq_eq_false_iff_ne.2 (by omega)
  have hgg:g≠g0:=fun e=>hg (by rw[e];rfl)
  clear hO hF hg hpos hxk hr0
  go_enter Tryz.func104,Tryz.ntmps104
  go_wp2_with (go_at_call 102;refine (index64 (some ⟨g0,0,none⟩) c0 l F g x w hs0 hn HF.out).mono ?_;rw[hi];rintro e w2 ⟨rfl,hb2⟩;have H2:=Lib.hid hb2;clear hb2)
  go_loopw [5,6] (fun iv jv wr=>∃ (i j:Nat) (ys:List Pt),iv=.int .i64 i∧jv=.int .i64 j∧DelI base g0 (.slice (some ⟨g0,0,none⟩) l.length c0) l x g w i j ys wr) (fun _ jv _=>l.length+1 - (intOf jv).toNat)
  case atStart=>exact⟨k,k+1,l,rfl,by go_num,rfl,HO.out.keep H2.out,Nat.lt_succ_self _,hk,HT.out.symm,rfl,One.of_below H2.out,HF.out.row.keep H2.out⟩
  case round =>
   obtain⟨i,j,ys,rfl,rfl,hD⟩:=hrel
   by_cases hlt:j<l.length
   ·have hlt1:(j:Int)<(l.length:Int):=by omega
    have hsl:=Own.slOf hD.own
    obtain⟨ad,hae,ok1,rd1, -⟩:=Sl.pt hsl (show j<ys.length by rw[hD.len];exact hlt)
    cases hae
    rw[add_off,Nat.zero_add] at ok1 rd1
    rw[hD.get hlt] at rd1
    obtain⟨p,hpp⟩:∃ p,l[j]=p:=⟨_,rfl⟩
    rw[hpp] at rd1
    have HP:=Lib.hid hpp
    have HD:=Lib.hid hD
    have HE:=HF.out.enter
    have hi1:(i:Int)<(l.length:Int):=by have:=hD.lt;omega
    obtain⟨W3,hW3⟩:∃ W3,wr.alloc (.cells (aA p) 145)=W3:=⟨_,rfl⟩
    obtain⟨g3,hg3⟩:∃ g3,wr.heap.size=g3:=⟨_,rfl⟩
    have H3:=Lib.hid (And.intro (show Row W3 g3 (cA p) 145 by rw[← hW3,← hg3];exact Row.new wr (cA p) _) (show Below wr.heap.size wr W3 by rw[← hW3];exact below_alloc _ _))
    have r3:=(Row.okw H3.out.1 (cA_length p)).1
    have r4:rdA W3 ⟨g3,0,none⟩ 35=vA p:=(Row.okw H3.out.1 (cA_length p)).2
    clear hD hsl hpp
    by_cases hx:p.id=x
    ·have hd:decide (p.id=x)=true:=decide_eq_true hx
     have HN:=Lib.hid (show noId x l[j]=false by rw[HP.out];unfold noId;rw[hd];rfl)
     clear hx
     go_wp2_with (refine (HF.out.call p W3 (HD.out.row.keep H3.out.2)).mono ?_;rintro e w2 ⟨rfl,hb2⟩;have H2b:=Lib.hid (Below.step H3.out.2 hb2);clear hb2)
     go_roundw
     case rel=>exact⟨i,j+1,ys,by go_num,by go_num,HD.out.skip hlt HN.out H2b.out⟩
     case measure=>simp[intOf] <;> omega
    ·have hd:decide (p.id=x)=false:=decide_eq_false hx
     have HN:=Lib.hid (show noId x l[j]=true by rw[HP.out];unfold noId;rw[hd];rfl)
     clear hx
     go_wp2_with (refine (HF.out.call p W3 (HD.out.row.keep H3.out.2)).mono ?_;rintro e w2 ⟨rfl,hb2⟩;have H2b:=Lib.hid (And.intro (H3.out.1.keep hb2) (Below.step H3.out.2 hb2));clear hb2 r3 r4;have r3:=(Row.okw H2b.out.1 (cA_length p)).1;have r4:=(show rdA w2 ⟨g3,0,none⟩ 35=vA p from (Row.okw H2b.out.1 (cA_length p)).2);obtain⟨W5,st5,hO5,h15⟩:=part_store (HD.out.own.keep H2b.out.2) i (by rw[HD.out.len];have:=HD.out.lt;omega) p;have H5:=Lib.hid (And.intro hO5 h15);clear hO5 h15)
     go_roundw
     case rel=>exact⟨i+1,j+1,ys.set i p,by go_num,by go_num,by rw[← HP.out];exact HD.out.put hlt HN.out H2b.out.2 (by rw[HP.out];exact H5.out.1) H5.out.2 hgg⟩
     case measure=>simp[intOf] <;> omega
   ·have hlt1:¬ (j:Int)<(l.length:Int):=by omega
    obtain rfl:j=l.length:=by have:=hD.le;omega
    have hil:=hD.lt
    have HD:=Lib.hid hD
    clear hD
    have hyl:ys.length=l.length:=HD.out.len
    have htl:(ys.take i).length=i:=by rw[List.length_take];omega
    have hcut:=Own.cut HD.out.own cA_length rfl i (by omega)
    rcases HD.out.own.rowOf with⟨he,_⟩|⟨g2,c2,cs2,he,_,hr2,hc2,_,hl2,_⟩
    ·cases he
    have he2:=Value.slice.inj he
    obtain rfl:g2=g0:=by have:=he2.1;simp at this;exact this.symm
    obtain rfl:c2=c0:=he2.2.2.symm
    obtain⟨ds,hdl,hcl⟩:=clear_parts (o:=i * 35) (n:=l.length - i) (c:=c2 - i) hr2 (by omega)
    have hO6:=Own.behind hcut cA_length rfl (i * 35) (by rw[htl];exact Nat.le_refl _) ds (by omega)
    have HX:=Lib.hid (And.intro hO6 (One.stD (g:=g2) (w:=wr) (i * 35) ds))
    clear hO6 hcut he he2 hr2
    go_wp2
    go_ret
    refine⟨_,rfl,?_,⟨HX.out.2.os.trans HD.out.one.os,HX.out.2.tape.trans HD.out.one.tape,HX.out.2.output.trans HD.out.one.output,(HD.out.one.trans HX.out.2).size,fun k2 hk2 hne=>(HD.out.one.trans HX.out.2).out k2 hk2 (fun e=>hne (by rw[e];rfl))⟩,rfl⟩
    have hw:withoutL l x=ys.take i:=by rw[HD.out.head,List.take_length];rfl
    rw[hw]
    exact HX.out.1
set_option maxRecDepth 100000 in
theorem without42 (base:Nat) (v:Value) (l:List Pt) (x:Id) (w:World) (hO:Own w base 145 35 cA v l) (hn:l.length≤1000000) :
  Calls Tryz.prog 70 #[v,vI x] w fun e w'=>∃ v',e=.returned v'∧Own w' base 145 35 cA v' (withoutL l x)∧w.grownBy w' v.ownBlock∧v'.ownBlock=v.ownBlock:=by
 obtain⟨b,hb⟩:∃ b,w.heap.size=b:=⟨_,rfl⟩
 have H1:=Lib.hid (And.intro (show Row (w.alloc (.cells (aI x) 39)) b (cI x) 39 by rw[← hb];exact Row.new w (cI x) _) (And.intro (hO.keep (below_alloc w (.cells (aI x) 39))) (below_alloc w (.cells (aI x) 39))))
 have hne:v.ownBlock≠some b:=fun e=>by have:=(Own.lt hO b e).2;omega
 obtain⟨A0,c0,rfl,hc0,_⟩:=Own.sl hO
 clear hO
 go_enter Tryz.func70,Tryz.ntmps70
 go_wp2_with (go_at_call 104;refine (deleteFunc66 base _ l _ b x _ H1.out.2.1 hn (idFn67 H1.out.1) hne).mono ?_;rintro e w2 ⟨v',rfl,h2⟩;have H2:=Lib.hid h2;clear h2)
 go_ret
 exact⟨_,rfl,H2.out.1,⟨H2.out.2.1.os.trans H1.out.2.2.os,H2.out.2.1.tape.trans H1.out.2.2.tape,H2.out.2.1.output.trans H1.out.2.2.output,Nat.le_trans H1.out.2.2.size H2.out.2.1.size,fun k hk hne=>(H2.out.2.1.block k (Nat.lt_of_lt_of_le hk H1.out.2.2.size) hne).trans (H1.out.2.2.block k hk)⟩,H2.out.2.2⟩
end
open Go.RowKit
theorem ev_tmp {a:Act} {t:Nat} {v:Value} (h:a.tmps[t]?.getD undef=v):a.eval (.tmp t)=v:=by simpa[Act.eval] using h
structure Kp (F F':List Nat) (w w':World):Prop where
 os:w'.os=w.os
 tape:w'.tape=w.tape
 output:w'.output=w.output
 size:w.heap.size≤w'.heap.size
 out:∀ k,k<w.heap.size→k∉F→k∉F'∧w'.heap[k]? = w.heap[k]?
theorem Kp.refl (F:List Nat) (w:World):Kp F F w w:=⟨rfl,rfl,rfl,Nat.le_refl _,fun _ _ h=>⟨h,rfl⟩⟩
theorem Kp.trans {F F' F'':List Nat} {a b c:World} (h:Kp F F' a b) (k:Kp F' F'' b c):Kp F F'' a c :=
 ⟨k.os.trans h.os,k.tape.trans h.tape,k.output.trans h.output,Nat.le_trans h.size k.size,fun j hj hF=>by
  obtain⟨h1,h2⟩:=h.out j hj hF
  obtain⟨h3,h4⟩:=k.out j (Nat.lt_of_lt_of_le hj h.size) h1
  exact⟨h3,h4.trans h2⟩⟩
theorem Kp.of_below {F:List Nat} {w w':World} (h:Below w.heap.size w w'):Kp F F w w':=⟨h.os,h.tape,h.output,h.size,fun k hk hF=>⟨hF,h.block k hk⟩⟩
theorem Kp.below {F F':List Nat} {B:Nat} {w w':World} (h:Kp F F' w w') (hF:∀ k∈F,B≤k) (hB:B≤w.heap.size):Below B w w':=⟨h.os,h.tape,h.output,h.size,fun k hk=>(h.out k (by omega) (fun hm=>by have:=hF k hm;omega)).2⟩
theorem Own.same {α:Type} {w w':World} {base:Nat} {e:TypeId} {s:Nat} {enc:α→List Value} {v:Value} {xs:List α} (h:Own w base e s enc v xs) (hk:∀ k,v.ownBlock=some k→w'.heap[k]? = w.heap[k]?):Own w' base e s enc v xs:=by
 refine⟨h.1,h.2.imp id fun ⟨g,cap,cur,a1,a2,a3,r⟩=>⟨g,cap,cur,a1,a2,?_,r⟩⟩
 rw[hk g (by rw[a1];rfl)]
 exact a3
def isOne {α:Type} (enc:α→List Value) (x:α):Value→World→Prop:=fun v w=>∃ g,v=.slice (some ⟨g,0,none⟩) 1 1∧Sl w enc (some ⟨g,0,none⟩) [x]
theorem Mono.one {α:Type} (enc:α→List Value) (x:α):Mono (isOne enc x):=fun _ _ _ hb ⟨g,h1,h2⟩=>⟨g,h1,h2.keep hb⟩
def SlF {α:Type} (F:List Nat) (w:World) (enc:α→List Value) (v:SlV) (xs:List α):Prop:=xs.length=v.2.1∧v.2.1≤v.2.2∧Sl w enc v.1 xs∧∀ ad,v.1=some ad→xs≠[]→ad.block∉F
theorem SlF.keep {α:Type} {F:List Nat} {w w':World} {enc:α→List Value} {v:SlV} {xs:List α} (h:SlF F w enc v xs) (hb:Below w.heap.size w w'):SlF F w' enc v xs:=⟨h.1,h.2.1,h.2.2.1.keep hb,h.2.2.2⟩
theorem SlF.nil {α:Type} (F:List Nat) (w:World) (enc:α→List Value):SlF F w enc (none,0,0) ([]:List α):=⟨rfl,Nat.le_refl _,Sl.nil _ _ _,fun _ h=>by cases h⟩
theorem SlF.kp {α:Type} {F F':List Nat} {w w':World} {enc:α→List Value} {v:SlV} {xs:List α} (h:SlF F w enc v xs) (hk:Kp F F' w w'):SlF F' w' enc v xs:=by
 refine⟨h.1,h.2.1,fun hx=>?_,fun ad e hx=>?_⟩
 ·obtain⟨ad,e,hat⟩:=h.2.2.1 hx
  refine⟨ad,e,Nat.lt_of_lt_of_le hat.1 hk.size,fun j u hj=>?_⟩
  have h1:=hat.2 j u hj
  have h2:=(hk.out ad.block hat.1 (h.2.2.2 ad e hx)).2
  rw[← h1]
  unfold World.cell?
  rw[block_of_add,h2]
 ·obtain⟨ad',e',hat⟩:=h.2.2.1 hx
  rw[e] at e'
  obtain rfl:=Option.some.inj e'
  exact (hk.out ad.block hat.1 (h.2.2.2 ad e hx)).1
theorem SlF.own {α:Type} {F:List Nat} {w:World} {B:Nat} {e:TypeId} {s:Nat} {enc:α→List Value} {A:Option Addr} {n c:Nat} {xs:List α} (h:Own w B e s enc (.slice A n c) xs) (hF:∀ k∈F,k<B):SlF F w enc (A,n,c) xs:=by
 obtain⟨A',c',e1,h2,h3⟩:=Own.sl h
 injection e1 with e1 e2 e3
 subst e1 e2 e3
 refine⟨rfl,h2,h3,fun ad e hx hm=>?_⟩
 obtain rfl:A=some ad:=e
 have hlt:=hF _ hm
 rcases h.2 with⟨e,_⟩|⟨g,cap,cur,e,hg,_⟩
 ·injection e with e _ _
  cases e
 ·injection e with e _ _
  obtain rfl:=Option.some.inj e
  exact absurd hlt (by simp;omega)
theorem SlF.sub {α:Type} {F F2:List Nat} {w:World} {enc:α→List Value} {v:SlV} {xs:List α} (h:SlF F w enc v xs) (hs:∀ k∈F2,k∈F):SlF F2 w enc v xs:=⟨h.1,h.2.1,h.2.2.1,fun ad e hx hm=>h.2.2.2 ad e hx (hs _ hm)⟩
theorem Kp.app {F F':List Nat} {w w':World} (h:Kp F F' w w') (G:List Nat):Kp (F++G) (F'++G) w w' :=
 ⟨h.os,h.tape,h.output,h.size,fun k hk hm=>by
  obtain⟨h1,h2⟩:=h.out k hk (fun e=>hm (List.mem_append_left _ e))
  exact⟨fun e=>(List.mem_append.1 e).elim h1 (fun e=>hm (List.mem_append_right _ e)),h2⟩⟩
theorem SlF.new {α:Type} {F:List Nat} {w:World} {enc:α→List Value} {v:SlV} {xs:List α} (h:SlF F w enc v xs) (F2:List Nat) (hs:∀ k∈F2,k∈F∨w.heap.size≤k):SlF F2 w enc v xs:=by
 refine⟨h.1,h.2.1,h.2.2.1,fun ad e hx hm=>?_⟩
 rcases hs _ hm with h1|h1
 ·exact h.2.2.2 ad e hx h1
 ·obtain⟨ad',e',hat⟩:=h.2.2.1 hx
  rw[e] at e'
  obtain rfl:=Option.some.inj e'
  have:=hat.1
  omega
theorem SlF.same {α:Type} {F:List Nat} {w w':World} {enc:α→List Value} {v:SlV} {xs:List α} (h:SlF F w enc v xs) (hs:w.heap.size≤w'.heap.size) (ho:∀ k,k<w.heap.size→k∉F→w'.heap[k]? = w.heap[k]?):SlF F w' enc v xs:=by
 refine⟨h.1,h.2.1,fun hx=>?_,h.2.2.2⟩
 obtain⟨ad,e,hat⟩:=h.2.2.1 hx
 refine⟨ad,e,Nat.lt_of_lt_of_le hat.1 hs,fun j u hj=>?_⟩
 have h1:=hat.2 j u hj
 rw[← h1]
 unfold World.cell?
 rw[block_of_add,ho ad.block hat.1 (h.2.2.2 ad e hx)]
theorem heap_setRow_other (w:World) (g k:Nat) (ds:Array Value) (h:k≠g):(w.setRow g ds).heap[k]? = w.heap[k]?:=by
 show (w.heap.modify g _)[k]? = _
 rw[Array.getElem?_modify,if_neg (fun e=>h e.symm)]
theorem Below.setRow' {B:Nat} {a w:World} (h:Below B a w) {g:Nat} (hg:B≤g) (c:Array Value):Below B a (w.setRow g c) :=
 ⟨h.os,h.tape,h.output,by have:=h.size;simpa[World.setRow] using this,fun j hj=>(heap_setRow_other w g j c (by omega)).trans (h.block j hj)⟩
theorem Below.setCell' {B:Nat} {a w:World} (h:Below B a w) {g:Nat} (hg:B≤g) (k:Nat) (v:Value):Below B a (w.setCell ⟨g,k,none⟩ v) :=
 ⟨h.os,h.tape,h.output,by have:=h.size;simpa[World.setCell] using this,fun j hj=>(heap_set_other w g k v j (by omega)).trans (h.block j hj)⟩
theorem isOne.P (u:World) (a:Pt) (ty:TypeId):isOne cA a (.slice (some ⟨u.heap.size,0,none⟩) 1 1) (u.alloc (.cells (aAs [a]) ty)):=⟨_,rfl,fun _=>⟨_,rfl,at_new u _ ty _ rfl⟩⟩
structure Tk where
 win:Int
 opn:Bool
 act:List Pt
 kept:List Pt
structure RfAt (F:List Nat) (s:Tk) (r:Rt) (w:World):Prop where
 win:r.win=s.win
 opn:r.opn=s.opn
 act:SlF F w cA r.act s.act
 kept:SlF F w cA r.kept s.kept
theorem RfAt.keep {F:List Nat} {s:Tk} {r:Rt} {w w':World} (h:RfAt F s r w) (hb:Below w.heap.size w w'):RfAt F s r w':=⟨h.win,h.opn,h.act.keep hb,h.kept.keep hb⟩
theorem RfAt.kp {F F':List Nat} {s:Tk} {r:Rt} {w w':World} (h:RfAt F s r w) (hk:Kp F F' w w'):RfAt F' s r w':=⟨h.win,h.opn,h.act.kp hk,h.kept.kp hk⟩
theorem RfAt.sub {F F2:List Nat} {s:Tk} {r:Rt} {w:World} (h:RfAt F s r w) (hs:∀ k∈F2,k∈F):RfAt F2 s r w:=⟨h.win,h.opn,h.act.sub hs,h.kept.sub hs⟩
theorem RfAt.new {F:List Nat} {s:Tk} {r:Rt} {w:World} (h:RfAt F s r w) (F2:List Nat) (hs:∀ k∈F2,k∈F∨w.heap.size≤k):RfAt F2 s r w:=⟨h.win,h.opn,h.act.new F2 hs,h.kept.new F2 hs⟩
theorem RfAt.same {F:List Nat} {s:Tk} {r:Rt} {w w':World} (h:RfAt F s r w) (hs:w.heap.size≤w'.heap.size) (ho:∀ k,k<w.heap.size→k∉F→w'.heap[k]? = w.heap[k]?):RfAt F s r w':=⟨h.win,h.opn,h.act.same hs ho,h.kept.same hs ho⟩
open Go.RowKit
theorem parts_front {w:World} {base g n c:Nat} {l:List Pt} (h:Own w base 145 35 cA (.slice (some ⟨g,0,none⟩) n c) l) (j:Nat) (hj:j<l.length) (hc:l.length≤c) (ty:TypeId) :
  ∃ w',((Builtin.append_ #[102,102] ty #[.slice (some ⟨g,0,none⟩) 0 c,.slice (some ⟨g,j * 35,none⟩) (l.length - j) (c - j)]).run Tryz.prog w=.ok (.slice (some ⟨g,0,none⟩) (l.length - j) c) w') ∧
   Own w' base 145 35 cA (.slice (some ⟨g,0,none⟩) (l.length - j) c) (l.drop j)∧One g w w':=by
 obtain⟨i,z,h1,h2,h3⟩:=info_of rowPA
 have hcut:=Own.cut h cA_length rfl 0 (Nat.zero_le _)
 have hsl:=Sl.cut cA_length h.slOf (c:=c) (k:=j) hc
 rw[if_neg (by omega)] at hsl
 rw[show Option.map (fun x:Addr=>x.add (j * 35)) (some ⟨g,0,none⟩)=some ⟨g,j * 35,none⟩ by simp[add_off]] at hsl
 obtain⟨ad,e,hat⟩:=hsl (by intro e;have:=congrArg List.length e;rw[List.length_drop] at this;simp at this;omega)
 cases e
 have hlen:(l.drop j).length=l.length - j:=by rw[List.length_drop]
 obtain⟨w',hr,ho,hg⟩:=run_append_fits (P:=Tryz.prog) w base 102 ty 145 i 35 underPAs h1 h3 g 0 c ([].flatMap cA) hcut ⟨g,j * 35,none⟩ (l.length - j) (c - j) ((l.drop j).flatMap cA) (by rw[flatMap_length cA 35 cA_length,hlen]) hat.2
  (fun u hu=>by
   obtain⟨y,_,hy⟩:=List.mem_flatMap.1 hu
   exact cA_one y u hy) (by omega)
 rw[Nat.zero_add] at hr ho
 refine⟨w',hr,⟨by rw[flatMap_length cA 35 cA_length,hlen],?_⟩,⟨hg.os,hg.tape,hg.output,hg.size,fun k hk hk2=>hg.block k hk (by simp[hk2])⟩⟩
 rw[hlen]
 exact ho.2
set_option maxRecDepth 100000 in
set_option maxHeartbeats 3200000 in
theorem delete68 (base g n c j:Nat) (l:List Pt) (w:World) (hO:Own w base 145 35 cA (.slice (some ⟨g,0,none⟩) n c) l) (hn:l.length=n) (hn2:n≤1000000) (hj:1≤j) (hj2:j<n) (hc:n≤c) :
  Calls Tryz.prog 109 #[.slice (some ⟨g,0,none⟩) n c,.int .i64 0,.int .i64 (j:Int)] w fun e w'=>e=.returned (.slice (some ⟨g,0,none⟩) (n - j) c)∧Own w' base 145 35 cA (.slice (some ⟨g,0,none⟩) (n - j) c) (l.drop j)∧One g w w':=by
 have HO:=Lib.hid hO
 have HN:=Lib.hid hn
 have q5:¬ (j:Int)=0:=by omega
 have q6:((0:Int)==(j:Int))=false:=beq_eq_false_iff_ne.2 (by omega)
 have q7:(j:Int)≤(n:Int):=by omega
 have q8:(n:Int)≤(c:Int):=by omega
 clear hO hn
 go_enter Tryz.func109,Tryz.ntmps109
 go_wp2
 refine AnyO.wp_any_tail 6 (by kernel_rfl) (by kernel_rfl) (by kernel_rfl) (by kernel_rfl) (by kernel_rfl) (by kernel_rfl) (pstP [isV (.slice (some ⟨g,0,none⟩) n c),isV (.int .i64 0),isV (.slice (some ⟨g,0,none⟩) 0 c),isV (.slice (some ⟨g,0,none⟩) n c),isV (.int .i64 (j:Int)),isV (.slice (some ⟨g,j * 35,none⟩) (n - j) (c - j))]) (MonoL.cons (Mono.v _) (MonoL.cons (Mono.v _) (MonoL.cons (Mono.v _) (MonoL.cons (Mono.v _) (MonoL.cons (Mono.v _) (MonoL.cons (Mono.v _) MonoL.nil)))))) ?_ ?_
 ·intro i hi
  have hi2:i=0∨i=1∨i=2∨i=3∨i=4∨i=5:=by omega
  clear hi
  rcases hi2 with rfl|rfl|rfl|rfl|rfl|rfl
  all_goals
   refine AnyO.T rfl ?_;intro vs u hE hp ac hb K hK
   try have s0:ac.tmps[0]?.getD undef=.slice (some ⟨g,0,none⟩) n c:=by rw[hb.out];kernel_rfl
   try have s1:ac.tmps[1]?.getD undef=.int .i64 0:=by rw[hb.out];kernel_rfl
   try have s20:_=_:=AnyO.sw 20 0 hb hp
   try have s21:_=_:=AnyO.sw 21 1 hb hp
   try have s2:ac.tmps[2]?.getD undef=.int .i64 (j:Int):=by rw[hb.out];kernel_rfl
   try have s23:_=_:=AnyO.sw 23 3 hb hp
   try have s24:_=_:=AnyO.sw 24 4 hb hp
   have q9:¬ c=j:=by omega
   go_simp;exact hK _ _ (Below.refl _ _) rfl
 ·intro vs u hE hp
  have e0:_=_:=hp 0 (by decide)
  have e1:_=_:=hp 1 (by decide)
  have e2:_=_:=hp 2 (by decide)
  have e3:_=_:=hp 3 (by decide)
  have e4:_=_:=hp 4 (by decide)
  have e5:_=_:=hp 5 (by decide)
  clear hp
  have HU:=Lib.hid hE
  clear hE
  rw[puts_range [some 20,some 21,some 22,some 23,some 24,some 25] (by kernel_rfl)]
  simp only[putL,Nat.reduceAdd,List.drop_succ_cons,List.drop_zero,e0,e1,e2,e3,e4,e5]
  clear e0 e1 e2 e3 e4 e5
  go_simp
  obtain⟨w2,hap,ho2,h12⟩:=parts_front (HO.out.keep HU.out) j (by rw[HN.out];exact hj2) (by rw[HN.out];exact hc) 102
  rw[HN.out] at hap ho2
  rcases ho2.rowOf with⟨he,_⟩|⟨g2,c2,cs2,he,_,hr2,_,_,hl2,_⟩
  ·cases he
  have he2:=Value.slice.inj he
  obtain rfl:g2=g:=by have:=he2.1;simp at this;exact this.symm
  obtain rfl:c2=c:=he2.2.2.symm
  obtain⟨ds,hdl,hcl⟩:=clear_parts (o:=(n - j) * 35) (n:=n - (n - j)) (c:=c2 - (n - j)) hr2 (by omega)
  have hO6:=Own.behind ho2 cA_length rfl ((n - j) * 35) (by rw[List.length_drop,HN.out];exact Nat.le_refl _) ds (by omega)
  have hap2:(apA #[102,102] 102 #[.slice (some ⟨g2,0,none⟩) 0 c2,.slice (some ⟨g2,j * 35,none⟩) (n - j) (c2 - j)]).run Tryz.prog u=.ok (.slice (some ⟨g2,0,none⟩) (n - j) c2) w2:=hap
  have HX:=Lib.hid (And.intro hO6 (And.intro h12 (One.stD (g:=g2) (w:=w2) ((n - j) * 35) ds)))
  clear hO6 ho2 h12 hr2 he he2 hap
  have q1:((n - j:Nat):Int)≤(n:Int):=by omega
  have q2:((n - j:Nat):Int)≤(c2:Int):=by omega
  have q4:(n:Int)≤(c2:Int):=by omega
  go_wp2
  go_ret
  exact⟨rfl,HX.out.1,(One.of_below HU.out).trans (HX.out.2.1.trans HX.out.2.2)⟩
open Go.RowKit
def blkL (v:SlV):List Nat:=match v.1 with|some ad=>[ad.block]|none=>[]
theorem blk_of {v:SlV} {k:Nat} (h:(Value.slice v.1 v.2.1 v.2.2).ownBlock=some k):∃ ad,v.1=some ad∧ad.block=k:=by
 obtain⟨A,n,c⟩:=v
 cases A with
 | none=>simp[Value.ownBlock] at h
 | some ad=>exact⟨ad,rfl,by simpa[Value.ownBlock] using h⟩
theorem of_blk {v:SlV} {ad:Addr} (h:v.1=some ad):(Value.slice v.1 v.2.1 v.2.2).ownBlock=some ad.block:=by rw[h];rfl
structure TkR (b:Nat) (s:Tk) (F:List Nat) (va vk:SlV) (w:World):Prop where
 row:Row w b (cT ⟨s.win,s.opn,va,vk⟩) 104
 oa:Own w 0 145 35 cA (.slice va.1 va.2.1 va.2.2) s.act
 ok:Own w 0 145 35 cA (.slice vk.1 vk.2.1 vk.2.2) s.kept
 bF:b∈F
 aF:∀ ad,va.1=some ad→ad.block∈F∧ad.block≠b∧∀ ad',vk.1=some ad'→ad'.block≠ad.block
 kF:∀ ad,vk.1=some ad→ad.block∈F∧ad.block≠b
def TkAt (b:Nat) (s:Tk) (F:List Nat) (w:World):Prop:=∃ va vk,TkR b s F va vk w
section
variable {b : Nat} {s : Tk} {F : List Nat} {va vk : SlV} {w w' : World}
theorem TkR.c0 (h:TkR b s F va vk w):w.cell? ⟨b,0,none⟩=some (.int .i64 s.win):=h.row.cell 0
theorem TkR.c1 (h:TkR b s F va vk w):w.cell? ⟨b,1,none⟩=some (.bool s.opn):=h.row.cell 1
theorem TkR.c2 (h:TkR b s F va vk w):w.cell? ⟨b,2,none⟩=some (.slice va.1 va.2.1 va.2.2):=h.row.cell 2
theorem TkR.c3 (h:TkR b s F va vk w):w.cell? ⟨b,3,none⟩=some (.slice vk.1 vk.2.1 vk.2.2):=h.row.cell 3
theorem TkR.la (h:TkR b s F va vk w):va.2.1=s.act.length:=by
 obtain⟨A,c,e,_⟩:=Own.sl h.oa
 exact (Value.slice.inj e).2.1
theorem TkR.lk (h:TkR b s F va vk w):vk.2.1=s.kept.length:=by
 obtain⟨A,c,e,_⟩:=Own.sl h.ok
 exact (Value.slice.inj e).2.1
theorem TkR.ck (h:TkR b s F va vk w):s.kept.length≤vk.2.2:=by
 obtain⟨A,c,e,hc,_⟩:=Own.sl h.ok
 rw[(Value.slice.inj e).2.2]
 exact hc
theorem TkR.same (h:TkR b s F va vk w) (hk:∀ k∈F,w'.heap[k]? = w.heap[k]?):TkR b s F va vk w' :=
 ⟨h.row.same (hk b h.bF),h.oa.same (fun k e=>by obtain⟨ad,h1,rfl⟩:=blk_of e;exact hk _ (h.aF ad h1).1),h.ok.same (fun k e=>by obtain⟨ad,h1,rfl⟩:=blk_of e;exact hk _ (h.kF ad h1).1),h.bF,h.aF,h.kF⟩
theorem TkR.keep (h:TkR b s F va vk w) (hb:Below w.heap.size w w'):TkR b s F va vk w':=⟨h.row.keep hb,h.oa.keep hb,h.ok.keep hb,h.bF,h.aF,h.kF⟩
theorem TkAt.keep (h:TkAt b s F w) (hb:Below w.heap.size w w'):TkAt b s F w':=by
 obtain⟨va,vk,h⟩:=h
 exact⟨va,vk,h.keep hb⟩
theorem TkR.blt (h:TkR b s F va vk w):b<w.heap.size:=h.row.lt
theorem TkR.alt (h:TkR b s F va vk w) {ad:Addr} (e:va.1=some ad):ad.block<w.heap.size:=(Own.lt h.oa _ (of_blk e)).2
theorem TkR.klt (h:TkR b s F va vk w) {ad:Addr} (e:vk.1=some ad):ad.block<w.heap.size:=(Own.lt h.ok _ (of_blk e)).2
theorem mem_blk {v:SlV} {ad:Addr} (h:v.1=some ad):ad.block∈blkL v:=by unfold blkL;rw[h];exact List.mem_singleton.2 rfl
theorem of_mem_blk {v:SlV} {k:Nat} (h:k∈blkL v):∃ ad,v.1=some ad∧ad.block=k:=by
 unfold blkL at h
 split at h
 ·rename_i ad e
  exact⟨ad,e,(List.mem_singleton.1 h).symm⟩
 ·cases h
theorem Kp.one {g:Nat} (h:One g w w') (hg:g∈F):Kp F F w w':=⟨h.os,h.tape,h.output,h.size,fun k hk hF=>⟨hF,h.out k hk (fun e=>hF (e▸hg))⟩⟩
theorem TkR.setK (h:TkR b s F va vk w) {vk':SlV} {l':List Pt} (hg:w.grownBy w' (Value.slice vk.1 vk.2.1 vk.2.2).ownBlock) (ho:Own w' 0 145 35 cA (.slice vk'.1 vk'.2.1 vk'.2.2) l')
  (hat:∀ ad,vk'.1=some ad→(∃ ad0,vk.1=some ad0∧ad0.block=ad.block)∨w.heap.size≤ad.block) :
  TkR b { s with kept:=l' } (blkL vk'++F) va vk' (w'.setCell ⟨b,3,none⟩ (.slice vk'.1 vk'.2.1 vk'.2.2))∧Kp F (blkL vk'++F) w (w'.setCell ⟨b,3,none⟩ (.slice vk'.1 vk'.2.1 vk'.2.2)):=by
 have hb:=h.blt
 have hkb:∀ ad,vk'.1=some ad→ad.block≠b:=fun ad e=>by
  rcases hat ad e with⟨ad0,e0,e1⟩|h1
  ·rw[← e1];exact (h.kF ad0 e0).2
  ·omega
 have hrow:Row w' b (cT ⟨s.win,s.opn,va,vk⟩) 104:=h.row.same (hg.block b hb (fun e=>by
  obtain⟨ad,h1,h2⟩:=blk_of e.symm
  exact (h.kF ad h1).2 h2))
 have h1:One b w' (w'.setCell ⟨b,3,none⟩ (.slice vk'.1 vk'.2.1 vk'.2.2)):=One.set 3 _
 have hoa:Own w' 0 145 35 cA (.slice va.1 va.2.1 va.2.2) s.act:=h.oa.same fun k e=>by
  obtain⟨ad,e1,rfl⟩:=blk_of e
  exact hg.block _ (h.alt e1) (fun e2=>by
   obtain⟨ad',e3,e4⟩:=blk_of e2.symm
   exact (h.aF ad e1).2.2 ad' e3 e4)
 refine⟨⟨hrow.set 3 _,?_,?_,List.mem_append_right _ h.bF,fun ad e=>⟨List.mem_append_right _ (h.aF ad e).1,(h.aF ad e).2.1,fun ad' e'=>?_⟩,fun ad e=>⟨List.mem_append_left _ (mem_blk e),hkb ad e⟩⟩,?_⟩
 ·exact hoa.same fun k e=>heap_set_other w' b 3 _ k (fun e2=>by
   obtain⟨ad,e1,e3⟩:=blk_of e
   exact (h.aF ad e1).2.1 (e3.trans e2))
 ·exact ho.same fun k e=>heap_set_other w' b 3 _ k (fun e2=>by
   obtain⟨ad,e1,e3⟩:=blk_of e
   exact hkb ad e1 (e3.trans e2))
 ·rcases hat ad' e' with⟨ad0,e0,e1⟩|h2
  ·rw[← e1];exact (h.aF ad e).2.2 ad0 e0
  ·have:=h.alt e;omega
 ·refine⟨hg.os,hg.tape,hg.output,by have:=hg.size;simpa[World.setCell] using this,fun k hk hF=>⟨fun hm=>?_,?_⟩⟩
  ·rcases List.mem_append.1 hm with hm|hm
   ·obtain⟨ad,e,rfl⟩:=of_mem_blk hm
    rcases hat ad e with⟨ad0,e0,e1⟩|h2
    ·exact hF (e1▸(h.kF ad0 e0).1)
    ·omega
   ·exact hF hm
  ·rw[heap_set_other w' b 3 _ k (fun e=>hF (e▸h.bF))]
   exact hg.block k hk (fun e=>by
    obtain⟨ad,e1,e2⟩:=blk_of e.symm
    exact hF (e2▸(h.kF ad e1).1))
theorem TkR.setA (h:TkR b s F va vk w) {va':SlV} {l':List Pt} (hg:w.grownBy w' (Value.slice va.1 va.2.1 va.2.2).ownBlock) (ho:Own w' 0 145 35 cA (.slice va'.1 va'.2.1 va'.2.2) l')
  (hat:∀ ad,va'.1=some ad→(∃ ad0,va.1=some ad0∧ad0.block=ad.block)∨w.heap.size≤ad.block) :
  TkR b { s with act:=l' } (blkL va'++F) va' vk (w'.setCell ⟨b,2,none⟩ (.slice va'.1 va'.2.1 va'.2.2))∧Kp F (blkL va'++F) w (w'.setCell ⟨b,2,none⟩ (.slice va'.1 va'.2.1 va'.2.2)):=by
 have hb:=h.blt
 have hkb:∀ ad,va'.1=some ad→ad.block≠b:=fun ad e=>by
  rcases hat ad e with⟨ad0,e0,e1⟩|h1
  ·rw[← e1];exact (h.aF ad0 e0).2.1
  ·omega
 have hrow:Row w' b (cT ⟨s.win,s.opn,va,vk⟩) 104:=h.row.same (hg.block b hb (fun e=>by
  obtain⟨ad,h1,h2⟩:=blk_of e.symm
  exact (h.aF ad h1).2.1 h2))
 have hok:Own w' 0 145 35 cA (.slice vk.1 vk.2.1 vk.2.2) s.kept:=h.ok.same fun k e=>by
  obtain⟨ad,e1,rfl⟩:=blk_of e
  exact hg.block _ (h.klt e1) (fun e2=>by
   obtain⟨ad',e3,e4⟩:=blk_of e2.symm
   exact (h.aF ad' e3).2.2 ad e1 e4.symm)
 refine⟨⟨hrow.set 2 _,?_,?_,List.mem_append_right _ h.bF,fun ad e=>⟨List.mem_append_left _ (mem_blk e),hkb ad e,fun ad' e'=>?_⟩,fun ad e=>⟨List.mem_append_right _ (h.kF ad e).1,(h.kF ad e).2⟩⟩,?_⟩
 ·exact ho.same fun k e=>heap_set_other w' b 2 _ k (fun e2=>by
   obtain⟨ad,e1,e3⟩:=blk_of e
   exact hkb ad e1 (e3.trans e2))
 ·exact hok.same fun k e=>heap_set_other w' b 2 _ k (fun e2=>by
   obtain⟨ad,e1,e3⟩:=blk_of e
   exact (h.kF ad e1).2 (e3.trans e2))
 ·rcases hat ad e with⟨ad0,e0,e1⟩|h2
  ·rw[← e1];exact (h.aF ad0 e0).2.2 ad' e'
  ·have:=h.klt e';omega
 ·refine⟨hg.os,hg.tape,hg.output,by have:=hg.size;simpa[World.setCell] using this,fun k hk hF=>⟨fun hm=>?_,?_⟩⟩
  ·rcases List.mem_append.1 hm with hm|hm
   ·obtain⟨ad,e,rfl⟩:=of_mem_blk hm
    rcases hat ad e with⟨ad0,e0,e1⟩|h2
    ·exact hF (e1▸(h.aF ad0 e0).1)
    ·omega
   ·exact hF hm
  ·rw[heap_set_other w' b 2 _ k (fun e=>hF (e▸h.bF))]
   exact hg.block k hk (fun e=>by
    obtain⟨ad,e1,e2⟩:=blk_of e.symm
    exact hF (e2▸(h.aF ad e1).1))
theorem TkR.setO (h:TkR b s F va vk w) (o:Bool):TkR b { s with opn:=o } F va vk (w.setCell ⟨b,1,none⟩ (.bool o))∧Kp F F w (w.setCell ⟨b,1,none⟩ (.bool o)) :=
 ⟨⟨h.row.set 1 _,h.oa.same (fun k e=>heap_set_other w b 1 _ k (fun e2=>by obtain⟨ad,e1,e3⟩:=blk_of e;exact (h.aF ad e1).2.1 (e3.trans e2))),h.ok.same (fun k e=>heap_set_other w b 1 _ k (fun e2=>by obtain⟨ad,e1,e3⟩:=blk_of e;exact (h.kF ad e1).2 (e3.trans e2))),h.bF,h.aF,h.kF⟩,Kp.one (One.set 1 _) h.bF⟩
end
def Tk.new (n:Int):Tk:=⟨n,false,[],[]⟩
theorem new_tk (w:World) (n:Int):TkAt w.heap.size (Tk.new n) [w.heap.size] (w.alloc (.cells (aT ⟨n,false,(none,0,0),(none,0,0)⟩) 104)) :=
 ⟨(none,0,0),(none,0,0),Row.new w _ _,Own.nil _ _ _ _ _,Own.nil _ _ _ _ _,List.mem_singleton.2 rfl,fun ad h=>(by cases h),fun ad h=>(by cases h)⟩
theorem new13_ok (n:Int) (h1:1≤n) (h2:n≤64) (w:World):Calls Tryz.prog 16 #[.int .i64 n] w fun e w'=>e=.returned (.tuple #[.pointer (some ⟨w.heap.size,0,none⟩),.int .i64 0])∧TkAt w.heap.size (Tk.new n) [w.heap.size] w'∧Below w.heap.size w w':=by
 have q1:¬ n<1:=by omega
 have q2:¬ 64<n:=by omega
 go_enter Tryz.func16,Tryz.ntmps16
 go_wp2
 go_ret2
 exact⟨rfl,new_tk w n,below_alloc _ _⟩
def openT (s:Tk):Tk×Int:=if s.opn=true then (s,10) else ({ s with opn:=true },0)
theorem open17 (b:Nat) (s:Tk) (F:List Nat) (w:World) (h:TkAt b s F w):Calls Tryz.prog 30 #[.pointer (some ⟨b,0,none⟩)] w fun e w'=>e=.returned (.int .i64 (openT s).2)∧∃ F',TkAt b (openT s).1 F' w'∧Kp F F' w w':=by
 obtain⟨va,vk,h⟩:=h
 have c1:=h.c1
 have f1:=h.row.fz 1
 have HR:=Lib.hid h
 clear h
 cases ho:s.opn with
 | true =>
  rw[ho] at c1
  have HO:=Lib.hid ho
  clear ho
  have e:openT s=(s,10):=by unfold openT;rw[if_pos HO.out]
  rw[e]
  go_enter Tryz.func30,Tryz.ntmps30
  go_wp2
  go_ret
  exact⟨rfl,F,⟨va,vk,HR.out⟩,Kp.refl _ _⟩
 | false =>
  rw[ho] at c1
  have HO:=Lib.hid ho
  clear ho
  have e:openT s=({ s with opn:=true },0):=by unfold openT;rw[if_neg (by rw[HO.out];decide)]
  rw[e]
  go_enter Tryz.func30,Tryz.ntmps30
  go_wp2
  go_ret
  exact⟨rfl,F,⟨va,vk,(HR.out.setO true).1⟩,(HR.out.setO true).2⟩
end Go.Proofs.YtdkjgcfhepplbaaGreatDoor
