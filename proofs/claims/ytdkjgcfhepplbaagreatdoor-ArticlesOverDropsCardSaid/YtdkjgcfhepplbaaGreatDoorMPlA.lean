/- Numbers in decimal: the value of digits, and the digits of a value. Commands compared; the laws' Own. A command's line, printed and parsed: plain laws. A valid command: its canonical form; its line parses as it. A valid command's bytes, and their beginnings, decoded: plain laws. -/
import Derived.Lib.ItoaNum
import Derived.Laws.StructEq
import Derived.Test.YtdkjgcfhepplbaaGreatDoorMKnA
namespace Go.Proofs.YtdkjgcfhepplbaaGreatDoor
section
open Go.RowKit
def numV:List UInt8→Int→Int
 | [],n=>n
 | c :: r,n=>numV r (10 * n+((c.toNat:Int) - 48))
theorem dig_range {c:UInt8} (h:digB c=true):48≤c.toNat∧c.toNat≤57:=by
 unfold digB at h
 simpa using h
theorem numV_ge:∀ (l:List UInt8) (a:Int),l.all digB=true→0≤a→a≤numV l a
 | [],a,_,_=>Int.le_refl _
 | c :: r,a,h,h0=>by
  rw[List.all_cons,Bool.and_eq_true] at h
  have hd:=dig_range h.1
  have:=numV_ge r (10 * a+((c.toNat:Int) - 48)) h.2 (by omega)
  unfold numV
  omega
theorem numL_val (most:Int):∀ (l:List UInt8) (a:Int),l.all digB=true→0≤a→a≤most→numL most l a=if numV l a≤most then (numV l a,0) else (0,2)
 | [],a,_,_,h=>by unfold numL numV;rw[if_pos h]
 | c :: r,a,h,h0,hm=>by
  rw[List.all_cons,Bool.and_eq_true] at h
  have hd:=dig_range h.1
  unfold numL numV
  by_cases hov:most / 10<a∨(a=most / 10∧most % 10<(c.toNat:Int) - 48)
  ·have:=numV_ge r (10 * a+((c.toNat:Int) - 48)) h.2 (by omega)
   rw[if_pos hov,if_neg (by omega)]
  ·rw[if_neg hov]
   exact numL_val most r _ h.2 (by omega) (by omega)
def Valid (l:List UInt8):Prop:=l≠[]∧l.all digB=true∧¬ (1<l.length∧l.getD 0 0=48)
theorem numE_yes (l:List UInt8) (most:Int) (h:Valid l):numE l most=if numV l 0≤most then (numV l 0,0) else (0,2):=by
 have h0:=numV_ge l 0 h.2.1 (Int.le_refl _)
 unfold numE
 rw[if_neg]
 ·by_cases hn:most<0
  ·rw[if_pos hn,if_neg (by omega)]
  ·rw[if_neg hn]
   exact numL_val most l 0 h.2.1 (Int.le_refl _) (by omega)
 ·rintro (h1|h1|h1)
  ·exact h.1 h1
  ·rw[(runL_all digB l).2 h.2.1] at h1
   omega
  ·exact h.2.2 h1
theorem numV_append:∀ (l r:List UInt8) (a:Int),numV (l++r) a=numV r (numV l a)
 | [],_,_=>rfl
 | c :: l,r,a=>by
  rw[List.cons_append,numV,numV]
  exact numV_append l r _
theorem dg48 (x:Nat) (h:x<10):(UInt8.ofNat (48+x)).toNat=48+x:=by rw[UInt8.toNat_ofNat'];omega
theorem digB_dg (x:Nat) (h:x<10):digB (UInt8.ofNat (48+x))=true:=by
 unfold digB
 rw[dg48 x h]
 simp
 omega
theorem dec_all:∀ (u:Nat),(Lib.decDigits u).all digB=true:=by
 intro u
 induction u using Nat.strongRecOn with
 | _ u ih =>
  rw[Lib.decDigits]
  split
  ·rename_i h
   rw[List.all_cons,digB_dg u h]
   rfl
  ·rename_i h
   rw[List.all_append,ih (u / 10) (by omega),List.all_cons,digB_dg (u % 10) (by omega)]
   rfl
theorem dec_val:∀ (u:Nat),numV (Lib.decDigits u) 0=(u:Int):=by
 intro u
 induction u using Nat.strongRecOn with
 | _ u ih =>
  rw[Lib.decDigits]
  split
  ·rename_i h
   rw[numV,numV,dg48 u h]
   omega
  ·rename_i h
   rw[numV_append,ih (u / 10) (by omega),numV,numV,dg48 (u % 10) (by omega)]
   omega
theorem dec_ne (u:Nat):Lib.decDigits u≠[]:=by
 rw[Lib.decDigits]
 split <;> simp
theorem dec_head:∀ (u:Nat),0<u→(Lib.decDigits u).getD 0 0≠48:=by
 intro u
 induction u using Nat.strongRecOn with
 | _ u ih =>
  intro h0
  rw[Lib.decDigits]
  split
  ·rename_i h
   intro e
   have:=congrArg UInt8.toNat e
   rw[List.getD_cons_zero,dg48 u h] at this
   have h48:(48:UInt8).toNat=48:=rfl
   rw[h48] at this
   omega
  ·rename_i h
   have:=ih (u / 10) (by omega) (by omega)
   cases hd:Lib.decDigits (u / 10) with
   | nil=>exact absurd hd (dec_ne _)
   | cons c r=>rw[hd] at this;exact this
theorem dec_valid (u:Nat):Valid (Lib.decDigits u):=by
 refine⟨dec_ne u,dec_all u,?_⟩
 rintro⟨h1,h2⟩
 rcases Nat.eq_zero_or_pos u with h0|h0
 ·subst h0
  rw[Lib.decDigits] at h1
  simp at h1
 ·exact dec_head u h0 h2
end
section
open Go.RowKit
deriving instance DecidableEq for Cm
section
variable {P : Program} (w : World)
theorem part_c (t:TypeId) (cs:Array Value) (i:Nat) (v:Value) (d:TypeDesc) (hu:P.underlying t=some d) (hd:(match d with|.struct _|.array _ _=>false|_=>true)=true) (hv:cs[i]? = some v):(part t cs i).run P w=.ok v w:=by
 cases d <;> first|(simp[part,isAgg,run_underlying hu,hv];done)|cases hd
theorem part_a (t e:TypeId) (cs:Array Value) (i n:Nat) (hu:P.underlying t=some (.array n e)) (hs:(P.info? t).map (·.size)=some n):(part t cs i).run P w=.ok (.agg (cs.extract i (i+n))) w:=by
 cases hq:P.info? t with
 | none=>rw[hq] at hs;cases hs
 | some x =>
  rw[hq] at hs
  have hx:x.size=n:=by simpa using hs
  simp[part,isAgg,run_underlying hu,sizeOf,typeInfo,run_program,hq,hx]
theorem eqF_nil (d:Nat) (xs ys:Array Value):(Op.eqFields d xs ys []).run P w=.ok true w:=by simp[Op.eqFields]
theorem eqF_cons {d:Nat} {xs ys:Array Value} {f:Field} {fs:List Field} {a b:Value} {r q:Bool} (hn:f.name≠"_") (h1:(part f.type xs f.offset).run P w=.ok a w) (h2:(part f.type ys f.offset).run P w=.ok b w) (h3:(Op.equalIn d f.type a b).run P w=.ok r w)
  (h4:(Op.eqFields d xs ys fs).run P w=.ok q w):(Op.eqFields d xs ys (f :: fs)).run P w=.ok (r && q) w:=by
 cases r <;> simp[Op.eqFields,hn,h1,h2,h3,h4]
end
theorem list_ext (l:List Value) (i n:Nat) (r:List Value) (h:(l.drop i).take n=r):l.toArray.extract i (i+n)=r.toArray:=by
 rw[← h]
 apply Array.ext'
 simp[List.take_drop]
theorem beqL (a b:ByteArray):(a.toList==b.toList)=decide (a=b):=by
 by_cases h:a=b
 ·subst h;simp
 ·have h2:¬ a.toList=b.toList:=fun e=>h (by
   rw[ByteArray.toList_eq,ByteArray.toList_eq] at e
   exact ByteArray.ext (Array.ext' e))
  simp[h,h2]
section
variable (w : World)
theorem eqidC (d:Nat) (a b:Id):(Op.equalIn (d+2) 39 (vI a) (vI b)).run Tryz.prog w=.ok (decide (a=b)) w:=by
 obtain⟨i,h1,h2⟩:=info5
 unfold vI cI
 rw[run_equalIn_bytes w d 32 39 5 i a.1 b.1 Tryz.underlying39 Tryz.underlying5 h1 h2 a.2 b.2]
 simp[Subtype.ext_iff]
theorem idpartC (l:List Value) (i:Nat) (x:Id) (h:(l.drop i).take 32=cI x):(part 39 l.toArray i).run Tryz.prog w=.ok (vI x) w:=by
 rw[part_a w 39 5 _ i 32 Tryz.underlying39 size39,list_ext l i 32 _ h]
 rfl
theorem eqsC (a b:Cm):(Op.eqFields 9999 (cC a).toArray (cC b).toArray (Tryz.prog.fieldsOf 74).toList).run Tryz.prog w=.ok (decide (a=b)) w:=by
 simp only[Program.fieldsOf,Tryz.underlying74]
 refine Eq.trans (eqF_cons w (by decide) (part_c w 3 _ 0 _ _ Tryz.underlying3 rfl (aC_0 a)) (part_c w 3 _ 0 _ _ Tryz.underlying3 rfl (aC_0 b)) (run_equalIn_int w 9998 3 .i64 .i64 _ _ Tryz.underlying3) (eqF_cons w (by decide) (part_c w 9 _ 1 _ _ Tryz.underlying9 rfl (aC_1 a)) (part_c w 9 _ 1 _ _ Tryz.underlying9 rfl (aC_1 b)) (run_equalIn_string w 9998 9 _ _ Tryz.underlying9) (eqF_cons w (by decide) (idpartC w _ 2 a.id (cC_id a)) (idpartC w _ 2 b.id (cC_id b)) (eqidC w 9997 _ _) (eqF_cons w (by decide) (part_c w 3 _ 34 _ _ Tryz.underlying3 rfl (aC_34 a)) (part_c w 3 _ 34 _ _ Tryz.underlying3 rfl (aC_34 b)) (run_equalIn_int w 9998 3 .i64 .i64 _ _ Tryz.underlying3) (eqF_cons w (by decide) (part_c w 3 _ 35 _ _ Tryz.underlying3 rfl (aC_35 a)) (part_c w 3 _ 35 _ _ Tryz.underlying3 rfl (aC_35 b)) (run_equalIn_int w 9998 3 .i64 .i64 _ _ Tryz.underlying3) (eqF_cons w (by decide) (part_c w 3 _ 36 _ _ Tryz.underlying3 rfl (aC_36 a)) (part_c w 3 _ 36 _ _ Tryz.underlying3 rfl (aC_36 b)) (run_equalIn_int w 9998 3 .i64 .i64 _ _ Tryz.underlying3) (eqF_cons w (by decide) (part_c w 29 _ 37 _ _ Tryz.underlying29 rfl (aC_37 a)) (part_c w 29 _ 37 _ _ Tryz.underlying29 rfl (aC_37 b)) (run_equalIn_int w 9998 29 .i64 .i64 _ _ Tryz.underlying29) (eqF_cons w (by decide) (part_c w 9 _ 38 _ _ Tryz.underlying9 rfl (aC_38 a)) (part_c w 9 _ 38 _ _ Tryz.underlying9 rfl (aC_38 b)) (run_equalIn_string w 9998 9 _ _ Tryz.underlying9) (eqF_nil w 9999 _ _))))))))) ?_
 congr 1
 rw[Bool.eq_iff_iff]
 simp only[Bool.and_eq_true,beq_iff_eq,decide_eq_true_eq,beqL,and_true]
 cases a;cases b;simp[Cm.mk.injEq]
theorem prelC:Tryz.prog.underlying 74=some (.struct (Tryz.prog.fieldsOf 74)):=by rw[Program.fieldsOf,Tryz.underlying74]
theorem heldC:Tryz.prog.stoodInHeld 74=false:=by kernel_rfl
theorem guardC:Tryz.prog.eqGuardType Tryz.prog.depth 74=false:=by kernel_rfl
@[go_sem] theorem eqGuardC (op:BinOp) (x y:Operand) (a b:Cm):(eqGuard op 74 x y (vC a) (vC b)).run Tryz.prog w=.ok () w:=run_eqGuard_agg w op 74 x y _ _ guardC
@[go_sem] theorem eqlC (a b:Cm):(binOp .eql 74 (vC a) (vC b)).run Tryz.prog w=.ok (.bool (decide (a=b))) w:=by
 unfold vC
 rw[run_eql_struct,run_equalIn_struct w 9999 74 _ _ prelC heldC,eqsC]
 rfl
@[go_sem] theorem neqC (a b:Cm):(binOp .neq 74 (vC a) (vC b)).run Tryz.prog w=.ok (.bool (!decide (a=b))) w:=by
 unfold vC
 rw[run_neq_struct,run_equalIn_struct w 9999 74 _ _ prelC heldC,eqsC]
 rfl
end
theorem Row.rowOk' {w:World} {b n:Nat} {cs:List Value} {t:TypeId} (h:Row w b cs t) (hn:cs.length=n):Go.Proofs.YtdkjgcfhepplbaaGreatDoor.rowOk w b n=true:=by
 unfold Row at h
 unfold Go.Proofs.YtdkjgcfhepplbaaGreatDoor.rowOk
 rw[h]
 simpa using hn
end
section
open Go.RowKit
/-! ### identities -/
theorem hexB_digC (b:UInt8):(hexB (digC (b.toNat / 16)) && hexB (digC (b.toNat % 16)) && pairV (digC (b.toNat / 16)) (digC (b.toNat % 16))==b)=true :=
 byte_all (p:=fun b=>hexB (digC (b.toNat / 16)) && hexB (digC (b.toNat % 16)) && pairV (digC (b.toNat / 16)) (digC (b.toNat % 16))==b) (by decide +kernel) b
theorem unhex_hex:∀ l:List UInt8,unhexL (hexL l)=l
 | []=>rfl
 | b :: r=>by
  have h:=hexB_digC b
  simp only[Bool.and_eq_true,beq_iff_eq] at h
  have e:hexL (b :: r)=digC (b.toNat / 16) :: digC (b.toNat % 16) :: hexL r:=rfl
  rw[e]
  unfold unhexL
  rw[h.2,unhex_hex r]
theorem hexL_hex (l:List UInt8):(hexL l).all hexB=true:=by
 rw[List.all_eq_true]
 intro c hc
 unfold hexL at hc
 obtain⟨b,_,hb⟩:=List.mem_flatMap.1 hc
 have h:=hexB_digC b
 simp only[Bool.and_eq_true] at h
 unfold hexC at hb
 simp only[List.mem_cons,List.not_mem_nil,or_false] at hb
 rcases hb with rfl|rfl
 ·exact h.1.1
 ·exact h.1.2
theorem textL_mid (x:Id):((textL x).drop 1).take 64=hexL x.1:=by
 unfold textL
 rw[List.append_assoc,List.singleton_append,List.drop_succ_cons,List.drop_zero]
 have:(hexL x.1).length=64:=(digs x).2
 rw[← this,List.take_left]
theorem textL_end (x:Id):(textL x).drop 65=[64,104,97,115,104,62]:=by
 unfold textL
 have:([60]++hexL x.1).length=65:=by rw[List.length_append,show (hexL x.1).length=64 from (digs x).2];rfl
 rw[← this,List.drop_left]
theorem midL_text (x:Id):midL (textL x)=x:=by
 unfold midL
 rw[textL_mid,unhex_hex]
 unfold toId
 rw[dif_pos x.2]
theorem identB_text (x:Id):identB (textL x)=true:=by
 unfold identB
 rw[textL_len,decide_eq_true rfl,Bool.true_and,List.all_eq_true]
 intro i hi
 have hi71:=List.mem_range.1 hi
 unfold okAt
 by_cases h0:i<1
 ·obtain rfl:i=0:=by omega
  rfl
 ·rw[if_neg h0]
  by_cases h65:i<65
  ·rw[if_pos h65]
   have hl:(hexL x.1).length=64:=(digs x).2
   have h2:((textL x).drop 1)[i - 1]? = (hexL x.1)[i - 1]?:=by rw[← textL_mid,List.getElem?_take_of_lt (by omega)]
   rw[List.getElem?_drop,show 1+(i - 1)=i by omega,List.getElem?_eq_getElem (show i - 1<(hexL x.1).length by omega)] at h2
   rw[List.getD_eq_getElem?_getD,h2,Option.getD_some]
   exact List.all_eq_true.1 (hexL_hex x.1) _ (List.getElem_mem _)
  ·rw[if_neg h65]
   have h2:((textL x).drop 65)[i - 65]? = [64,104,97,115,104,62][i - 65]?:=by rw[textL_end]
   rw[List.getElem?_drop,show 65+(i - 65)=i by omega] at h2
   rw[List.getD_eq_getElem?_getD,h2]
   obtain⟨j,rfl⟩:∃ j,i=65+j:=⟨i - 65,by omega⟩
   rw[Nat.add_sub_cancel_left]
   have hj:j<6:=by omega
   have hall:(List.range 6).all (fun j=>decide (([64,104,97,115,104,62][j]?.getD (0:UInt8)).toNat=[64,104,97,115,104,62].getD j 0))=true:=by decide
   exact List.all_eq_true.1 hall j (List.mem_range.2 hj)
/-! ### words without spaces -/
def wordB (c:UInt8):Bool:=!(c==32) && !(c==10) && !(c==13)
theorem word_of {p:UInt8→Bool} (hp:(List.range 256).all (fun n => !p (UInt8.ofNat n) || wordB (UInt8.ofNat n))=true) (l:List UInt8) (h:l.all p=true):l.all wordB=true:=by
 rw[List.all_eq_true] at h ⊢
 intro x hx
 have h2:=byte_all (p:=fun c => !p c || wordB c) hp x
 rw[h x hx] at h2
 simpa using h2
theorem hex_word (l:List UInt8) (h:l.all hexB=true):l.all wordB=true:=word_of (by decide +kernel) l h
theorem dig_word (l:List UInt8) (h:l.all digB=true):l.all wordB=true:=word_of (by decide +kernel) l h
theorem per_word (l:List UInt8) (h:l.all perB=true):l.all wordB=true:=word_of (by decide +kernel) l h
theorem text_word (x:Id):(textL x).all wordB=true:=by
 unfold textL
 rw[List.all_append,List.all_append,hex_word _ (hexL_hex x.1)]
 decide
theorem itoa_word (n:Int) (h:0≤n):(Lib.itoa n).all wordB=true:=by
 obtain⟨u,rfl⟩:∃ u:Nat,n=(u:Int):=⟨n.toNat,by omega⟩
 rw[Lib.itoa_nonneg]
 exact dig_word _ (dec_all u)
theorem site_word (l:List UInt8) (h:siteB l=true):l.all wordB=true∧l.length≤30:=by
 unfold siteB at h
 simp only[Bool.and_eq_true,decide_eq_true_eq] at h
 exact⟨per_word l h.1.2,h.1.1.2⟩
theorem wordB_no (l:List UInt8) (h:l.all wordB=true):32∉l∧10∉l∧13∉l:=by
 rw[List.all_eq_true] at h
 refine⟨fun hm=>?_,fun hm=>?_,fun hm=>?_⟩ <;> exact absurd (h _ hm) (by decide)
theorem splitGo_word (l r:List UInt8) (h:32∉l):∀ cur,splitGo 32 cur (l++32 :: r)=(cur++l) :: splitGo 32 [] r:=by
 induction l with
 | nil=>intro cur;simp[splitGo]
 | cons x xs ih =>
  intro cur
  have hx:x≠32:=fun e=>h (by rw[e];exact List.mem_cons_self)
  rw[List.cons_append,splitGo,if_neg hx,ih (fun hm=>h (List.mem_cons_of_mem _ hm))]
  simp
theorem splitGo_one (l:List UInt8) (h:32∉l):∀ cur,splitGo 32 cur l=[cur++l]:=by
 induction l with
 | nil=>intro cur;simp[splitGo]
 | cons x xs ih =>
  intro cur
  have hx:x≠32:=fun e=>h (by rw[e];exact List.mem_cons_self)
  rw[splitGo,if_neg hx,ih (fun hm=>h (List.mem_cons_of_mem _ hm))]
  simp
theorem split_join:∀ (ws:List (List UInt8)),ws≠[]→(∀ w∈ws,32∉w)→splitGo 32 [] (Lib.join ws [32])=ws:=by
 intro ws
 induction ws with
 | nil=>intro h;exact absurd rfl h
 | cons w r ih =>
  intro _ hw
  cases r with
  | nil=>rw[Lib.join_one,splitGo_one w (hw w List.mem_cons_self)];rfl
  | cons v r =>
   have e:Lib.join (w :: v :: r) [32]=w++32 :: Lib.join (v :: r) [32]:=by
    rw[Lib.join_cons,Lib.join_cons]
    unfold Lib.joinTail
    simp
   rw[e,splitGo_word w _ (hw w List.mem_cons_self),ih (by simp) (fun x hx=>hw x (List.mem_cons_of_mem _ hx))]
   rfl
theorem join_mem (ws:List (List UInt8)) (c:UInt8) (hc:c≠32) (h:∀ w∈ws,c∉w):c∉Lib.join ws [32]:=by
 induction ws with
 | nil=>simp[Lib.join_nil]
 | cons w r ih =>
  cases r with
  | nil=>rw[Lib.join_one];exact h w List.mem_cons_self
  | cons v r =>
   have e:Lib.join (w :: v :: r) [32]=w++32 :: Lib.join (v :: r) [32]:=by
    rw[Lib.join_cons,Lib.join_cons]
    unfold Lib.joinTail
    simp
   rw[e]
   intro hm
   rcases List.mem_append.1 hm with h1|h1
   ·exact h w List.mem_cons_self h1
   ·rcases List.mem_cons.1 h1 with h2|h2
    ·exact hc h2
    ·exact ih (fun x hx=>h x (List.mem_cons_of_mem _ hx)) h2
/-! ### numbers -/
theorem numR_itoa (n least most:Int) (h1:least≤n) (h2:n≤most) (h0:0≤n):numR (itoaB n) least most=(n,true):=by
 obtain⟨u,rfl⟩:∃ u:Nat,n=(u:Int):=⟨n.toNat,by omega⟩
 have e:numE (bl (itoaB u)) most=((u:Int),0):=by
  show numE (Lib.itoa u) most=_
  rw[Lib.itoa_nonneg,numE_yes _ _ (dec_valid u),dec_val,if_pos h2]
 unfold numR
 rw[e,decide_eq_true h1]
 rfl
theorem idR_text (x:Id) (h:x≠zI):idR (textS x)=(x,true):=by
 unfold idR
 rw[show bl (textS x)=textL x from rfl,if_pos (identB_text x),midL_text,decide_eq_false h]
 rfl
theorem itoa_len (n:Int) (h0:0≤n) (h:n≤99999):(Lib.itoa n).length≤5:=by
 obtain⟨u,rfl⟩:∃ u:Nat,n=(u:Int):=⟨n.toNat,by omega⟩
 rw[Lib.itoa_nonneg]
 have key:∀ (k u:Nat),u<10 ^ (k+1)→(Lib.decDigits u).length≤k+1:=by
  intro k
  induction k with
  | zero=>intro u hu;rw[Lib.decDigits,dif_pos (by omega)];simp
  | succ k ih =>
   intro u hu
   rw[Lib.decDigits]
   split
   ·simp
   ·rw[List.length_append,List.length_singleton]
    have:=ih (u / 10) (by rw[Nat.pow_succ] at hu;omega)
    omega
 exact key 4 u (by omega)
/-! ### parse -/
theorem stepP_skip (fl a:Int) (st:PSt) (h:(bits BinOp.and .i64 fl a==0)=true):stepP fl a st=st:=by
 unfold stepP
 rw[if_pos h]
theorem stepP_read (fl a:Int) (x:ByteArray) (r:List ByteArray) (c c':Cm) (h:(bits BinOp.and .i64 fl a==0)=false) (hr:readF a x c=(c',true)):stepP fl a (true,x :: r,c)=(true,r,c'):=by
 unfold stepP
 rw[if_neg (by rw[h];decide)]
 show ((readF a x c).2,r,(readF a x c).1)=_
 rw[hr]
end
section
open Go.RowKit
theorem chkF_zero (c:Cm) (fl most:Int) (h:chkF c fl most=0) :
  (bits BinOp.andNot .i64 (orL (psC c)) fl != 0)=false∧((bits BinOp.and .i64 fl 1 != 0)=true→siteB (bl c.name)=true)∧((bits BinOp.and .i64 fl 2 != 0)=true→c.id≠zI)∧(rgs c).all (okR fl)=true:=by
 unfold chkF at h
 split at h
 ·cases h
 split at h
 ·cases h
 split at h
 ·cases h
 split at h
 ·cases h
 next h1 h2 h3 h4 =>
 refine⟨by simpa using h1,fun h5=>?_,fun h5=>?_,by simpa using h4⟩
 ·rw[h5] at h2
  simpa using h2
 ·rw[h5] at h3
  simpa using h3
def flagsL:List Int:=[17,6,10,2,34,74,64,0]
def useB (fl a:Int) (b:Bool):Bool:=!b || (bits BinOp.and .i64 fl a != 0)
theorem unused_all:(flagsL.all fun fl=>[true,false].all fun b1=>[true,false].all fun b2=>[true,false].all fun b3=>[true,false].all fun b4=>[true,false].all fun b5=>[true,false].all fun b6=>[true,false].all fun b7 =>
  (bits BinOp.andNot .i64 (orL (psL b1 b2 b3 b4 b5 b6 b7)) fl != 0) || (useB fl 1 b1 && useB fl 2 b2 && useB fl 4 b3 && useB fl 8 b4 && useB fl 16 b5 && useB fl 32 b6 && useB fl 64 b7))=true:=by decide +kernel
theorem all_bool (p:Bool→Bool) (h:[true,false].all p=true) (b:Bool):p b=true:=by
 simp only[List.all_cons,List.all_nil,Bool.and_true,Bool.and_eq_true] at h
 cases b
 ·exact h.2
 ·exact h.1
theorem unused (fl:Int) (hf:fl∈flagsL) (b1 b2 b3 b4 b5 b6 b7:Bool) (h:(bits BinOp.andNot .i64 (orL (psL b1 b2 b3 b4 b5 b6 b7)) fl != 0)=false) :
  useB fl 1 b1=true∧useB fl 2 b2=true∧useB fl 4 b3=true∧useB fl 8 b4=true∧useB fl 16 b5=true∧useB fl 32 b6=true∧useB fl 64 b7=true:=by
 have h1:=all_bool _ (all_bool _ (all_bool _ (all_bool _ (all_bool _ (all_bool _ (all_bool _ (List.all_eq_true.1 unused_all fl hf) b1) b2) b3) b4) b5) b6) b7
 rw[h,Bool.false_or] at h1
 simp only[Bool.and_eq_true] at h1
 exact⟨h1.1.1.1.1.1.1,h1.1.1.1.1.1.2,h1.1.1.1.1.2,h1.1.1.1.2,h1.1.1.2,h1.1.2,h1.2⟩
theorem empty_of (s:ByteArray) (h:s.toList.isEmpty=true):s=⟨#[]⟩:=by
 rw[isE,decide_eq_true_eq] at h
 exact bl_inj (List.length_eq_zero_iff.1 (by rw[bl_length];exact h))
structure Canon (c:Cm) (fl:Int):Prop where
 name:bits BinOp.and .i64 fl 1=0→c.name=⟨#[]⟩
 id:bits BinOp.and .i64 fl 2=0→c.id=zI
 size:bits BinOp.and .i64 fl 4=0→c.size=0
 from_:bits BinOp.and .i64 fl 8=0→c.from_=0
 count:bits BinOp.and .i64 fl 16=0→c.count=0
 code:bits BinOp.and .i64 fl 32=0→c.code=0
 text:bits BinOp.and .i64 fl 64=0→c.text=⟨#[]⟩
 site:bits BinOp.and .i64 fl 1≠0→siteB (bl c.name)=true
 idn:bits BinOp.and .i64 fl 2≠0→c.id≠zI
 sizer:bits BinOp.and .i64 fl 4≠0→1≤c.size∧c.size≤65536
 fromr:bits BinOp.and .i64 fl 8≠0→0≤c.from_∧c.from_≤65536
 countr:bits BinOp.and .i64 fl 16≠0→1≤c.count∧c.count≤1000
 coder:bits BinOp.and .i64 fl 32≠0→1≤c.code∧c.code≤99
theorem canon (c:Cm) (h:chk c=0):Canon c (formC c).2.1:=by
 obtain⟨h1,h2⟩:=chk_verb c h
 obtain⟨k,hk⟩:∃ k:Nat,c.verb=(k:Int):=⟨c.verb.toNat,by omega⟩
 have hk12:k<formsL.length:=by show k<12;omega
 have hfc:formC c=formsL[k]:=by unfold formC;rw[hk,Int.toNat_natCast,List.getElem?_eq_getElem hk12];rfl
 have hfl:(formC c).2.1∈flagsL:=by
  have h3:formsL.all (fun x=>flagsL.contains x.2.1)=true:=by decide
  have h4:=List.all_eq_true.1 h3 _ (List.getElem_mem hk12)
  rw[hfc]
  simpa using h4
 have hz:chkF c (formC c).2.1 (formC c).2.2=0:=by
  unfold chk at h
  rw[if_neg (by omega)] at h
  exact h
 generalize (formC c).2.1=fl at hfl hz ⊢
 obtain⟨e1,e2,e3,e4⟩:=chkF_zero c fl _ hz
 obtain⟨u1,u2,u3,u4,u5,u6,u7⟩:=unused fl hfl _ _ _ _ _ _ _ e1
 have key:∀ (a:Int) (b:Bool),useB fl a b=true→bits BinOp.and .i64 fl a=0→b=false:=by
  intro a b hu h0
  unfold useB at hu
  rw[h0] at hu
  simpa using hu
 have okr:∀ x∈rgs c,bits BinOp.and .i64 fl x.1≠0→x.2.2.1≤x.2.1∧x.2.1≤x.2.2.2:=by
  intro x hx h0
  have h5:=List.all_eq_true.1 e4 x hx
  unfold okR at h5
  rw[show (bits BinOp.and .i64 fl x.1==0)=false by simpa using h0] at h5
  simpa using h5
 refine⟨fun h0=>empty_of _ (by simpa using key _ _ u1 h0),fun h0=>by simpa using key _ _ u2 h0,fun h0=>by simpa using key _ _ u3 h0,fun h0=>by simpa using key _ _ u4 h0,fun h0=>by simpa using key _ _ u5 h0,fun h0=>by simpa using key _ _ u6 h0,fun h0=>empty_of _ (by simpa using key _ _ u7 h0),fun h0=>e2 (by simpa using h0),fun h0=>e3 (by simpa using h0),
  okr (4,c.size,1,65536) (by simp[rgs]),okr (8,c.from_,0,65536) (by simp[rgs]),okr (16,c.count,1,1000) (by simp[rgs]),okr (32,c.code,1,99) (by simp[rgs])⟩
structure LineOk (c:Cm):Prop where
 word:∀ w∈(wordsC (formC c).1 (formC c).2.1 (wdsC c)).map bl,w.all wordB=true
 len:(lineC c).length≤190
 parse:parseL (lineC c)=({ c with text:=⟨#[]⟩ },true)
theorem words_all (wd:ByteArray) (fl:Int) (c:Cm):wordsC wd fl (wdsC c)=wd :: ((if (bits BinOp.and .i64 fl 1 != 0)=true then [c.name] else [])++((if (bits BinOp.and .i64 fl 2 != 0)=true then [textS c.id] else [])++((if (bits BinOp.and .i64 fl 4 != 0)=true then [itoaB c.size] else [])++((if (bits BinOp.and .i64 fl 8 != 0)=true then [itoaB c.from_] else [])++((if (bits BinOp.and .i64 fl 16 != 0)=true then [itoaB c.count] else [])++(if (bits BinOp.and .i64 fl 32 != 0)=true then [itoaB c.code] else [])))))):=by
 have key:∀ (x:Wd) (l:List Wd),((x :: l).filter (useW fl)).map (·.2)=(if (bits BinOp.and .i64 fl x.1 != 0)=true then [x.2] else [])++(l.filter (useW fl)).map (·.2):=by
  intro x l
  rw[List.filter_cons]
  unfold useW
  split
  ·rfl
  ·rfl
 unfold wordsC wdsC
 rw[key,key,key,key,key,key]
 rw[List.filter_nil,List.map_nil,List.append_nil]
theorem parse_line (c:Cm) (hw:∀ w∈(wordsC (formC c).1 (formC c).2.1 (wdsC c)).map bl,w.all wordB=true):parseL (lineC c)=parseW (wordsC (formC c).1 (formC c).2.1 (wdsC c)):=by
 unfold parseL lineC
 rw[split_join _ (by unfold wordsC;simp) (fun w h=>(wordB_no _ (hw w h)).1),List.map_map,show (mkB ∘ bl)=id from funext mkB_bl,List.map_id]
theorem line1 (nm:ByteArray) (hs:siteB (bl nm)=true) (n:Int) (h1:1≤n) (h2:n≤1000):LineOk ⟨1,nm,zI,0,0,n,0,⟨#[]⟩⟩:=by
 have hws:wordsC (formC ⟨1,nm,zI,0,0,n,0,⟨#[]⟩⟩).1 (formC ⟨1,nm,zI,0,0,n,0,⟨#[]⟩⟩).2.1 (wdsC ⟨1,nm,zI,0,0,n,0,⟨#[]⟩⟩)=[⟨#[104,101,108,108,111]⟩,nm,itoaB n]:=by
  rw[words_all,show (formC ⟨1,nm,zI,0,0,n,0,⟨#[]⟩⟩).2.1=17 from rfl,if_pos (by decide),if_neg (by decide),if_neg (by decide),if_neg (by decide),if_pos (by decide),if_neg (by decide)]
  rfl
 have hw:∀ w∈(wordsC (formC ⟨1,nm,zI,0,0,n,0,⟨#[]⟩⟩).1 (formC ⟨1,nm,zI,0,0,n,0,⟨#[]⟩⟩).2.1 (wdsC ⟨1,nm,zI,0,0,n,0,⟨#[]⟩⟩)).map bl,w.all wordB=true:=by
  rw[hws]
  intro w hw
  simp only[List.map_cons,List.map_nil,List.mem_cons,List.not_mem_nil,or_false] at hw
  rcases hw with rfl|rfl|rfl
  ·decide
  ·exact (site_word _ hs).1
  ·exact itoa_word n (by omega)
 refine⟨hw,?_,?_⟩
 ·unfold lineC
  refine Nat.le_trans (join_le _) ?_
  rw[hws]
  unfold lenB
  have l1:nm.size≤30:=by rw[← bl_length];exact (site_word _ hs).2
  have l3:(itoaB n).size≤5:=Nat.le_trans (Nat.le_of_eq (Lib.size_eq _)) (itoa_len n (by omega) (by omega))
  simp only[List.map_cons,List.map_nil,List.sum_cons,List.sum_nil]
  have l0:(⟨#[104,101,108,108,111]⟩:ByteArray).size=5:=rfl
  omega
 ·rw[parse_line _ hw,hws]
  unfold parseW
  rw[show ([⟨#[104,101,108,108,111]⟩,nm,itoaB n]:List ByteArray).headD ⟨#[]⟩=⟨#[104,101,108,108,111]⟩ from rfl,show vb ⟨#[104,101,108,108,111]⟩ 11=1 by decide,if_neg (by decide)]
  simp only[rdL,List.foldl_cons,List.foldl_nil,List.drop_succ_cons,List.drop_zero]
  rw[stepP_read _ 1 (nm) _ _ ⟨1,nm,zI,0,0,0,0,⟨#[]⟩⟩ (by decide) (by show (({ (⟨1,⟨#[]⟩,zI,0,0,0,0,⟨#[]⟩⟩:Cm) with name:=nm },siteB (bl nm)):Cm×Bool)=_;rw[hs])]
  rw[stepP_skip _ 2 _ (by decide)]
  rw[stepP_skip _ 4 _ (by decide)]
  rw[stepP_skip _ 8 _ (by decide)]
  rw[stepP_read _ 16 (itoaB n) _ ⟨1,nm,zI,0,0,0,0,⟨#[]⟩⟩ ⟨1,nm,zI,0,0,n,0,⟨#[]⟩⟩ (by decide) (by show (({ (⟨1,nm,zI,0,0,0,0,⟨#[]⟩⟩:Cm) with count:=(numR (itoaB n) 1 1000).1 },(numR (itoaB n) 1 1000).2):Cm×Bool)=_;rw[numR_itoa n 1 1000 h1 h2 (by omega)])]
  rw[stepP_skip _ 32 _ (by decide)]
  rfl
theorem line2 (x:Id) (hx:x≠zI) (n:Int) (h1:1≤n) (h2:n≤65536):LineOk ⟨2,⟨#[]⟩,x,n,0,0,0,⟨#[]⟩⟩:=by
 have hws:wordsC (formC ⟨2,⟨#[]⟩,x,n,0,0,0,⟨#[]⟩⟩).1 (formC ⟨2,⟨#[]⟩,x,n,0,0,0,⟨#[]⟩⟩).2.1 (wdsC ⟨2,⟨#[]⟩,x,n,0,0,0,⟨#[]⟩⟩)=[⟨#[111,102,102,101,114]⟩,textS x,itoaB n]:=by
  rw[words_all,show (formC ⟨2,⟨#[]⟩,x,n,0,0,0,⟨#[]⟩⟩).2.1=6 from rfl,if_neg (by decide),if_pos (by decide),if_pos (by decide),if_neg (by decide),if_neg (by decide),if_neg (by decide)]
  rfl
 have hw:∀ w∈(wordsC (formC ⟨2,⟨#[]⟩,x,n,0,0,0,⟨#[]⟩⟩).1 (formC ⟨2,⟨#[]⟩,x,n,0,0,0,⟨#[]⟩⟩).2.1 (wdsC ⟨2,⟨#[]⟩,x,n,0,0,0,⟨#[]⟩⟩)).map bl,w.all wordB=true:=by
  rw[hws]
  intro w hw
  simp only[List.map_cons,List.map_nil,List.mem_cons,List.not_mem_nil,or_false] at hw
  rcases hw with rfl|rfl|rfl
  ·decide
  ·exact text_word x
  ·exact itoa_word n (by omega)
 refine⟨hw,?_,?_⟩
 ·unfold lineC
  refine Nat.le_trans (join_le _) ?_
  rw[hws]
  unfold lenB
  have l2:=textS_size x
  have l3:(itoaB n).size≤5:=Nat.le_trans (Nat.le_of_eq (Lib.size_eq _)) (itoa_len n (by omega) (by omega))
  simp only[List.map_cons,List.map_nil,List.sum_cons,List.sum_nil]
  have l0:(⟨#[111,102,102,101,114]⟩:ByteArray).size=5:=rfl
  omega
 ·rw[parse_line _ hw,hws]
  unfold parseW
  rw[show ([⟨#[111,102,102,101,114]⟩,textS x,itoaB n]:List ByteArray).headD ⟨#[]⟩=⟨#[111,102,102,101,114]⟩ from rfl,show vb ⟨#[111,102,102,101,114]⟩ 11=2 by decide,if_neg (by decide)]
  simp only[rdL,List.foldl_cons,List.foldl_nil,List.drop_succ_cons,List.drop_zero]
  rw[stepP_skip _ 1 _ (by decide)]
  rw[stepP_read _ 2 (textS x) _ _ ⟨2,⟨#[]⟩,x,0,0,0,0,⟨#[]⟩⟩ (by decide) (by show (({ (⟨2,⟨#[]⟩,zI,0,0,0,0,⟨#[]⟩⟩:Cm) with id:=(idR (textS x)).1 },(idR (textS x)).2):Cm×Bool)=_;rw[idR_text x hx])]
  rw[stepP_read _ 4 (itoaB n) _ ⟨2,⟨#[]⟩,x,0,0,0,0,⟨#[]⟩⟩ ⟨2,⟨#[]⟩,x,n,0,0,0,⟨#[]⟩⟩ (by decide) (by show (({ (⟨2,⟨#[]⟩,x,0,0,0,0,⟨#[]⟩⟩:Cm) with size:=(numR (itoaB n) 1 65536).1 },(numR (itoaB n) 1 65536).2):Cm×Bool)=_;rw[numR_itoa n 1 65536 h1 h2 (by omega)])]
  rw[stepP_skip _ 8 _ (by decide)]
  rw[stepP_skip _ 16 _ (by decide)]
  rw[stepP_skip _ 32 _ (by decide)]
  rfl
theorem line3 (x:Id) (hx:x≠zI) (n:Int) (h1:0≤n) (h2:n≤65536):LineOk ⟨3,⟨#[]⟩,x,0,n,0,0,⟨#[]⟩⟩:=by
 have hws:wordsC (formC ⟨3,⟨#[]⟩,x,0,n,0,0,⟨#[]⟩⟩).1 (formC ⟨3,⟨#[]⟩,x,0,n,0,0,⟨#[]⟩⟩).2.1 (wdsC ⟨3,⟨#[]⟩,x,0,n,0,0,⟨#[]⟩⟩)=[⟨#[119,97,110,116]⟩,textS x,itoaB n]:=by
  rw[words_all,show (formC ⟨3,⟨#[]⟩,x,0,n,0,0,⟨#[]⟩⟩).2.1=10 from rfl,if_neg (by decide),if_pos (by decide),if_neg (by decide),if_pos (by decide),if_neg (by decide),if_neg (by decide)]
  rfl
 have hw:∀ w∈(wordsC (formC ⟨3,⟨#[]⟩,x,0,n,0,0,⟨#[]⟩⟩).1 (formC ⟨3,⟨#[]⟩,x,0,n,0,0,⟨#[]⟩⟩).2.1 (wdsC ⟨3,⟨#[]⟩,x,0,n,0,0,⟨#[]⟩⟩)).map bl,w.all wordB=true:=by
  rw[hws]
  intro w hw
  simp only[List.map_cons,List.map_nil,List.mem_cons,List.not_mem_nil,or_false] at hw
  rcases hw with rfl|rfl|rfl
  ·decide
  ·exact text_word x
  ·exact itoa_word n (by omega)
 refine⟨hw,?_,?_⟩
 ·unfold lineC
  refine Nat.le_trans (join_le _) ?_
  rw[hws]
  unfold lenB
  have l2:=textS_size x
  have l3:(itoaB n).size≤5:=Nat.le_trans (Nat.le_of_eq (Lib.size_eq _)) (itoa_len n (by omega) (by omega))
  simp only[List.map_cons,List.map_nil,List.sum_cons,List.sum_nil]
  have l0:(⟨#[119,97,110,116]⟩:ByteArray).size=4:=rfl
  omega
 ·rw[parse_line _ hw,hws]
  unfold parseW
  rw[show ([⟨#[119,97,110,116]⟩,textS x,itoaB n]:List ByteArray).headD ⟨#[]⟩=⟨#[119,97,110,116]⟩ from rfl,show vb ⟨#[119,97,110,116]⟩ 11=3 by decide,if_neg (by decide)]
  simp only[rdL,List.foldl_cons,List.foldl_nil,List.drop_succ_cons,List.drop_zero]
  rw[stepP_skip _ 1 _ (by decide)]
  rw[stepP_read _ 2 (textS x) _ _ ⟨3,⟨#[]⟩,x,0,0,0,0,⟨#[]⟩⟩ (by decide) (by show (({ (⟨3,⟨#[]⟩,zI,0,0,0,0,⟨#[]⟩⟩:Cm) with id:=(idR (textS x)).1 },(idR (textS x)).2):Cm×Bool)=_;rw[idR_text x hx])]
  rw[stepP_skip _ 4 _ (by decide)]
  rw[stepP_read _ 8 (itoaB n) _ ⟨3,⟨#[]⟩,x,0,0,0,0,⟨#[]⟩⟩ ⟨3,⟨#[]⟩,x,0,n,0,0,⟨#[]⟩⟩ (by decide) (by show (({ (⟨3,⟨#[]⟩,x,0,0,0,0,⟨#[]⟩⟩:Cm) with from_:=(numR (itoaB n) 0 65536).1 },(numR (itoaB n) 0 65536).2):Cm×Bool)=_;rw[numR_itoa n 0 65536 h1 h2 (by omega)])]
  rw[stepP_skip _ 16 _ (by decide)]
  rw[stepP_skip _ 32 _ (by decide)]
  rfl
theorem line4 (x:Id) (hx:x≠zI):LineOk ⟨4,⟨#[]⟩,x,0,0,0,0,⟨#[]⟩⟩:=by
 have hws:wordsC (formC ⟨4,⟨#[]⟩,x,0,0,0,0,⟨#[]⟩⟩).1 (formC ⟨4,⟨#[]⟩,x,0,0,0,0,⟨#[]⟩⟩).2.1 (wdsC ⟨4,⟨#[]⟩,x,0,0,0,0,⟨#[]⟩⟩)=[⟨#[104,97,118,101]⟩,textS x]:=by
  rw[words_all,show (formC ⟨4,⟨#[]⟩,x,0,0,0,0,⟨#[]⟩⟩).2.1=2 from rfl,if_neg (by decide),if_pos (by decide),if_neg (by decide),if_neg (by decide),if_neg (by decide),if_neg (by decide)]
  rfl
 have hw:∀ w∈(wordsC (formC ⟨4,⟨#[]⟩,x,0,0,0,0,⟨#[]⟩⟩).1 (formC ⟨4,⟨#[]⟩,x,0,0,0,0,⟨#[]⟩⟩).2.1 (wdsC ⟨4,⟨#[]⟩,x,0,0,0,0,⟨#[]⟩⟩)).map bl,w.all wordB=true:=by
  rw[hws]
  intro w hw
  simp only[List.map_cons,List.map_nil,List.mem_cons,List.not_mem_nil,or_false] at hw
  rcases hw with rfl|rfl
  ·decide
  ·exact text_word x
 refine⟨hw,?_,?_⟩
 ·unfold lineC
  refine Nat.le_trans (join_le _) ?_
  rw[hws]
  unfold lenB
  have l2:=textS_size x
  simp only[List.map_cons,List.map_nil,List.sum_cons,List.sum_nil]
  have l0:(⟨#[104,97,118,101]⟩:ByteArray).size=4:=rfl
  omega
 ·rw[parse_line _ hw,hws]
  unfold parseW
  rw[show ([⟨#[104,97,118,101]⟩,textS x]:List ByteArray).headD ⟨#[]⟩=⟨#[104,97,118,101]⟩ from rfl,show vb ⟨#[104,97,118,101]⟩ 11=4 by decide,if_neg (by decide)]
  simp only[rdL,List.foldl_cons,List.foldl_nil,List.drop_succ_cons,List.drop_zero]
  rw[stepP_skip _ 1 _ (by decide)]
  rw[stepP_read _ 2 (textS x) _ _ ⟨4,⟨#[]⟩,x,0,0,0,0,⟨#[]⟩⟩ (by decide) (by show (({ (⟨4,⟨#[]⟩,zI,0,0,0,0,⟨#[]⟩⟩:Cm) with id:=(idR (textS x)).1 },(idR (textS x)).2):Cm×Bool)=_;rw[idR_text x hx])]
  rw[stepP_skip _ 4 _ (by decide)]
  rw[stepP_skip _ 8 _ (by decide)]
  rw[stepP_skip _ 16 _ (by decide)]
  rw[stepP_skip _ 32 _ (by decide)]
  rfl
theorem line5 (x:Id) (hx:x≠zI):LineOk ⟨5,⟨#[]⟩,x,0,0,0,0,⟨#[]⟩⟩:=by
 have hws:wordsC (formC ⟨5,⟨#[]⟩,x,0,0,0,0,⟨#[]⟩⟩).1 (formC ⟨5,⟨#[]⟩,x,0,0,0,0,⟨#[]⟩⟩).2.1 (wdsC ⟨5,⟨#[]⟩,x,0,0,0,0,⟨#[]⟩⟩)=[⟨#[108,97,116,101,114]⟩,textS x]:=by
  rw[words_all,show (formC ⟨5,⟨#[]⟩,x,0,0,0,0,⟨#[]⟩⟩).2.1=2 from rfl,if_neg (by decide),if_pos (by decide),if_neg (by decide),if_neg (by decide),if_neg (by decide),if_neg (by decide)]
  rfl
 have hw:∀ w∈(wordsC (formC ⟨5,⟨#[]⟩,x,0,0,0,0,⟨#[]⟩⟩).1 (formC ⟨5,⟨#[]⟩,x,0,0,0,0,⟨#[]⟩⟩).2.1 (wdsC ⟨5,⟨#[]⟩,x,0,0,0,0,⟨#[]⟩⟩)).map bl,w.all wordB=true:=by
  rw[hws]
  intro w hw
  simp only[List.map_cons,List.map_nil,List.mem_cons,List.not_mem_nil,or_false] at hw
  rcases hw with rfl|rfl
  ·decide
  ·exact text_word x
 refine⟨hw,?_,?_⟩
 ·unfold lineC
  refine Nat.le_trans (join_le _) ?_
  rw[hws]
  unfold lenB
  have l2:=textS_size x
  simp only[List.map_cons,List.map_nil,List.sum_cons,List.sum_nil]
  have l0:(⟨#[108,97,116,101,114]⟩:ByteArray).size=5:=rfl
  omega
 ·rw[parse_line _ hw,hws]
  unfold parseW
  rw[show ([⟨#[108,97,116,101,114]⟩,textS x]:List ByteArray).headD ⟨#[]⟩=⟨#[108,97,116,101,114]⟩ from rfl,show vb ⟨#[108,97,116,101,114]⟩ 11=5 by decide,if_neg (by decide)]
  simp only[rdL,List.foldl_cons,List.foldl_nil,List.drop_succ_cons,List.drop_zero]
  rw[stepP_skip _ 1 _ (by decide)]
  rw[stepP_read _ 2 (textS x) _ _ ⟨5,⟨#[]⟩,x,0,0,0,0,⟨#[]⟩⟩ (by decide) (by show (({ (⟨5,⟨#[]⟩,zI,0,0,0,0,⟨#[]⟩⟩:Cm) with id:=(idR (textS x)).1 },(idR (textS x)).2):Cm×Bool)=_;rw[idR_text x hx])]
  rw[stepP_skip _ 4 _ (by decide)]
  rw[stepP_skip _ 8 _ (by decide)]
  rw[stepP_skip _ 16 _ (by decide)]
  rw[stepP_skip _ 32 _ (by decide)]
  rfl
theorem line6 (x:Id) (hx:x≠zI) (n:Int) (h1:1≤n) (h2:n≤99):LineOk ⟨6,⟨#[]⟩,x,0,0,0,n,⟨#[]⟩⟩:=by
 have hws:wordsC (formC ⟨6,⟨#[]⟩,x,0,0,0,n,⟨#[]⟩⟩).1 (formC ⟨6,⟨#[]⟩,x,0,0,0,n,⟨#[]⟩⟩).2.1 (wdsC ⟨6,⟨#[]⟩,x,0,0,0,n,⟨#[]⟩⟩)=[⟨#[114,101,102,117,115,101]⟩,textS x,itoaB n]:=by
  rw[words_all,show (formC ⟨6,⟨#[]⟩,x,0,0,0,n,⟨#[]⟩⟩).2.1=34 from rfl,if_neg (by decide),if_pos (by decide),if_neg (by decide),if_neg (by decide),if_neg (by decide),if_pos (by decide)]
  rfl
 have hw:∀ w∈(wordsC (formC ⟨6,⟨#[]⟩,x,0,0,0,n,⟨#[]⟩⟩).1 (formC ⟨6,⟨#[]⟩,x,0,0,0,n,⟨#[]⟩⟩).2.1 (wdsC ⟨6,⟨#[]⟩,x,0,0,0,n,⟨#[]⟩⟩)).map bl,w.all wordB=true:=by
  rw[hws]
  intro w hw
  simp only[List.map_cons,List.map_nil,List.mem_cons,List.not_mem_nil,or_false] at hw
  rcases hw with rfl|rfl|rfl
  ·decide
  ·exact text_word x
  ·exact itoa_word n (by omega)
 refine⟨hw,?_,?_⟩
 ·unfold lineC
  refine Nat.le_trans (join_le _) ?_
  rw[hws]
  unfold lenB
  have l2:=textS_size x
  have l3:(itoaB n).size≤5:=Nat.le_trans (Nat.le_of_eq (Lib.size_eq _)) (itoa_len n (by omega) (by omega))
  simp only[List.map_cons,List.map_nil,List.sum_cons,List.sum_nil]
  have l0:(⟨#[114,101,102,117,115,101]⟩:ByteArray).size=6:=rfl
  omega
 ·rw[parse_line _ hw,hws]
  unfold parseW
  rw[show ([⟨#[114,101,102,117,115,101]⟩,textS x,itoaB n]:List ByteArray).headD ⟨#[]⟩=⟨#[114,101,102,117,115,101]⟩ from rfl,show vb ⟨#[114,101,102,117,115,101]⟩ 11=6 by decide,if_neg (by decide)]
  simp only[rdL,List.foldl_cons,List.foldl_nil,List.drop_succ_cons,List.drop_zero]
  rw[stepP_skip _ 1 _ (by decide)]
  rw[stepP_read _ 2 (textS x) _ _ ⟨6,⟨#[]⟩,x,0,0,0,0,⟨#[]⟩⟩ (by decide) (by show (({ (⟨6,⟨#[]⟩,zI,0,0,0,0,⟨#[]⟩⟩:Cm) with id:=(idR (textS x)).1 },(idR (textS x)).2):Cm×Bool)=_;rw[idR_text x hx])]
  rw[stepP_skip _ 4 _ (by decide)]
  rw[stepP_skip _ 8 _ (by decide)]
  rw[stepP_skip _ 16 _ (by decide)]
  rw[stepP_read _ 32 (itoaB n) _ ⟨6,⟨#[]⟩,x,0,0,0,0,⟨#[]⟩⟩ ⟨6,⟨#[]⟩,x,0,0,0,n,⟨#[]⟩⟩ (by decide) (by show (({ (⟨6,⟨#[]⟩,x,0,0,0,0,⟨#[]⟩⟩:Cm) with code:=(numR (itoaB n) 1 99).1 },(numR (itoaB n) 1 99).2):Cm×Bool)=_;rw[numR_itoa n 1 99 h1 h2 (by omega)])]
  rfl
theorem line7 (x:Id) (hx:x≠zI) (n:Int) (h1:0≤n) (h2:n≤65536) (t:ByteArray):LineOk ⟨7,⟨#[]⟩,x,0,n,0,0,t⟩:=by
 have hws:wordsC (formC ⟨7,⟨#[]⟩,x,0,n,0,0,t⟩).1 (formC ⟨7,⟨#[]⟩,x,0,n,0,0,t⟩).2.1 (wdsC ⟨7,⟨#[]⟩,x,0,n,0,0,t⟩)=[⟨#[100,97,116,97]⟩,textS x,itoaB n]:=by
  rw[words_all,show (formC ⟨7,⟨#[]⟩,x,0,n,0,0,t⟩).2.1=74 from rfl,if_neg (by decide),if_pos (by decide),if_neg (by decide),if_pos (by decide),if_neg (by decide),if_neg (by decide)]
  rfl
 have hw:∀ w∈(wordsC (formC ⟨7,⟨#[]⟩,x,0,n,0,0,t⟩).1 (formC ⟨7,⟨#[]⟩,x,0,n,0,0,t⟩).2.1 (wdsC ⟨7,⟨#[]⟩,x,0,n,0,0,t⟩)).map bl,w.all wordB=true:=by
  rw[hws]
  intro w hw
  simp only[List.map_cons,List.map_nil,List.mem_cons,List.not_mem_nil,or_false] at hw
  rcases hw with rfl|rfl|rfl
  ·decide
  ·exact text_word x
  ·exact itoa_word n (by omega)
 refine⟨hw,?_,?_⟩
 ·unfold lineC
  refine Nat.le_trans (join_le _) ?_
  rw[hws]
  unfold lenB
  have l2:=textS_size x
  have l3:(itoaB n).size≤5:=Nat.le_trans (Nat.le_of_eq (Lib.size_eq _)) (itoa_len n (by omega) (by omega))
  simp only[List.map_cons,List.map_nil,List.sum_cons,List.sum_nil]
  have l0:(⟨#[100,97,116,97]⟩:ByteArray).size=4:=rfl
  omega
 ·rw[parse_line _ hw,hws]
  unfold parseW
  rw[show ([⟨#[100,97,116,97]⟩,textS x,itoaB n]:List ByteArray).headD ⟨#[]⟩=⟨#[100,97,116,97]⟩ from rfl,show vb ⟨#[100,97,116,97]⟩ 11=7 by decide,if_neg (by decide)]
  simp only[rdL,List.foldl_cons,List.foldl_nil,List.drop_succ_cons,List.drop_zero]
  rw[stepP_skip _ 1 _ (by decide)]
  rw[stepP_read _ 2 (textS x) _ _ ⟨7,⟨#[]⟩,x,0,0,0,0,⟨#[]⟩⟩ (by decide) (by show (({ (⟨7,⟨#[]⟩,zI,0,0,0,0,⟨#[]⟩⟩:Cm) with id:=(idR (textS x)).1 },(idR (textS x)).2):Cm×Bool)=_;rw[idR_text x hx])]
  rw[stepP_skip _ 4 _ (by decide)]
  rw[stepP_read _ 8 (itoaB n) _ ⟨7,⟨#[]⟩,x,0,0,0,0,⟨#[]⟩⟩ ⟨7,⟨#[]⟩,x,0,n,0,0,⟨#[]⟩⟩ (by decide) (by show (({ (⟨7,⟨#[]⟩,x,0,0,0,0,⟨#[]⟩⟩:Cm) with from_:=(numR (itoaB n) 0 65536).1 },(numR (itoaB n) 0 65536).2):Cm×Bool)=_;rw[numR_itoa n 0 65536 h1 h2 (by omega)])]
  rw[stepP_skip _ 16 _ (by decide)]
  rw[stepP_skip _ 32 _ (by decide)]
  rfl
theorem line8 (x:Id) (hx:x≠zI):LineOk ⟨8,⟨#[]⟩,x,0,0,0,0,⟨#[]⟩⟩:=by
 have hws:wordsC (formC ⟨8,⟨#[]⟩,x,0,0,0,0,⟨#[]⟩⟩).1 (formC ⟨8,⟨#[]⟩,x,0,0,0,0,⟨#[]⟩⟩).2.1 (wdsC ⟨8,⟨#[]⟩,x,0,0,0,0,⟨#[]⟩⟩)=[⟨#[100,111,110,101]⟩,textS x]:=by
  rw[words_all,show (formC ⟨8,⟨#[]⟩,x,0,0,0,0,⟨#[]⟩⟩).2.1=2 from rfl,if_neg (by decide),if_pos (by decide),if_neg (by decide),if_neg (by decide),if_neg (by decide),if_neg (by decide)]
  rfl
 have hw:∀ w∈(wordsC (formC ⟨8,⟨#[]⟩,x,0,0,0,0,⟨#[]⟩⟩).1 (formC ⟨8,⟨#[]⟩,x,0,0,0,0,⟨#[]⟩⟩).2.1 (wdsC ⟨8,⟨#[]⟩,x,0,0,0,0,⟨#[]⟩⟩)).map bl,w.all wordB=true:=by
  rw[hws]
  intro w hw
  simp only[List.map_cons,List.map_nil,List.mem_cons,List.not_mem_nil,or_false] at hw
  rcases hw with rfl|rfl
  ·decide
  ·exact text_word x
 refine⟨hw,?_,?_⟩
 ·unfold lineC
  refine Nat.le_trans (join_le _) ?_
  rw[hws]
  unfold lenB
  have l2:=textS_size x
  simp only[List.map_cons,List.map_nil,List.sum_cons,List.sum_nil]
  have l0:(⟨#[100,111,110,101]⟩:ByteArray).size=4:=rfl
  omega
 ·rw[parse_line _ hw,hws]
  unfold parseW
  rw[show ([⟨#[100,111,110,101]⟩,textS x]:List ByteArray).headD ⟨#[]⟩=⟨#[100,111,110,101]⟩ from rfl,show vb ⟨#[100,111,110,101]⟩ 11=8 by decide,if_neg (by decide)]
  simp only[rdL,List.foldl_cons,List.foldl_nil,List.drop_succ_cons,List.drop_zero]
  rw[stepP_skip _ 1 _ (by decide)]
  rw[stepP_read _ 2 (textS x) _ _ ⟨8,⟨#[]⟩,x,0,0,0,0,⟨#[]⟩⟩ (by decide) (by show (({ (⟨8,⟨#[]⟩,zI,0,0,0,0,⟨#[]⟩⟩:Cm) with id:=(idR (textS x)).1 },(idR (textS x)).2):Cm×Bool)=_;rw[idR_text x hx])]
  rw[stepP_skip _ 4 _ (by decide)]
  rw[stepP_skip _ 8 _ (by decide)]
  rw[stepP_skip _ 16 _ (by decide)]
  rw[stepP_skip _ 32 _ (by decide)]
  rfl
theorem line9 (x:Id) (hx:x≠zI):LineOk ⟨9,⟨#[]⟩,x,0,0,0,0,⟨#[]⟩⟩:=by
 have hws:wordsC (formC ⟨9,⟨#[]⟩,x,0,0,0,0,⟨#[]⟩⟩).1 (formC ⟨9,⟨#[]⟩,x,0,0,0,0,⟨#[]⟩⟩).2.1 (wdsC ⟨9,⟨#[]⟩,x,0,0,0,0,⟨#[]⟩⟩)=[⟨#[103,111,116]⟩,textS x]:=by
  rw[words_all,show (formC ⟨9,⟨#[]⟩,x,0,0,0,0,⟨#[]⟩⟩).2.1=2 from rfl,if_neg (by decide),if_pos (by decide),if_neg (by decide),if_neg (by decide),if_neg (by decide),if_neg (by decide)]
  rfl
 have hw:∀ w∈(wordsC (formC ⟨9,⟨#[]⟩,x,0,0,0,0,⟨#[]⟩⟩).1 (formC ⟨9,⟨#[]⟩,x,0,0,0,0,⟨#[]⟩⟩).2.1 (wdsC ⟨9,⟨#[]⟩,x,0,0,0,0,⟨#[]⟩⟩)).map bl,w.all wordB=true:=by
  rw[hws]
  intro w hw
  simp only[List.map_cons,List.map_nil,List.mem_cons,List.not_mem_nil,or_false] at hw
  rcases hw with rfl|rfl
  ·decide
  ·exact text_word x
 refine⟨hw,?_,?_⟩
 ·unfold lineC
  refine Nat.le_trans (join_le _) ?_
  rw[hws]
  unfold lenB
  have l2:=textS_size x
  simp only[List.map_cons,List.map_nil,List.sum_cons,List.sum_nil]
  have l0:(⟨#[103,111,116]⟩:ByteArray).size=3:=rfl
  omega
 ·rw[parse_line _ hw,hws]
  unfold parseW
  rw[show ([⟨#[103,111,116]⟩,textS x]:List ByteArray).headD ⟨#[]⟩=⟨#[103,111,116]⟩ from rfl,show vb ⟨#[103,111,116]⟩ 11=9 by decide,if_neg (by decide)]
  simp only[rdL,List.foldl_cons,List.foldl_nil,List.drop_succ_cons,List.drop_zero]
  rw[stepP_skip _ 1 _ (by decide)]
  rw[stepP_read _ 2 (textS x) _ _ ⟨9,⟨#[]⟩,x,0,0,0,0,⟨#[]⟩⟩ (by decide) (by show (({ (⟨9,⟨#[]⟩,zI,0,0,0,0,⟨#[]⟩⟩:Cm) with id:=(idR (textS x)).1 },(idR (textS x)).2):Cm×Bool)=_;rw[idR_text x hx])]
  rw[stepP_skip _ 4 _ (by decide)]
  rw[stepP_skip _ 8 _ (by decide)]
  rw[stepP_skip _ 16 _ (by decide)]
  rw[stepP_skip _ 32 _ (by decide)]
  rfl
theorem line10 (t:ByteArray):LineOk ⟨10,⟨#[]⟩,zI,0,0,0,0,t⟩:=by
 have hws:wordsC (formC ⟨10,⟨#[]⟩,zI,0,0,0,0,t⟩).1 (formC ⟨10,⟨#[]⟩,zI,0,0,0,0,t⟩).2.1 (wdsC ⟨10,⟨#[]⟩,zI,0,0,0,0,t⟩)=[⟨#[98,97,116,99,104]⟩]:=by
  rw[words_all,show (formC ⟨10,⟨#[]⟩,zI,0,0,0,0,t⟩).2.1=64 from rfl,if_neg (by decide),if_neg (by decide),if_neg (by decide),if_neg (by decide),if_neg (by decide),if_neg (by decide)]
  rfl
 have hw:∀ w∈(wordsC (formC ⟨10,⟨#[]⟩,zI,0,0,0,0,t⟩).1 (formC ⟨10,⟨#[]⟩,zI,0,0,0,0,t⟩).2.1 (wdsC ⟨10,⟨#[]⟩,zI,0,0,0,0,t⟩)).map bl,w.all wordB=true:=by
  rw[hws]
  intro w hw
  simp only[List.map_cons,List.map_nil,List.mem_cons,List.not_mem_nil,or_false] at hw
  rcases hw with rfl
  ·decide
 refine⟨hw,?_,?_⟩
 ·unfold lineC
  refine Nat.le_trans (join_le _) ?_
  rw[hws]
  unfold lenB
  simp only[List.map_cons,List.map_nil,List.sum_cons,List.sum_nil]
  have l0:(⟨#[98,97,116,99,104]⟩:ByteArray).size=5:=rfl
  omega
 ·rw[parse_line _ hw,hws]
  unfold parseW
  rw[show ([⟨#[98,97,116,99,104]⟩]:List ByteArray).headD ⟨#[]⟩=⟨#[98,97,116,99,104]⟩ from rfl,show vb ⟨#[98,97,116,99,104]⟩ 11=10 by decide,if_neg (by decide)]
  simp only[rdL,List.foldl_cons,List.foldl_nil,List.drop_succ_cons,List.drop_zero]
  rw[stepP_skip _ 1 _ (by decide)]
  rw[stepP_skip _ 2 _ (by decide)]
  rw[stepP_skip _ 4 _ (by decide)]
  rw[stepP_skip _ 8 _ (by decide)]
  rw[stepP_skip _ 16 _ (by decide)]
  rw[stepP_skip _ 32 _ (by decide)]
  rfl
theorem line11:LineOk ⟨11,⟨#[]⟩,zI,0,0,0,0,⟨#[]⟩⟩:=by
 have hws:wordsC (formC ⟨11,⟨#[]⟩,zI,0,0,0,0,⟨#[]⟩⟩).1 (formC ⟨11,⟨#[]⟩,zI,0,0,0,0,⟨#[]⟩⟩).2.1 (wdsC ⟨11,⟨#[]⟩,zI,0,0,0,0,⟨#[]⟩⟩)=[⟨#[113,117,105,116]⟩]:=by
  rw[words_all,show (formC ⟨11,⟨#[]⟩,zI,0,0,0,0,⟨#[]⟩⟩).2.1=0 from rfl,if_neg (by decide),if_neg (by decide),if_neg (by decide),if_neg (by decide),if_neg (by decide),if_neg (by decide)]
  rfl
 have hw:∀ w∈(wordsC (formC ⟨11,⟨#[]⟩,zI,0,0,0,0,⟨#[]⟩⟩).1 (formC ⟨11,⟨#[]⟩,zI,0,0,0,0,⟨#[]⟩⟩).2.1 (wdsC ⟨11,⟨#[]⟩,zI,0,0,0,0,⟨#[]⟩⟩)).map bl,w.all wordB=true:=by
  rw[hws]
  intro w hw
  simp only[List.map_cons,List.map_nil,List.mem_cons,List.not_mem_nil,or_false] at hw
  rcases hw with rfl
  ·decide
 refine⟨hw,?_,?_⟩
 ·unfold lineC
  refine Nat.le_trans (join_le _) ?_
  rw[hws]
  unfold lenB
  simp only[List.map_cons,List.map_nil,List.sum_cons,List.sum_nil]
  have l0:(⟨#[113,117,105,116]⟩:ByteArray).size=4:=rfl
  omega
 ·rw[parse_line _ hw,hws]
  unfold parseW
  rw[show ([⟨#[113,117,105,116]⟩]:List ByteArray).headD ⟨#[]⟩=⟨#[113,117,105,116]⟩ from rfl,show vb ⟨#[113,117,105,116]⟩ 11=11 by decide,if_neg (by decide)]
  simp only[rdL,List.foldl_cons,List.foldl_nil,List.drop_succ_cons,List.drop_zero]
  rw[stepP_skip _ 1 _ (by decide)]
  rw[stepP_skip _ 2 _ (by decide)]
  rw[stepP_skip _ 4 _ (by decide)]
  rw[stepP_skip _ 8 _ (by decide)]
  rw[stepP_skip _ 16 _ (by decide)]
  rw[stepP_skip _ 32 _ (by decide)]
  rfl
theorem line_ok (c:Cm) (h:chk c=0):LineOk c:=by
 obtain⟨h1,h2⟩:=chk_verb c h
 have hc:=canon c h
 obtain⟨v,nm,x,sz,fr,co,cd,t⟩:=c
 simp only at h1 h2
 have hv:v=1∨v=2∨v=3∨v=4∨v=5∨v=6∨v=7∨v=8∨v=9∨v=10∨v=11:=by omega
 clear h
 rcases hv with rfl|rfl|rfl|rfl|rfl|rfl|rfl|rfl|rfl|rfl|rfl
 ·replace hc:Canon _ 17:=hc
  obtain rfl:=hc.id (by decide)
  obtain rfl:=hc.size (by decide)
  obtain rfl:=hc.from_ (by decide)
  obtain rfl:=hc.code (by decide)
  obtain rfl:=hc.text (by decide)
  exact line1 nm (hc.site (by decide)) co (hc.countr (by decide)).1 (hc.countr (by decide)).2
 ·replace hc:Canon _ 6:=hc
  obtain rfl:=hc.name (by decide)
  obtain rfl:=hc.from_ (by decide)
  obtain rfl:=hc.count (by decide)
  obtain rfl:=hc.code (by decide)
  obtain rfl:=hc.text (by decide)
  exact line2 x (hc.idn (by decide)) sz (hc.sizer (by decide)).1 (hc.sizer (by decide)).2
 ·replace hc:Canon _ 10:=hc
  obtain rfl:=hc.name (by decide)
  obtain rfl:=hc.size (by decide)
  obtain rfl:=hc.count (by decide)
  obtain rfl:=hc.code (by decide)
  obtain rfl:=hc.text (by decide)
  exact line3 x (hc.idn (by decide)) fr (hc.fromr (by decide)).1 (hc.fromr (by decide)).2
 ·replace hc:Canon _ 2:=hc
  obtain rfl:=hc.name (by decide)
  obtain rfl:=hc.size (by decide)
  obtain rfl:=hc.from_ (by decide)
  obtain rfl:=hc.count (by decide)
  obtain rfl:=hc.code (by decide)
  obtain rfl:=hc.text (by decide)
  exact line4 x (hc.idn (by decide))
 ·replace hc:Canon _ 2:=hc
  obtain rfl:=hc.name (by decide)
  obtain rfl:=hc.size (by decide)
  obtain rfl:=hc.from_ (by decide)
  obtain rfl:=hc.count (by decide)
  obtain rfl:=hc.code (by decide)
  obtain rfl:=hc.text (by decide)
  exact line5 x (hc.idn (by decide))
 ·replace hc:Canon _ 34:=hc
  obtain rfl:=hc.name (by decide)
  obtain rfl:=hc.size (by decide)
  obtain rfl:=hc.from_ (by decide)
  obtain rfl:=hc.count (by decide)
  obtain rfl:=hc.text (by decide)
  exact line6 x (hc.idn (by decide)) cd (hc.coder (by decide)).1 (hc.coder (by decide)).2
 ·replace hc:Canon _ 74:=hc
  obtain rfl:=hc.name (by decide)
  obtain rfl:=hc.size (by decide)
  obtain rfl:=hc.count (by decide)
  obtain rfl:=hc.code (by decide)
  exact line7 x (hc.idn (by decide)) fr (hc.fromr (by decide)).1 (hc.fromr (by decide)).2 t
 ·replace hc:Canon _ 2:=hc
  obtain rfl:=hc.name (by decide)
  obtain rfl:=hc.size (by decide)
  obtain rfl:=hc.from_ (by decide)
  obtain rfl:=hc.count (by decide)
  obtain rfl:=hc.code (by decide)
  obtain rfl:=hc.text (by decide)
  exact line8 x (hc.idn (by decide))
 ·replace hc:Canon _ 2:=hc
  obtain rfl:=hc.name (by decide)
  obtain rfl:=hc.size (by decide)
  obtain rfl:=hc.from_ (by decide)
  obtain rfl:=hc.count (by decide)
  obtain rfl:=hc.code (by decide)
  obtain rfl:=hc.text (by decide)
  exact line9 x (hc.idn (by decide))
 ·replace hc:Canon _ 64:=hc
  obtain rfl:=hc.name (by decide)
  obtain rfl:=hc.id (by decide)
  obtain rfl:=hc.size (by decide)
  obtain rfl:=hc.from_ (by decide)
  obtain rfl:=hc.count (by decide)
  obtain rfl:=hc.code (by decide)
  exact line10 t
 ·replace hc:Canon _ 0:=hc
  obtain rfl:=hc.name (by decide)
  obtain rfl:=hc.id (by decide)
  obtain rfl:=hc.size (by decide)
  obtain rfl:=hc.from_ (by decide)
  obtain rfl:=hc.count (by decide)
  obtain rfl:=hc.code (by decide)
  obtain rfl:=hc.text (by decide)
  exact line11
end
section
open Go.RowKit
theorem index_line (L r:List UInt8) (h:10∉L):Lib.indexByte (L++13 :: 10 :: r) 10=((L.length+1:Nat):Int):=by
 induction L with
 | nil=>rfl
 | cons x xs ih =>
  have hx:(x==10)=false:=beq_eq_false_iff_ne.2 (fun e=>h (by rw[e];exact List.mem_cons_self))
  rw[List.cons_append,Lib.indexByte,hx,ih (fun hm=>h (List.mem_cons_of_mem _ hm))]
  have h1:((((xs.length+1:Nat):Int)) == -1)=false:=beq_eq_false_iff_ne.2 (by omega)
  rw[h1]
  simp
theorem index_no (L:List UInt8) (h:10∉L):Lib.indexByte L 10=-1:=by
 induction L with
 | nil=>rfl
 | cons x xs ih =>
  have hx:(x==10)=false:=beq_eq_false_iff_ne.2 (fun e=>h (by rw[e];exact List.mem_cons_self))
  rw[Lib.indexByte,hx,ih (fun hm=>h (List.mem_cons_of_mem _ hm))]
  rfl
theorem line_no (c:Cm) (h:LineOk c):10∉lineC c∧13∉lineC c:=by
 unfold lineC
 exact⟨join_mem _ 10 (by decide) fun w hw=>(wordB_no w (h.word w hw)).2.1,join_mem _ 13 (by decide) fun w hw=>(wordB_no w (h.word w hw)).2.2⟩
def tailC (c:Cm):List UInt8:=if bits BinOp.and .i64 (formC c).2.1 64==0 then [] else stuffL (bl c.text)
theorem encT_eq (c:Cm) (h:chk c=0):encT c=lineC c++13 :: 10 :: tailC c:=by
 unfold encT tailC
 rw[if_neg (by rw[h];decide)]
 simp
theorem text_empty (c:Cm) (h:chk c=0) (hf:(bits BinOp.and .i64 (formC c).2.1 64==0)=true):({ c with text:=⟨#[]⟩ }:Cm)=c:=by
 have h1:=(canon c h).text (by simpa using hf)
 obtain⟨v,nm,x,sz,fr,co,cd,t⟩:=c
 simp only at h1
 rw[h1]
theorem cut_line (L r:List UInt8):(L++13 :: 10 :: r).take (L.length+1 - 1)=L∧(L++13 :: 10 :: r).drop (L.length+1+1)=r∧(L++13 :: 10 :: r).getD (L.length+1 - 1) 0=13:=by
 refine⟨?_,?_,?_⟩
 ·rw[Nat.add_sub_cancel,List.take_left]
 ·rw[show L++13 :: 10 :: r=(L++[13,10])++r by simp,show L.length+1+1=(L++[13,10]).length by simp,List.drop_left]
 ·rw[Nat.add_sub_cancel,List.getD_eq_getElem?_getD,List.getElem?_append_right (Nat.le_refl _),Nat.sub_self]
  rfl
theorem dec_round (c:Cm) (h:chk c=0) (rest:List UInt8):decL (encT c++rest)=(c,(encT c).length,0):=by
 have hl:=line_ok c h
 have hn:=line_no c hl
 have hlen:=hl.len
 have hp:=hl.parse
 rw[encT_eq c h,List.append_assoc,List.cons_append,List.cons_append]
 have hi:=index_line (lineC c) (tailC c++rest) hn.1
 obtain⟨c1,c2,c3⟩:=cut_line (lineC c) (tailC c++rest)
 generalize hl0:lineC c++13 :: 10 :: (tailC c++rest)=l at hi c1 c2 c3
 by_cases hf:(bits BinOp.and .i64 (formC c).2.1 64==0)=true
 ·have ht:tailC c=[]:=by unfold tailC;rw[if_pos hf]
  rw[dec_plain hi (by omega) (by rw[c3];simp) (c:={ c with text:=⟨#[]⟩ }) (by rw[c1,hp]) hf,text_empty c h hf,ht,List.length_append]
  rfl
 ·have hf2:(bits BinOp.and .i64 (formC c).2.1 64==0)=false:=by simpa using hf
  have ht:tailC c=stuffL (bl c.text):=by unfold tailC;rw[if_neg hf]
  have he:=chk_text c h _ _ _ rfl hf2
  obtain⟨h1,h2⟩:=stE_zero _ he
  have hu:=un_stuff (bl c.text) rest h2 h1
  rw[dec_text hi (by omega) (by rw[c3];simp) (c:={ c with text:=⟨#[]⟩ }) (by rw[c1,hp]) hf2 (t:=c.text) (n:=(stuffL (bl c.text)).length) (by rw[c2,ht,hu]) (show chk c=0 from h),ht,List.length_append]
  show (c,_,_)=_
  simp only[List.length_cons]
  congr 2
  omega
/-! ### beginnings -/
theorem flGo_short (l:List UInt8) (hl:plainB l) (r:List UInt8):∀ (last:UInt8) (i j:Nat),j≤l.length+1→flGo last ((l++13 :: 10 :: r).take j) i=(4,0):=by
 induction l with
 | nil =>
  intro last i j hj
  have:j=0∨j=1:=by simp only[List.length_nil] at hj;omega
  rcases this with rfl|rfl <;> simp[flGo]
 | cons x xs ih =>
  intro last i j hj
  have h10:x≠10:=fun h=>hl.1 (by rw[h];exact List.mem_cons_self)
  have h13:x≠13:=fun h=>hl.2 (by rw[h];exact List.mem_cons_self)
  cases j with
  | zero=>simp[flGo]
  | succ j =>
   rw[List.cons_append,List.take_succ_cons,flGo,if_neg h13,if_neg h10]
   exact ih ⟨fun h=>hl.1 (List.mem_cons_of_mem _ h),fun h=>hl.2 (List.mem_cons_of_mem _ h)⟩ _ _ _ (by simp only[List.length_cons] at hj;omega)
theorem unGo_short:∀ (ps:List (List UInt8)) (fuel:Nat) (first:Bool) (text:List UInt8) (n j:Nat),(ps≠[]∨first=false)→(∀ l∈ps,plainB l)→j<(stuffP ps).length →
  (ps≠[]→((if first then text else text++[10])++joinP ps).length≤262144) →
  unGo fuel first text n ((stuffP ps).take j)=([],0,4):=by
 intro ps
 induction ps with
 | nil =>
  intro fuel first text n j _ _ hj _
  have hj3:j<3:=hj
  cases fuel with
  | zero=>rfl
  | succ f =>
   rw[show stuffP []=[46,13,10] from rfl]
   have:j=0∨j=1∨j=2:=by omega
   rcases this with rfl|rfl|rfl <;> simp[unGo,flGo]
 | cons l ps ih =>
  intro fuel first text n j _ hp hj hb
  have hb:=hb (by simp)
  have hl:=hp l List.mem_cons_self
  cases fuel with
  | zero=>rfl
  | succ f =>
   have e1:stuffP (l :: ps)=dotL l++13 :: 10 :: stuffP ps:=by rw[stuffP_cons];simp
   rw[e1] at hj ⊢
   by_cases hjs:j≤(dotL l).length+1
   ·exact unGo_err f first text n _ 4 0 (flGo_short _ (dotL_plain l hl) _ 0 0 j hjs) (by decide)
   ·obtain⟨k,rfl⟩:∃ k,j=(dotL l).length+(k+2):=⟨j - (dotL l).length - 2,by omega⟩
    rw[List.take_length_add_append,List.take_succ_cons,List.take_succ_cons]
    have hle:l.length≤(joinP (l :: ps)).length:=by
     cases ps with
     | nil=>exact Nat.le_refl _
     | cons a ps=>rw[joinP_cons _ _ (by simp),List.length_append];omega
    rw[unGo_line f first text n l hl _ (by rw[List.length_append] at hb ⊢;omega)]
    refine ih f false _ _ k (Or.inr rfl) (fun x hx=>hp x (List.mem_cons_of_mem _ hx)) ?_ (fun hne=>?_)
    ·simp only[List.length_append,List.length_cons] at hj
     omega
    ·rw[joinP_cons _ _ hne] at hb
     simpa using hb
theorem un_short (s:List UInt8) (h13:13∉s) (hs:s.length≤262144) (j:Nat) (hj:j<(stuffL s).length):unL ((stuffL s).take j)=([],0,4):=by
 unfold unL
 unfold stuffL at hj ⊢
 refine unGo_short _ _ true [] 0 j (Or.inl (splitGo_ne 10 [] s)) (split_plain s [] ⟨by simp,by simp⟩ h13) hj (fun _=>?_)
 rw[joinP_split]
 simpa using hs
theorem dec_short (c:Cm) (h:chk c=0) (i:Nat) (hi:i<(encT c).length):decL ((encT c).take i)=(zC,0,4):=by
 have hl:=line_ok c h
 have hn:=line_no c hl
 have hlen:=hl.len
 have hp:=hl.parse
 rw[encT_eq c h] at hi ⊢
 by_cases his:i≤(lineC c).length+1
 ·have hno:10∉(lineC c++13 :: 10 :: tailC c).take i:=by
   rw[List.take_append]
   intro hm
   rcases List.mem_append.1 hm with h1|h1
   ·exact hn.1 (List.mem_of_mem_take h1)
   ·have:i - (lineC c).length=0∨i - (lineC c).length=1:=by omega
    rcases this with e|e <;> rw[e] at h1 <;> simp at h1
  rw[dec_no _ (index_no _ hno),if_neg]
  rw[List.length_take]
  omega
 ·obtain⟨k,rfl⟩:∃ k,i=(lineC c).length+(k+2):=⟨i - (lineC c).length - 2,by omega⟩
  rw[List.take_length_add_append,List.take_succ_cons,List.take_succ_cons]
  have hx:=index_line (lineC c) ((tailC c).take k) hn.1
  obtain⟨c1,c2,c3⟩:=cut_line (lineC c) ((tailC c).take k)
  rw[List.length_append,List.length_cons,List.length_cons] at hi
  generalize hl0:lineC c++13 :: 10 :: (tailC c).take k=l at hx c1 c2 c3
  by_cases hf:(bits BinOp.and .i64 (formC c).2.1 64==0)=true
  ·have ht:tailC c=[]:=by unfold tailC;rw[if_pos hf]
   rw[ht] at hi
   simp only[List.length_nil] at hi
   omega
  ·have hf2:(bits BinOp.and .i64 (formC c).2.1 64==0)=false:=by simpa using hf
   have ht:tailC c=stuffL (bl c.text):=by unfold tailC;rw[if_neg hf]
   obtain⟨h1,h2⟩:=stE_zero _ (chk_text c h _ _ _ rfl hf2)
   have hu:=un_short (bl c.text) h2 h1 k (by rw[← ht];omega)
   exact dec_un hx (by omega) (by rw[c3];simp) (c:={ c with text:=⟨#[]⟩ }) (by rw[c1,hp]) hf2 (t:=⟨#[]⟩) (n:=0) (e:=4) (by rw[c2,ht,hu]) (by decide)
end
end Go.Proofs.YtdkjgcfhepplbaaGreatDoor
