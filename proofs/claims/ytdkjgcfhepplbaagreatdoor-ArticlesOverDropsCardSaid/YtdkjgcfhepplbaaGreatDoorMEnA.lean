/- The bytes of a command: plain functions; strings in memory; what is laid. Append that tells where it lies; what else stays. command.Encode. -/
import Derived.Test.YtdkjgcfhepplbaaGreatDoorMSiA
import Derived.Test.YtdkjgcfhepplbaaGreatDoorMMsA
import Derived.Test.YtdkjgcfhepplbaaGreatDoorMStu30
import Derived.Lib.Join
import Derived.Lib.ItoaLen
import Derived.Maps.AppendAt
namespace Go.Proofs.YtdkjgcfhepplbaaGreatDoor
section
open Go.RowKit
def textS (x:Id):ByteArray:=⟨(textL x).toArray⟩
theorem textL_len (x:Id):(textL x).length=71:=by
 unfold textL
 simp[hexL_length,x.2]
theorem textS_size (x:Id):(textS x).size=71:=(Lib.size_eq _).trans (textL_len x)
def itoaB (n:Int):ByteArray:=⟨(Lib.itoa n).toArray⟩
def i64 (n:Int):Prop:=-9223372036854775808≤n∧n≤9223372036854775807
theorem itoaB_size (n:Int) (h:i64 n):(itoaB n).size≤21:=Nat.le_trans (Nat.le_of_eq (Lib.size_eq _)) (Lib.itoa_length_le n h.1 h.2)
def wdsC (c:Cm):List Wd:=[(1,c.name),(2,textS c.id),(4,itoaB c.size),(8,itoaB c.from_),(16,itoaB c.count),(32,itoaB c.code)]
def useW (fl:Int) (x:Wd):Bool:=bits BinOp.and .i64 fl x.1 != 0
def wordsC (wd:ByteArray) (fl:Int) (l:List Wd):List ByteArray:=wd :: (l.filter (useW fl)).map (·.2)
theorem wordsC_snoc (wd:ByteArray) (fl:Int) (l:List Wd) (x:Wd):wordsC wd fl (l++[x])=if useW fl x=true then wordsC wd fl l++[x.2] else wordsC wd fl l:=by
 unfold wordsC
 rw[List.filter_append]
 by_cases h:useW fl x=true
 ·rw[if_pos h];simp[h]
 ·rw[if_neg h];simp[h]
def formC (c:Cm):Fm:=formsL[c.verb.toNat]?.getD (⟨#[]⟩,0,0)
def lineC (c:Cm):List UInt8:=Lib.join ((wordsC (formC c).1 (formC c).2.1 (wdsC c)).map bl) [32]
def encT (c:Cm):List UInt8:=if chk c≠0 then [] else lineC c++[13,10]++(if bits BinOp.and .i64 (formC c).2.1 64==0 then [] else stuffL (bl c.text))
structure Cm.ok (c:Cm):Prop where
 name:c.name.size≤1000000
 text:c.text.size≤1000000
 size:i64 c.size
 from_:i64 c.from_
 count:i64 c.count
 code:i64 c.code
def lenB (l:List ByteArray):Nat:=(l.map fun x=>x.size+1).sum
theorem join_le (l:List ByteArray):(Lib.join (l.map bl) [32]).length≤lenB l:=by
 cases l with
 | nil=>simp[Lib.join_nil,lenB]
 | cons x r =>
  rw[List.map_cons,Lib.join_length]
  unfold Lib.lens lenB
  simp only[List.length_cons,List.length_nil,List.length_map,List.map_cons,List.sum_cons]
  have:∀ l:List ByteArray,(List.map (·.length) (l.map bl)).sum+l.length=(l.map fun x=>x.size+1).sum:=by
   intro l
   induction l with
   | nil=>rfl
   | cons y t ih =>
    have hy:(bl y).length=y.size:=bl_length y
    simp only[List.map_cons,List.sum_cons,List.length_cons] at ih ⊢
    omega
  have h2:=this r
  have hx:(bl x).length=x.size:=bl_length x
  omega
theorem words_le (c:Cm) (h:c.ok) (wd:ByteArray) (hw:wd.size≤100) (fl:Int) (k:Nat):lenB (wordsC wd fl ((wdsC c).take k))≤2000000∧(wordsC wd fl ((wdsC c).take k)).length≤7:=by
 have h1:∀ l:List Wd,lenB (wordsC wd fl l)≤wd.size+1+(l.map fun x=>x.2.size+1).sum∧(wordsC wd fl l).length≤l.length+1:=by
  intro l
  unfold wordsC lenB
  simp only[List.map_cons,List.sum_cons,List.length_cons,List.map_map]
  induction l with
  | nil=>simp
  | cons x r ih =>
   rw[List.filter_cons]
   split
   ·simp only[List.map_cons,List.sum_cons,List.length_cons,Function.comp] at ih ⊢
    omega
   ·simp only[List.map_cons,List.sum_cons,List.length_cons] at ih ⊢
    omega
 have h2:∀ (l:List Wd) (k:Nat),((l.take k).map fun x=>x.2.size+1).sum≤(l.map fun x=>x.2.size+1).sum:=by
  intro l
  induction l with
  | nil=>intro k;simp
  | cons x r ih =>
   intro k
   cases k with
   | zero=>simp
   | succ k=>have:=ih k;simp only[List.take_succ_cons,List.map_cons,List.sum_cons];omega
 have h3:=h1 ((wdsC c).take k)
 have h4:=h2 (wdsC c) k
 have h5:((wdsC c).map fun x=>x.2.size+1).sum≤1000000+71+84+6:=by
  have a1:=itoaB_size _ h.size
  have a2:=itoaB_size _ h.from_
  have a3:=itoaB_size _ h.count
  have a4:=itoaB_size _ h.code
  have a5:=h.name
  have a6:=textS_size c.id
  simp only[wdsC,List.map_cons,List.map_nil,List.sum_cons,List.sum_nil]
  omega
 have h6:((wdsC c).take k).length≤6:=by rw[List.length_take];show min k 6≤6;omega
 omega
theorem tab_below {w w':World} {name:String} {k:IntKind} {zs:List Int} (h:Lib.TabIs Tryz.prog w name k zs) (hb:Below w.heap.size w w'):Lib.TabIs Tryz.prog w' name k zs:=by
 unfold Lib.TabIs World.var? at *
 cases hg:Tryz.prog.globalNamed name with
 | none=>rw[hg] at h;cases h
 | some g =>
  rw[hg] at h
  simp only[Option.bind_some] at h ⊢
  cases hq:w.heap[g]? with
  | none=>rw[hq] at h;cases h
  | some o=>rw[hb.block g (Array.getElem?_eq_some_iff.1 hq).1];exact h
structure Laid (w:World):Prop where
 forms:FormsAt w
 max:Laid1 w
 tab:Lib.TabIs Tryz.prog w "internal/strconv.uint64pow10" .u64 Lib.pow10Tab
theorem Laid.keep {w w':World} (h:Laid w) (hb:Below w.heap.size w w'):Laid w':=⟨h.forms.keep hb,h.max.keep hb,tab_below h.tab hb⟩
def cS (s:ByteArray):List Value:=[.string s]
theorem cS_length (s:ByteArray):(cS s).length=1:=rfl
theorem cS_one (s:ByteArray):∀ u∈cS s,u.oneCell'=true:=by
 intro u hu
 obtain rfl:u=.string s:=by simpa[cS] using hu
 rfl
theorem underSs:Tryz.prog.underlying 22=some (.slice 9):=Tryz.underlying22
theorem rowS:(Tryz.prog.info? 9).map (fun i=>(i.zero.map (·.cells.size),i.size,i.bytes))=some (some 1,1,16):=by kernel_rfl
theorem sl_newS (w:World) (s:ByteArray):Sl (w.alloc (.cells #[.string s] 9)) cS (some ⟨w.heap.size,0,none⟩) [s] :=
 fun _=>⟨_,rfl,at_new w [.string s] 9 _ rfl⟩
theorem own_newS (w:World) (s:ByteArray):Own (w.alloc (.cells #[.string s] 9)) w.heap.size 9 1 cS (.slice (some ⟨w.heap.size,0,none⟩) 1 1) [s] :=
 ⟨rfl,Or.inr ⟨w.heap.size,1,#[.string s],rfl,Nat.le_refl _,Row.new w [.string s] 9,Nat.le_refl _,by decide,rfl,rfl⟩⟩
theorem own_str {w:World} {base:Nat} {e:TypeId} {v:Value} {xs:List ByteArray} (h:Own w base e 1 cS v xs) :
  (v=.slice none 0 0∧xs=[])∨∃ g c,v=.slice (some ⟨g,0,none⟩) xs.length c∧xs.length≤c∧g<w.heap.size∧∀ (j:Nat) x,xs[j]? = some x→w.cell? ⟨g,0+j,none⟩=some (.string x):=by
 have hsl:=h.sl
 rcases h.2 with⟨rfl,hn⟩|⟨g,cap,cur,rfl,hb,hg,hnc,_⟩
 ·exact .inl ⟨rfl,List.eq_nil_of_length_eq_zero hn⟩
 ·refine .inr ⟨g,cap,rfl,hnc,(Array.getElem?_eq_some_iff.1 hg).1,fun j x hx=>?_⟩
  obtain⟨hj,rfl⟩:=List.getElem?_eq_some_iff.1 hx
  obtain⟨A,c,e,_,hs⟩:=hsl
  obtain⟨ad,rfl,hat⟩:=Sl.at_ cS_length hs hj
  obtain rfl:(⟨g,0,none⟩:Addr)=ad:=by injection e with e;injection e
  have h2:=hat.2 0 _ rfl
  rw[Nat.mul_one,add_of_add,Nat.add_zero] at h2
  rwa[show (⟨g,0,none⟩:Addr).add j=⟨g,0+j,none⟩ from by unfold Addr.add;split <;> simp_all] at h2
theorem print_m2 (x:Id) (w:World):Calls Tryz.prog 54 #[vI x] w fun e w'=>e=.returned (.string (textS x))∧Below w.heap.size w w':=print_m x w
theorem digits_b2 (n:Int) (h:i64 n) (w:World) (hL:Laid w):Calls Tryz.prog 55 #[.int .i64 n] w fun e w'=>e=.returned (.string (itoaB n))∧Below w.heap.size w w':=digits28 n h.1 h.2 w hL.tab
theorem join_w (g cc n:Nat) (xs:List ByteArray) (w:World) (hn:xs.length=n) (hcells:∀ (j:Nat) x,xs[j]? = some x→w.cell? ⟨g,0+j,none⟩=some (.string x)) (hg:g<w.heap.size) (hcc:n≤cc) (h7:n≤7) (hlen:lenB xs≤2000000) :
  Calls Tryz.prog 56 #[.slice (some ⟨g,0,none⟩) n cc,.string ⟨#[32]⟩] w fun e w'=>e=.returned (.string ⟨(Lib.join (xs.map bl) [32]).toArray⟩)∧Below w.heap.size w w':=by
 subst hn
 have h1:=join_le xs
 exact Tryz.strings_Join g 0 cc xs ⟨#[32]⟩ w hcells hg (by omega) hcc (Nat.le_trans h1 (by omega))
theorem Sl.wd {w:World} {A:Option Addr} {xs:List Wd} (h:Sl w cW A xs) {k:Nat} (hk:k<xs.length):∃ ad,A=some ad∧okA w (ad.add (k * 2)) 2=true∧rdA w (ad.add (k * 2)) 2=vW xs[k]:=by
 obtain⟨ad,rfl,hat⟩:=Sl.at_ cW_length h hk
 have h1:=hat.ok
 have h2:=hat.rd
 rw[cW_length] at h1 h2
 exact⟨ad,rfl,h1,h2⟩
end
section
open Go.RowKit
section
variable {P : Program} (w : World)
theorem wpList_append_slat {α:Type} {ops:Array Oper} {rest:List Oper} {o:Oper} {a:Act} {Q:Exit→Act→World→Prop} (hgd:o.guard=none) (sx x:Operand) (t:TypeId)
  (ho:o.op=.call { callee:=.builtin .append,args:=#[sx,x],argTypes:=#[t,t] })
  (base:Nat) (e:TypeId) (s bytes:Nat) (enc:α→List Value) (ht:P.underlying t=some (.slice e)) (hi:(P.info? e).map (fun i=>(i.zero.map (·.cells.size),i.size,i.bytes))=some (some s,s,bytes)) (hsz:0<s)
  (hs:∀ x,(enc x).length=s) (h1:∀ x,∀ u∈enc x,u.oneCell'=true)
  (v:Value) (xs:List α) (hv:a.eval sx=v) (hown:Own w base e s enc v xs)
  (A:Option Addr) (m c:Nat) (ys:List α) (hm:ys.length=m) (hx:a.eval x=.slice A m c) (hsl:Sl w enc A ys)
  (hlen:(xs.length+m) * bytes≤140737488355328) (hl2:xs.length+m≤9223372036854775807) (hbase:base≤w.heap.size)
  (h:∀ v' w',Own w' base e s enc v' (xs++ys)→w.grownBy w' v.ownBlock→(v'.ownBlock=v.ownBlock∨v'.ownBlock=some w.heap.size)→wpList P ops Q rest (a.put o.dst v') w'):wpList P ops Q (o :: rest) a w:=by
 subst hm
 refine wpList_plain hgd fun K hK=>?_
 cases hq:P.info? e with
 | none=>rw[hq] at hi;cases hi
 | some i =>
  simp only[hq,Option.map_some,Option.some.injEq,Prod.mk.injEq] at hi
  obtain⟨hz,hsi,hby⟩:=hi
  cases hz0:i.zero with
  | none=>rw[hz0] at hz;cases hz
  | some z =>
   simp only[hz0,Option.map_some,Option.some.injEq] at hz
   have hones:∀ u∈ys.flatMap enc,u.oneCell'=true:=by
    intro u hu
    obtain⟨y,_,hy⟩:=List.mem_flatMap.1 hu
    exact h1 y u hy
   have fin:∀ v' w',w'.ownsRow base e s v' (xs.length+ys.length) (xs.flatMap enc++ys.flatMap enc)→Own w' base e s enc v' (xs++ys):=by
    intro v' w' ho
    unfold Own
    rw[List.length_append,List.flatMap_append]
    exact ho
   by_cases hys:ys=[]
   ·subst hys
    have hrun:(Builtin.append_ #[t,t] o.type #[v,.slice A 0 c]).run P w=.ok v w:=by
     rcases hown.2 with⟨rfl,_⟩|⟨g,cap,cur,rfl,_,_,hnc,_⟩
     ·cases A <;> simp[Builtin.append_,run_underlying ht,sizeOf,typeInfo,hq,Builtin.lenOf,Builtin.firstCells,loadCells,loadCellsFrom]
     ·cases A <;> simp[Builtin.append_,run_underlying ht,sizeOf,typeInfo,hq,Builtin.lenOf,Builtin.firstCells,hnc,storeCells,loadCells,loadCellsFrom]
    unfold Oper.wp execOp
    simp only[ho,resolve,invoke,builtin,Sem.run_bind,Sem.run_pure,Result.andThen_ok,List.map_toArray,List.map_cons,List.map_nil,hv,hx,List.length_nil,hrun]
    exact hK _ _ (h v w (fin v w (by have:=hown;unfold Own at this;simpa using this)) (World.grownBy.refl w _) (Or.inl rfl))
   ·obtain⟨ad,rfl,hat⟩:=hsl hys
    obtain⟨v',w',hr,h2,h3,h4,h5⟩:=run_append_own_at (P:=P) w base t o.type e i z s bytes ht hq hz0 hsi hby hz hsz v xs.length (xs.flatMap enc) hown ad ys.length c (ys.flatMap enc) (flatMap_length enc s hs ys) hat.2 hones (by unfold maxLen;omega) hlen hbase
    unfold Oper.wp execOp
    simp only[ho,resolve,invoke,builtin,Sem.run_bind,Sem.run_pure,Result.andThen_ok,List.map_toArray,List.map_cons,List.map_nil,hv,hx,hr]
    exact hK _ _ (h v' w' (fin v' w' h2) h3 h5)
end
structure AppI (B:Nat) (u wr:World) (v:Value):Prop where
 os:wr.os=u.os
 tape:wr.tape=u.tape
 output:wr.output=u.output
 size:u.heap.size≤wr.heap.size
 out:∀ k,k<u.heap.size→k≠B→wr.heap[k]? = u.heap[k]?
 own:∀ k,v.ownBlock=some k→k=B∨u.heap.size≤k
section
variable {B : Nat} {u wr w2 : World} {v v' : Value}
theorem AppI.start (B c:Nat) (u:World) (n:Nat):AppI B u u (.slice (some ⟨B,0,none⟩) n c):=⟨rfl,rfl,rfl,Nat.le_refl _,fun _ _ _=>rfl,fun k hk=>Or.inl (by simpa[Value.ownBlock] using hk.symm)⟩
theorem AppI.below (h:AppI B u wr v) (hb:Below wr.heap.size wr w2):AppI B u w2 v:=⟨hb.os.trans h.os,hb.tape.trans h.tape,hb.output.trans h.output,Nat.le_trans h.size hb.size,fun k hk hB=>(hb.block k (Nat.lt_of_lt_of_le hk h.size)).trans (h.out k hk hB),h.own⟩
theorem AppI.grew (h:AppI B u wr v) (hg:wr.grownBy w2 v.ownBlock) (hat:v'.ownBlock=v.ownBlock∨v'.ownBlock=some wr.heap.size):AppI B u w2 v' :=
 ⟨hg.os.trans h.os,hg.tape.trans h.tape,hg.output.trans h.output,Nat.le_trans h.size hg.size,fun k hk hB=>(hg.block k (Nat.lt_of_lt_of_le hk h.size) (fun e=>by
  rcases h.own k e.symm with e2|e2
  ·exact hB e2
  ·omega)).trans (h.out k hk hB),fun k hk=>by
  rcases hat with e|e
  ·exact h.own k (e.symm.trans hk)
  ·rw[e] at hk
   have:=Option.some.inj hk
   have:=h.size
   exact Or.inr (by omega)⟩
theorem AppI.row (h:AppI B u wr v) {g:Nat} {cs:List Value} {t:TypeId} (hr:Row u g cs t) (hg:g≠B):Row wr g cs t:=hr.same (h.out g hr.lt hg)
theorem AppI.toBelow (h:AppI B u wr v) (hB:B≤u.heap.size):Below B u wr:=⟨h.os,h.tape,h.output,h.size,fun k hk=>h.out k (Nat.lt_of_lt_of_le hk hB) (by omega)⟩
end
theorem row_wd {w:World} {g:Nat} {xs:List Wd} {t:TypeId} (h:Row w g (xs.flatMap cW) t) {k:Nat} (hk:k<xs.length):okA w ⟨g,k * 2,none⟩ 2=true∧rdA w ⟨g,k * 2,none⟩ 2=vW xs[k]:=by
 have hs:Sl w cW (some ⟨g,0,none⟩) xs:=fun _=>⟨_,rfl,h.at_ (k:=0) (n:=(xs.flatMap cW).length) (by rw[List.drop_zero,List.take_length])⟩
 obtain⟨ad,had,h1,h2⟩:=Sl.wd hs hk
 obtain rfl:=Option.some.inj had
 have hao:=add_off g 0 (k * 2)
 rw[Nat.zero_add] at hao
 rw[hao] at h1 h2
 exact⟨h1,h2⟩
end
section
open Go.RowKit
def isSlW (B:Nat) (xs:List Wd):Value→World→Prop:=fun v w=>∃ g c,v=.slice (some ⟨g,0,none⟩) 6 c∧6≤c∧B≤g∧Row w g (xs.flatMap cW) 121
theorem Mono.slW (B:Nat) (xs:List Wd):Mono (isSlW B xs):=fun _ _ _ hb ⟨g,c,h1,h2,h3,h4⟩=>⟨g,c,h1,h2,h3,h4.keep hb⟩
theorem isSlW.mk (B:Nat) (u:World) (c:Cm) (hB:B≤u.heap.size):isSlW B (wdsC c) (.slice (some ⟨u.heap.size,0,none⟩) 6 6) (u.alloc (.cells (aWs [(1,c.name),(2,textS c.id),(4,itoaB c.size),(8,itoaB c.from_),(16,itoaB c.count),(32,itoaB c.code)]) 121)) :=
 ⟨_,_,rfl,Nat.le_refl _,hB,Row.new u ((wdsC c).flatMap cW) 121⟩
theorem sl_newSg (w:World) (s:ByteArray) (g:Nat) (hg:g=w.heap.size):Sl (w.alloc (.cells #[.string s] 9)) cS (some ⟨g,0,none⟩) [s]:=by
 subst hg
 exact sl_newS w s
theorem FormsAt.at_ {w:World} (h:FormsAt w) {k:Nat} (hk:k<formsL.length):okA w ⟨0,k * 3,none⟩ 3=true∧rdA w ⟨0,k * 3,none⟩ 3=vF formsL[k]:=by
 obtain⟨ad,had,hok,hrd⟩:=Sl.fm h hk
 obtain rfl:=Option.some.inj had
 have hao:=add_off 0 0 (k * 3)
 rw[Nat.zero_add] at hao
 rw[hao] at hok hrd
 exact⟨hok,hrd⟩
theorem chk_text (c:Cm) (h:chk c=0) (wd:ByteArray) (fl most:Int) (hf:formC c=(wd,fl,most)) (ht:(bits BinOp.and .i64 fl 64==0)=false):stE (bl c.text)=0:=by
 have hm:most≤262144:=by
  have h1:formsL.all (fun x=>decide (x.2.2≤262144))=true:=by decide
  unfold formC at hf
  cases hq:formsL[c.verb.toNat]? with
  | none=>rw[hq] at hf;have:=congrArg (fun x:Fm=>x.2.2) hf;simp at this;omega
  | some x =>
   rw[hq] at hf
   have h2:=List.all_eq_true.1 h1 _ (List.mem_of_getElem? hq)
   have h3:x=(wd,fl,most):=hf
   rw[h3] at h2
   simpa using h2
 have h2:chkF c fl most=0:=by
  unfold chk at h
  split at h
  ·cases h
  ·unfold formC at hf
   simp only[hf] at h
   exact h
 unfold chkF at h2
 rw[ht] at h2
 simp only[Bool.false_eq_true,if_false] at h2
 split at h2
 ·cases h2
 split at h2
 ·cases h2
 split at h2
 ·cases h2
 split at h2
 ·cases h2
 split at h2
 ·cases h2
 split at h2
 ·cases h2
 split at h2
 ·cases h2
 ·next h5 h6 =>
  have e:=bl_length c.text
  unfold stE
  rw[if_neg (by omega),← index_any,show decide (0≤Lib.indexByte (bl c.text) 13)=crL c.text from rfl]
  rw[if_neg h6]
theorem chk_verb (c:Cm) (h:chk c=0):1≤c.verb∧c.verb≤11:=by
 unfold chk at h
 split at h
 ·cases h
 ·omega
set_option maxRecDepth 100000 in
set_option maxHeartbeats 6400000 in
theorem encode15 (c:Cm) (w:World) (hL:Laid w) (hc:c.ok):Calls Tryz.prog 27 #[vC c] w fun e w'=>∃ t,e=.returned (.tuple #[.string t,.int .i64 (chk c)])∧bl t=encT c∧Below w.heap.size w w':=by
 have HC:=Lib.hid hc
 by_cases h0:chk c=0
 case neg =>
  have h0b:(chk c != 0)=true:=by simpa using h0
  have HX:=Lib.hid (show encT c=[] by unfold encT;rw[if_pos h0])
  obtain⟨n,hn⟩:∃ n,chk c=n:=⟨_,rfl⟩
  have H16:=Lib.hid (fun w1 (h:FormsAt w1)=>check16 c w1 h hc.name)
  rw[hn] at h0b H16 ⊢
  have HL:=Lib.hid hL
  clear h0 hc hL hn
  go_enter Tryz.func27,Tryz.ntmps27
  go_wp2_with (go_at_call 53;refine (H16.out _ (HL.out.forms.keep (below_alloc _ _))).mono ?_;rintro e w1 ⟨rfl,hb1⟩;have H1:=Lib.hid hb1;clear hb1)
  go_ret2
  exact⟨⟨#[]⟩,rfl,HX.out.symm,Below.step (below_alloc _ _) H1.out⟩
 obtain⟨hv1,hv2⟩:=chk_verb c h0
 obtain⟨k,hk⟩:∃ k:Nat,c.verb=(k:Int):=⟨c.verb.toNat,by omega⟩
 have hk12:k<formsL.length:=by show k<12;omega
 have hfc:formC c=formsL[k]:=by unfold formC;rw[hk,Int.toNat_natCast,List.getElem?_eq_getElem hk12];rfl
 obtain⟨⟨wd,fl,most⟩,hfm⟩:∃ fm,formsL[k]=fm:=⟨_,rfl⟩
 have hwd:wd.size≤100:=by
  have h1:formsL.all (fun x=>decide (x.1.size≤100))=true:=by decide
  have h2:=List.all_eq_true.1 h1 _ (List.getElem_mem hk12)
  rw[hfm] at h2
  simpa using h2
 have hkk:(k:Int)<12:=by omega
 have H16:=Lib.hid (fun w1 (h:FormsAt w1)=>check16 c w1 h hc.name)
 have HF:=Lib.hid (hfc.trans hfm)
 have HT:=Lib.hid (fun k=>words_le c hc wd hwd fl k)
 have HL:=Lib.hid hL
 have HFM:=Lib.hid hfm
 have HH:=Lib.hid h0
 rw[h0] at H16 ⊢
 obtain⟨b,hb⟩:∃ b,w.heap.size=b:=⟨_,rfl⟩
 have HB0:=Lib.hid (below_alloc w (.cells (aC c) 74))
 have HR0:=Lib.hid (Row.new w (cC c) 74)
 obtain⟨W1,hW1⟩:∃ W1,w.alloc (.cells (aC c) 74)=W1:=⟨_,rfl⟩
 have HR1:=Lib.hid (show Row W1 b (cC c) 74 by rw[← hW1,← hb];exact HR0.out)
 have HB1:=Lib.hid (show Below w.heap.size w W1 by rw[← hW1];exact HB0.out)
 have HL1:=Lib.hid (HL.out.keep HB1.out)
 obtain⟨q1,q2⟩:=HR1.out.okw (cC_length c)
 change rdA W1 ⟨b,0,none⟩ 39=vC c at q2
 have HHB:=Lib.hid hb
 have HK:=Lib.hid (And.intro hk hfm)
 clear hfc hfm hwd h0 hc hL hv1 hv2 HB0 HR0 hk
 go_enter Tryz.func27,Tryz.ntmps27
 go_wp2_with (go_at_call 53;refine (H16.out _ HL1.out.forms).mono ?_;rintro e w1 ⟨rfl,hb1⟩;have j0:w1.cell? ⟨b,0,none⟩=some (.int .i64 (k:Int)):=(by rw[← HK.out.1];exact (HR1.out.keep hb1).cell 0);obtain⟨hok,hrd⟩:=(HL1.out.forms.keep hb1).at_ hk12;rw[HK.out.2] at hrd;have H1:=Lib.hid hb1;clear hb1)
 have R1:Row ((w1.alloc (.cells (aF (wd,fl,most)) 119)).alloc (.cells #[.string wd] 9)) b (cC c) 74:=((HR1.out.keep H1.out).keep (below_alloc _ _)).keep (below_alloc _ _)
 obtain⟨g5,hg5⟩:∃ g5,w1.heap.size=g5:=⟨_,rfl⟩
 have R2:Row ((w1.alloc (.cells (aF (wd,fl,most)) 119)).alloc (.cells #[.string wd] 9)) g5 (cF (wd,fl,most)) 119:=by
  have h:=(Row.new w1 (cF (wd,fl,most)) 119).keep (below_alloc _ (.cells #[.string wd] 9))
  rwa[hg5] at h
 have O1:=own_newS (w1.alloc (.cells (aF (wd,fl,most)) 119)) wd
 have e6:(w1.alloc (.cells (aF (wd,fl,most)) 119)).heap.size=g5+1:=by rw[← hg5];simp
 rw[e6] at O1
 have HBW:=Lib.hid (show Below w.heap.size w ((w1.alloc (.cells (aF (wd,fl,most)) 119)).alloc (.cells #[.string wd] 9)) from Below.step (Below.step (Below.step HB1.out H1.out) (below_alloc _ _)) (below_alloc _ _))
 obtain⟨B,hBB⟩:∃ B,g5+1=B:=⟨_,rfl⟩
 have hsB:B<((w1.alloc (.cells (aF (wd,fl,most)) 119)).alloc (.cells #[.string wd] 9)).heap.size:=by rw[← hBB,← hg5];simp
 have hgB:g5≠B:=by omega
 have hbg:b<g5:=by rw[← hg5];exact Nat.lt_of_lt_of_le HR1.out.lt H1.out.size
 have hbB:b≠B:=by omega
 have hwB:w.heap.size≤B:=by rw[hb];omega
 have HL0:=Lib.hid (HL.out)
 rw[hg5]
 try rw[hBB]
 rw[hBB] at O1
 generalize ((w1.alloc (.cells (aF (wd,fl,most)) 119)).alloc (.cells #[.string wd] 9))=W3 at R1 R2 O1 HBW hsB ⊢
 have hsz:=R1.lt
 have k1:W3.cell? ⟨b,1,none⟩=some (.string c.name):=R1.cell 1
 have k34:W3.cell? ⟨b,34,none⟩=_:=(R1.cell 34).trans (cC_at (aC_34 c))
 have k35:W3.cell? ⟨b,35,none⟩=_:=(R1.cell 35).trans (cC_at (aC_35 c))
 have k36:W3.cell? ⟨b,36,none⟩=_:=(R1.cell 36).trans (cC_at (aC_36 c))
 have k37:W3.cell? ⟨b,37,none⟩=_:=(R1.cell 37).trans (cC_at (aC_37 c))
 obtain⟨k2,k2'⟩:=R1.idC
 have HOW0:=Lib.hid O1
 have HBB:=Lib.hid hsB
 have HG:=Lib.hid (show (Row W3 b (cC c) 74∧Row W3 g5 (cF (wd,fl,most)) 119)∧Laid W3 from ⟨⟨R1,R2⟩,HL.out.keep HBW.out⟩)
 clear R1 R2 O1 hsB q1 q2 hok hrd j0 e6 hg5 hBB
 refine AnyO.wp_any (by kernel_rfl) (by kernel_rfl) (pstP [isV (.pointer (some ⟨b,1,none⟩)),isV (.string c.name),isV (vW (1,c.name)),isV (.pointer (some ⟨b,2,none⟩)),isV (vI c.id),isV (.string (textS c.id)),isV (vW (2,textS c.id)),isV (.pointer (some ⟨b,34,none⟩)),isV (.int .i64 c.size),isV (.string (itoaB c.size)),isV (vW (4,itoaB c.size)),isV (.pointer (some ⟨b,35,none⟩)),isV (.int .i64 c.from_),isV (.string (itoaB c.from_)),isV (vW (8,itoaB c.from_)),isV (.pointer (some ⟨b,36,none⟩)),isV (.int .i64 c.count),isV (.string (itoaB c.count)),isV (vW (16,itoaB c.count)),isV (.pointer (some ⟨b,37,none⟩)),isV (.int .i64 c.code),isV (.string (itoaB c.code)),isV (vW (32,itoaB c.code)),isSlW W3.heap.size (wdsC c),isV (.int .i64 6),isV (Value.int IntKind.i64 0)]) (MonoL.cons (Mono.v _) (MonoL.cons (Mono.v _) (MonoL.cons (Mono.v _) (MonoL.cons (Mono.v _) (MonoL.cons (Mono.v _) (MonoL.cons (Mono.v _) (MonoL.cons (Mono.v _) (MonoL.cons (Mono.v _) (MonoL.cons (Mono.v _) (MonoL.cons (Mono.v _) (MonoL.cons (Mono.v _) (MonoL.cons (Mono.v _) (MonoL.cons (Mono.v _) (MonoL.cons (Mono.v _) (MonoL.cons (Mono.v _) (MonoL.cons (Mono.v _) (MonoL.cons (Mono.v _) (MonoL.cons (Mono.v _) (MonoL.cons (Mono.v _) (MonoL.cons (Mono.v _) (MonoL.cons (Mono.v _) (MonoL.cons (Mono.v _) (MonoL.cons (Mono.v _) (MonoL.cons (Mono.slW _ _) (MonoL.cons (Mono.v _) (MonoL.cons (Mono.v _) MonoL.nil)))))))))))))))))))))))))) ?_ ?_
 ·intro i hi
  have hi2:i=5∨i=9∨i=13∨i=17∨i=21∨i=24∨i=0∨i=1∨i=2∨i=3∨i=4∨i=6∨i=7∨i=8∨i=10∨i=11∨i=12∨i=14∨i=15∨i=16∨i=18∨i=19∨i=20∨i=22∨i=23∨i=25:=by simp only[List.size_toArray,List.length_cons,List.length_nil] at hi;omega
  clear hi
  rcases hi2 with rfl|rfl|rfl|rfl|rfl|rfl|rfl|rfl|rfl|rfl|rfl|rfl|rfl|rfl|rfl|rfl|rfl|rfl|rfl|rfl|rfl|rfl|rfl|rfl|rfl|rfl
  ·refine AnyO.S rfl [4] ?_;intro vs u hE hp ac hb K hK
   have s28:_=_:=AnyO.sw 28 4 hb hp
   go_simp
   go_at_call 54
   refine (print_m2 c.id u).mono ?_
   rintro e w2 ⟨rfl,hb2⟩
   exact hK _ _ hb2 rfl
  ·refine AnyO.S rfl [8,5] ?_;intro vs u hE hp ac hb K hK
   have s32:_=_:=AnyO.sw 32 8 hb hp
   go_simp
   go_at_call 55
   refine (digits_b2 c.size HC.out.size u (HG.out.2.keep (Below.step (below_drew _) hE))).mono ?_
   rintro e w2 ⟨rfl,hb2⟩
   exact hK _ _ hb2 rfl
  ·refine AnyO.S rfl [12,9] ?_;intro vs u hE hp ac hb K hK
   have s36:_=_:=AnyO.sw 36 12 hb hp
   go_simp
   go_at_call 55
   refine (digits_b2 c.from_ HC.out.from_ u (HG.out.2.keep (Below.step (below_drew _) hE))).mono ?_
   rintro e w2 ⟨rfl,hb2⟩
   exact hK _ _ hb2 rfl
  ·refine AnyO.S rfl [16,13] ?_;intro vs u hE hp ac hb K hK
   have s40:_=_:=AnyO.sw 40 16 hb hp
   go_simp
   go_at_call 55
   refine (digits_b2 c.count HC.out.count u (HG.out.2.keep (Below.step (below_drew _) hE))).mono ?_
   rintro e w2 ⟨rfl,hb2⟩
   exact hK _ _ hb2 rfl
  ·refine AnyO.S rfl [20,17] ?_;intro vs u hE hp ac hb K hK
   have s44:_=_:=AnyO.sw 44 20 hb hp
   go_simp
   go_at_call 55
   refine (digits_b2 c.code HC.out.code u (HG.out.2.keep (Below.step (below_drew _) hE))).mono ?_
   rintro e w2 ⟨rfl,hb2⟩
   exact hK _ _ hb2 rfl
  ·refine AnyO.S rfl [23] ?_;intro vs u hE hp ac hb K hK
   obtain⟨A47,c47,e47,h47⟩:=hp.out 23 (by decide)
   have s47:ac.tmps[47]?.getD undef=.slice (some ⟨A47,0,none⟩) 6 c47:=by rw[hb.out];exact (show _=vs 23 by kernel_rfl).trans e47
   clear e47
   go_simp;exact hK _ _ (Below.refl _ _) rfl
  all_goals
   refine AnyO.T rfl ?_;intro vs u hE hp ac hb K hK
   try have s1:ac.tmps[1]?.getD undef=.pointer (some ⟨b,0,none⟩):=by rw[hb.out];kernel_rfl
   try have s24:_=_:=AnyO.sw 24 0 hb hp
   try have s25:_=_:=AnyO.sw 25 1 hb hp
   try have s27:_=_:=AnyO.sw 27 3 hb hp
   try have s29:_=_:=AnyO.sw 29 5 hb hp
   try have s31:_=_:=AnyO.sw 31 7 hb hp
   try have s33:_=_:=AnyO.sw 33 9 hb hp
   try have s35:_=_:=AnyO.sw 35 11 hb hp
   try have s37:_=_:=AnyO.sw 37 13 hb hp
   try have s39:_=_:=AnyO.sw 39 15 hb hp
   try have s41:_=_:=AnyO.sw 41 17 hb hp
   try have s43:_=_:=AnyO.sw 43 19 hb hp
   try have s45:_=_:=AnyO.sw 45 21 hb hp
   try have s26:_=_:=AnyO.sw 26 2 hb hp
   try have s30:_=_:=AnyO.sw 30 6 hb hp
   try have s34:_=_:=AnyO.sw 34 10 hb hp
   try have s38:_=_:=AnyO.sw 38 14 hb hp
   try have s42:_=_:=AnyO.sw 42 18 hb hp
   try have s46:_=_:=AnyO.sw 46 22 hb hp
   have rr_0:=cell_below k1 (Below.step (below_drew _) hE)
   have rr_1:=okA_below k2 hsz (Below.step (below_drew _) hE)
   rw[k2'] at rr_1
   obtain⟨rr1_1,rr2_1⟩:=rr_1
   have rr_2:=cell_below k34 (Below.step (below_drew _) hE)
   have rr_3:=cell_below k35 (Below.step (below_drew _) hE)
   have rr_4:=cell_below k36 (Below.step (below_drew _) hE)
   have rr_5:=cell_below k37 (Below.step (below_drew _) hE)
   go_simp
   first|exact hK _ _ (Below.refl _ _) rfl|exact hK _ _ (below_alloc _ _) (isSlW.mk _ u c (Below.step (below_drew _) hE).size)
 ·intro vs u hE hp
  have e0:_=_:=hp 0 (by decide)
  have e1:_=_:=hp 1 (by decide)
  have e2:_=_:=hp 2 (by decide)
  have e3:_=_:=hp 3 (by decide)
  have e4:_=_:=hp 4 (by decide)
  have e5:_=_:=hp 5 (by decide)
  have e6:_=_:=hp 6 (by decide)
  have e7:_=_:=hp 7 (by decide)
  have e8:_=_:=hp 8 (by decide)
  have e9:_=_:=hp 9 (by decide)
  have e10:_=_:=hp 10 (by decide)
  have e11:_=_:=hp 11 (by decide)
  have e12:_=_:=hp 12 (by decide)
  have e13:_=_:=hp 13 (by decide)
  have e14:_=_:=hp 14 (by decide)
  have e15:_=_:=hp 15 (by decide)
  have e16:_=_:=hp 16 (by decide)
  have e17:_=_:=hp 17 (by decide)
  have e18:_=_:=hp 18 (by decide)
  have e19:_=_:=hp 19 (by decide)
  have e20:_=_:=hp 20 (by decide)
  have e21:_=_:=hp 21 (by decide)
  have e22:_=_:=hp 22 (by decide)
  obtain⟨A_23,c_23,e23,h_23⟩:=show isSlW W3.heap.size (wdsC c) (vs 23) u from hp 23 (by decide)
  have e24:_=_:=hp 24 (by decide)
  have e25:_=_:=hp 25 (by decide)
  clear hp
  have HE:=Lib.hid (And.intro hE h_23)
  clear hE h_23
  rw[puts_range [some 24,some 25,some 26,some 27,some 28,some 29,some 30,some 31,some 32,some 33,some 34,some 35,some 36,some 37,some 38,some 39,some 40,some 41,some 42,some 43,some 44,some 45,some 46,some 47,some 48,some 49] (by kernel_rfl)]
  simp only[putL,Nat.reduceAdd,e0,e1,e2,e3,e4,e5,e6,e7,e8,e9,e10,e11,e12,e13,e14,e15,e16,e17,e18,e19,e20,e21,e22,e23,e24,e25]
  clear e0 e1 e2 e3 e4 e5 e6 e7 e8 e9 e10 e11 e12 e13 e14 e15 e16 e17 e18 e19 e20 e21 e22 e23 e24 e25
  go_simp
  have HOW:=Lib.hid (HOW0.out.keep HE.out.1)
  have HRC:=Lib.hid (HG.out.1.1.keep HE.out.1)
  have HRF:=Lib.hid (HG.out.1.2.keep HE.out.1)
  have HBU:=Lib.hid (Below.step HBW.out HE.out.1)
  have HLU:=Lib.hid (HG.out.2.keep HE.out.1)
  have HSW:=Lib.hid (show Row u A_23 ((wdsC c).flatMap cW) 121 from HE.out.2.2.2)
  have hAB:A_23≠B:=by have h1:=HE.out.2.2.1;have h2:=HBB.out;omega
  generalize hxs:wdsC c=xs at HSW HT ⊢
  have hl6:xs.length=6:=by rw[← hxs];rfl
  have HL:=Lib.hid hxs
  clear hxs
  go_wp2
  go_loopw [6,49] (fun v i wr=>∃ k:Nat,k≤6∧i=.int .i64 k∧Own wr B 9 1 cS v (wordsC wd fl (xs.take k))∧AppI B u wr v) (fun _ i _=>6 - (intOf i).toNat)
  case atStart=>exact⟨0,by omega,rfl,HOW.out,AppI.start B 1 u 1⟩
  case round =>
   obtain⟨k,hk,rfl,ho,hb⟩:=hrel
   have HRG:=Lib.hid (hb.row HRF.out hgB)
   have c1:wr.cell? ⟨g5,1,none⟩=some (.int .i64 fl):=HRG.out.cell 1
   have HB2:=Lib.hid (And.intro ho hb)
   have hBs:B<wr.heap.size:=Nat.lt_of_lt_of_le HBB.out (Nat.le_trans HE.out.1.size hb.size)
   by_cases hlt:k<6
   ·obtain⟨hok,hrd⟩:=row_wd (hb.row HSW.out hAB) (show k<xs.length by omega)
    have HT1:=Lib.hid (show wordsC wd fl (xs.take (k+1))=_ by rw[List.take_succ_eq_append_getElem (show k<xs.length by omega),wordsC_snoc])
    have hlk:(k:Int)<6:=by omega
    generalize xs[k]=p at hok hrd HT1
    obtain⟨a,s1⟩:=p
    have hg5:g5<wr.heap.size:=HRG.out.lt
    clear hb ho
    have HCF:=Lib.hid (fun wx (hbx:Below wr.heap.size wr wx)=>cell_below c1 hbx)
    cases hu:(bits BinOp.and .i64 fl a != 0) with
    | true =>
     have HU:=Lib.hid (show useW fl (a,s1)=true from hu)
     have T0:True:=trivial
     go_wp2_with (have hh:=T0;clear hh T0;at_builtin;refine wpList_append_slat _ rfl (.tmp 59) (.tmp 62) 22 rfl B 9 1 16 cS underSs rowS (by decide) cS_length cS_one _ (wordsC wd fl (xs.take k)) rfl (Own.keep (Own.keep HB2.out.1 (below_alloc wr (.cells (aW (a,s1)) 121))) (below_alloc _ (.cells #[.string s1] 9))) _ _ _ [s1] rfl rfl (sl_newSg (wr.alloc (.cells (aW (a,s1)) 121)) s1 (wr.heap.size+1) (by simp)) (by have:=(HT.out k).2;simp at *;omega) (by have:=(HT.out k).2;simp at *;omega) (by simp;omega) ?_)
     intro v' w2 ho2 hg2 hat2
     have hb2:Below wr.heap.size wr ((wr.alloc (.cells (aW (a,s1)) 121)).alloc (.cells #[.string s1] 9)):=Below.step (below_alloc _ _) (below_alloc _ _)
     have hb3:=(HB2.out.2.below hb2).grew hg2 (hat2.imp id (fun e=>by rw[e];simp))
     have H3:=Lib.hid (And.intro hb3 ho2)
     clear hb2 hb3 ho2 hg2 hat2
     go_wp2
     go_roundw
     case rel=>exact⟨k+1,hlt,by go_num,by rw[HT1.out,if_pos HU.out];exact H3.out.2,H3.out.1⟩
     case measure=>simp[intOf] <;> omega
    | false =>
     have HU:=Lib.hid (show ¬ useW fl (a,s1)=true by unfold useW;rw[hu];decide)
     go_wp2
     go_roundw
     case rel=>exact⟨k+1,hlt,by go_num,by rw[HT1.out,if_neg HU.out];exact HB2.out.1.keep (below_alloc _ _),HB2.out.2.below (below_alloc _ _)⟩
     case measure=>simp[intOf] <;> omega
   ·obtain rfl:k=6:=by omega
    rw[List.take_of_length_le (show xs.length≤6 by omega)] at ho
    have hbd:=HT.out 6
    rw[List.take_of_length_le (show xs.length≤6 by omega)] at hbd
    rcases own_str ho with⟨_,he⟩|⟨gj,cc,rfl,hcc,hgj,hcells⟩
    ·exact absurd he (by unfold wordsC;simp)
    obtain⟨N,hN⟩:∃ N,(wordsC wd fl xs).length=N:=⟨_,rfl⟩
    rw[hN] at hcc hbd
    rw[hN]
    obtain⟨J,hJ⟩:∃ J:ByteArray,(⟨(Lib.join ((wordsC wd fl xs).map bl) [32]).toArray⟩:ByteArray)=J:=⟨_,rfl⟩
    have HJN:=Lib.hid (fun w1 (hc1:∀ (j:Nat) x,(wordsC wd fl xs)[j]? = some x→w1.cell? ⟨gj,0+j,none⟩=some (.string x)) (hg1:gj<w1.heap.size)=>join_w gj cc N _ w1 hN hc1 hg1 hcc hbd.2 hbd.1)
    rw[hJ] at HJN
    have hbJ:bl J=Lib.join ((wordsC wd fl xs).map bl) [32]:=by rw[← hJ]
    have hJs:J.size≤2000000:=by rw[← bl_length,hbJ];exact Nat.le_trans (join_le _) hbd.1
    have hline:bl J=lineC c:=by rw[hbJ];unfold lineC;rw[HF.out,HL.out]
    have HQ:=Lib.hid (And.intro hcells (And.intro hgj (And.intro hline (hb.toBelow (Nat.le_trans (Nat.le_of_lt HBB.out) HE.out.1.size)))))
    have c7:∀ wx,Below wr.heap.size wr wx→wx.cell? ⟨b,7+31,none⟩=some (.string c.text):=fun wx hx=>(((hb.row HRC.out hbB).keep hx).cell 38).trans (cC_at (aC_38 c))
    have c1:∀ wx,Below wr.heap.size wr wx→wx.cell? ⟨g5,1,none⟩=some (.int .i64 fl):=fun wx hx=>(HRG.out.keep hx).cell 1
    have HC7:=Lib.hid (And.intro c7 c1)
    have HLW:=Lib.hid (show Laid wr from HL0.out.keep (Below.trans HBU.out ((hb.toBelow (Nat.le_trans (Nat.le_of_lt HBB.out) HE.out.1.size)).mono hwB)))
    have HBF:=Lib.hid (show Below w.heap.size w wr from Below.trans HBU.out ((hb.toBelow (Nat.le_trans (Nat.le_of_lt HBB.out) HE.out.1.size)).mono hwB))
    clear hcells hgj hJ hN hbJ hline hcc hbd ho hb c7 c1 hBs
    cases htx:(bits BinOp.and .i64 fl 64==0) with
    | true =>
     have HX:=Lib.hid (show encT c=lineC c++[13,10] by unfold encT;rw[HF.out,if_neg (by rw[HH.out];decide),htx];simp)
     go_wp2_with (go_at_call 56;refine (HJN.out _ HQ.out.1 HQ.out.2.1).mono ?_;rintro e w1 ⟨rfl,hb1⟩;have c1:=HC7.out.2 _ hb1;have H1:=Lib.hid hb1;clear hb1)
     go_ret2
     exact⟨_,rfl,by rw[bl_app,HX.out,HQ.out.2.2.1],Below.step HBF.out H1.out⟩
    | false =>
     have HX:=Lib.hid (show encT c=lineC c++[13,10]++stuffL (bl c.text) by unfold encT;rw[HF.out,if_neg (by rw[HH.out];decide),htx];rfl)
     have hst:=chk_text c HH.out wd fl most HF.out htx
     have H17:=Lib.hid (fun w1 (hm:Laid1 w1)=>stuff17 c.text w1 HC.out.text hm)
     rw[hst] at H17
     have HST:=Lib.hid (show stT (bl c.text)=stuffL (bl c.text) by unfold stT;rw[if_pos hst])
     clear hst
     go_wp2_with (first
      | (go_at_call 56;refine (HJN.out _ HQ.out.1 HQ.out.2.1).mono ?_;rintro e w1 ⟨rfl,hb1⟩;have c1:=HC7.out.2 _ hb1;have c7:=HC7.out.1 _ hb1;have H1:=Lib.hid hb1;clear hb1)
      | (go_at_call 29;refine (H17.out _ (HLW.out.keep H1.out).max).mono ?_;rintro e w2 ⟨t,rfl,ht,hb2⟩;have hts:t.size≤5000006:=(by rw[← bl_length,ht,HST.out];have h2:=stuffP_le 10 (bl c.text) [];have h3:=HC.out.text;rw[bl_length] at h2;unfold stuffL;simp only[List.length_nil] at h2;omega);have H2:=Lib.hid (And.intro ht hb2);clear ht hb2))
     go_ret2
     exact⟨_,rfl,by rw[bl_app,bl_app,HX.out,HQ.out.2.2.1,H2.out.1,HST.out],Below.step (Below.step HBF.out H1.out) H2.out.2⟩
end
end Go.Proofs.YtdkjgcfhepplbaaGreatDoor
