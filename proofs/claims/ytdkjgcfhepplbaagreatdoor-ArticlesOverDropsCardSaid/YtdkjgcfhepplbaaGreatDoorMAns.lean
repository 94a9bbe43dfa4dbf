/- A list of a taker's turned in memory of its own and stored: the states of such a region. -/
import Derived.Test.YtdkjgcfhepplbaaGreatDoorMDd
import Derived.MapKept
namespace Go.Proofs.YtdkjgcfhepplbaaGreatDoor
open Go.RowKit
structure OneW {α:Type} (enc:α→List Value) (W:World) (x:α) (g:Nat) (d:Bool) (u:World):Prop where
 bl:Below W.heap.size W u
 one:d=true→Sl u enc (some ⟨g,0,none⟩) [x]∧W.heap.size≤g
theorem OneW.read {α:Type} {enc:α→List Value} {W:World} {x:α} {g:Nat} {d:Bool} {u u':World} (h:OneW enc W x g d u) (hb:Below u.heap.size u u'):OneW enc W x g d u':=⟨Below.step h.bl hb,fun hd=>⟨(h.one hd).1.keep hb,(h.one hd).2⟩⟩
theorem TkR.kp_out {b:Nat} {s:Tk} {F:List Nat} {va vk:SlV} {w:World} (h:TkR b s F va vk w) {k:Nat} (hk:k∉F):(Value.slice va.1 va.2.1 va.2.2).ownBlock≠some k∧(Value.slice vk.1 vk.2.1 vk.2.2).ownBlock≠some k∧b≠k :=
 ⟨fun e=>by obtain⟨ad,h1,h2⟩:=blk_of e;exact hk (h2▸(h.aF ad h1).1),fun e=>by obtain⟨ad,h1,h2⟩:=blk_of e;exact hk (h2▸(h.kF ad h1).1),fun e=>hk (e▸h.bF)⟩
theorem Row.kp {w w':World} {F F':List Nat} {g:Nat} {cs:List Value} {t:TypeId} (h:Row w g cs t) (hk:Kp F F' w w') (hg:g∉F):Row w' g cs t:=h.same ((hk.out g h.lt hg).2)
def WK (b:Nat) (s:Tk) (F:List Nat) (va vk:SlV) (l':List Pt) (W:World) (v1:SlV) (u:World):Bool→Bool→Prop
 | false,_=>Below W.heap.size W u
 | true,false=>W.grownBy u (Value.slice vk.1 vk.2.1 vk.2.2).ownBlock∧Own u 0 145 35 cA (.slice v1.1 v1.2.1 v1.2.2) l'∧∀ ad,v1.1=some ad→(∃ ad0,vk.1=some ad0∧ad0.block=ad.block)∨W.heap.size≤ad.block
 | true,true=>TkR b { s with kept:=l' } (blkL v1++F) va v1 u∧Kp F (blkL v1++F) W u
section
variable {b : Nat} {s : Tk} {F : List Nat} {va vk : SlV} {l' : List Pt} {W : World} {v1 : SlV} {u u' : World} {d1 d2 : Bool}
theorem WK.read (h:WK b s F va vk l' W v1 u d1 d2) (hb:Below u.heap.size u u'):WK b s F va vk l' W v1 u' d1 d2:=by
 cases d1 with
 | false=>exact Below.step h hb
 | true =>
  cases d2 with
  | false=>exact⟨grown_below h.1 hb,h.2.1.keep hb,h.2.2⟩
  | true=>exact⟨h.1.keep hb,h.2.trans (Kp.of_below hb)⟩
theorem WK.size (h:WK b s F va vk l' W v1 u d1 d2):W.heap.size≤u.heap.size:=by
 cases d1 with
 | false=>exact Below.size h
 | true =>
  cases d2 with
  | false=>exact World.grownBy.size h.1
  | true=>exact Kp.size h.2
theorem WK.same (h:WK b s F va vk l' W v1 u d1 d2) (hT:TkR b s F va vk W) {k:Nat} (hk:k<W.heap.size) (hF:k∉F):u.heap[k]? = W.heap[k]?:=by
 cases d1 with
 | false=>exact Below.block h k hk
 | true =>
  cases d2 with
  | false=>exact World.grownBy.block h.1 k hk (fun e=>(hT.kp_out hF).2.1 e.symm)
  | true=>exact (h.2.out k hk hF).2
theorem WK.row (h:WK b s F va vk l' W v1 u d1 d2) (hT:TkR b s F va vk W) {g:Nat} {cs:List Value} {t:TypeId} (hr:Row W g cs t) (hF:g∉F):Row u g cs t:=hr.same (h.same hT hr.lt hF)
theorem WK.grow (h:Below W.heap.size W u) {w2:World} (ho:Own w2 0 145 35 cA (.slice v1.1 v1.2.1 v1.2.2) l') (hg:u.grownBy w2 (Value.slice vk.1 vk.2.1 vk.2.2).ownBlock) (hat:(.slice v1.1 v1.2.1 v1.2.2:Value).ownBlock=(Value.slice vk.1 vk.2.1 vk.2.2).ownBlock∨(.slice v1.1 v1.2.1 v1.2.2:Value).ownBlock=some u.heap.size):WK b s F va vk l' W v1 w2 true false:=by
 refine⟨below_grown h hg,ho,fun ad e=>?_⟩
 rcases hat with h1|h1
 ·rw[of_blk e] at h1
  obtain⟨ad0,e1,e2⟩:=blk_of h1.symm
  exact Or.inl ⟨ad0,e1,e2⟩
 ·rw[of_blk e] at h1
  have e3:ad.block=u.heap.size:=by simpa using h1
  exact Or.inr (by rw[e3];exact h.size)
theorem WK.put (h:WK b s F va vk l' W v1 u true false) (hT:TkR b s F va vk W):u.frozen? ⟨b,3,none⟩=false∧u.cell? ⟨b,3,none⟩=some (.slice vk.1 vk.2.1 vk.2.2)∧WK b s F va vk l' W v1 (u.setCell ⟨b,3,none⟩ (.slice v1.1 v1.2.1 v1.2.2)) true true:=by
 have hrb:Row u b (cT ⟨s.win,s.opn,va,vk⟩) 104:=hT.row.same (h.1.block b hT.blt (fun e=>by
  obtain⟨ad,h1,h2⟩:=blk_of e.symm
  exact (hT.kF ad h1).2 h2))
 exact⟨hrb.fz 3,hrb.cell 3,hT.setK h.1 h.2.1 h.2.2⟩
end
def WA (b:Nat) (s:Tk) (F:List Nat) (va vk:SlV) (l':List Pt) (W:World) (v1:SlV) (u:World):Bool→Bool→Prop
 | false,_=>Below W.heap.size W u
 | true,false=>W.grownBy u (Value.slice va.1 va.2.1 va.2.2).ownBlock∧Own u 0 145 35 cA (.slice v1.1 v1.2.1 v1.2.2) l'∧∀ ad,v1.1=some ad→(∃ ad0,va.1=some ad0∧ad0.block=ad.block)∨W.heap.size≤ad.block
 | true,true=>TkR b { s with act:=l' } (blkL v1++F) v1 vk u∧Kp F (blkL v1++F) W u
section
variable {b : Nat} {s : Tk} {F : List Nat} {va vk : SlV} {l' : List Pt} {W : World} {v1 : SlV} {u u' : World} {d1 d2 : Bool}
theorem WA.read (h:WA b s F va vk l' W v1 u d1 d2) (hb:Below u.heap.size u u'):WA b s F va vk l' W v1 u' d1 d2:=by
 cases d1 with
 | false=>exact Below.step h hb
 | true =>
  cases d2 with
  | false=>exact⟨grown_below h.1 hb,h.2.1.keep hb,h.2.2⟩
  | true=>exact⟨h.1.keep hb,h.2.trans (Kp.of_below hb)⟩
theorem WA.size (h:WA b s F va vk l' W v1 u d1 d2):W.heap.size≤u.heap.size:=by
 cases d1 with
 | false=>exact Below.size h
 | true =>
  cases d2 with
  | false=>exact World.grownBy.size h.1
  | true=>exact Kp.size h.2
theorem WA.same (h:WA b s F va vk l' W v1 u d1 d2) (hT:TkR b s F va vk W) {k:Nat} (hk:k<W.heap.size) (hF:k∉F):u.heap[k]? = W.heap[k]?:=by
 cases d1 with
 | false=>exact Below.block h k hk
 | true =>
  cases d2 with
  | false=>exact World.grownBy.block h.1 k hk (fun e=>(hT.kp_out hF).1 e.symm)
  | true=>exact (h.2.out k hk hF).2
theorem WA.row (h:WA b s F va vk l' W v1 u d1 d2) (hT:TkR b s F va vk W) {g:Nat} {cs:List Value} {t:TypeId} (hr:Row W g cs t) (hF:g∉F):Row u g cs t:=hr.same (h.same hT hr.lt hF)
theorem WA.grow (h:Below W.heap.size W u) {w2:World} (ho:Own w2 0 145 35 cA (.slice v1.1 v1.2.1 v1.2.2) l') (hg:u.grownBy w2 (Value.slice va.1 va.2.1 va.2.2).ownBlock) (hat:(.slice v1.1 v1.2.1 v1.2.2:Value).ownBlock=(Value.slice va.1 va.2.1 va.2.2).ownBlock∨(.slice v1.1 v1.2.1 v1.2.2:Value).ownBlock=some u.heap.size):WA b s F va vk l' W v1 w2 true false:=by
 refine⟨below_grown h hg,ho,fun ad e=>?_⟩
 rcases hat with h1|h1
 ·rw[of_blk e] at h1
  obtain⟨ad0,e1,e2⟩:=blk_of h1.symm
  exact Or.inl ⟨ad0,e1,e2⟩
 ·rw[of_blk e] at h1
  have e3:ad.block=u.heap.size:=by simpa using h1
  exact Or.inr (by rw[e3];exact h.size)
theorem WA.put (h:WA b s F va vk l' W v1 u true false) (hT:TkR b s F va vk W):u.frozen? ⟨b,2,none⟩=false∧u.cell? ⟨b,2,none⟩=some (.slice va.1 va.2.1 va.2.2)∧WA b s F va vk l' W v1 (u.setCell ⟨b,2,none⟩ (.slice v1.1 v1.2.1 v1.2.2)) true true:=by
 have hrb:Row u b (cT ⟨s.win,s.opn,va,vk⟩) 104:=hT.row.same (h.1.block b hT.blt (fun e=>by
  obtain⟨ad,h1,h2⟩:=blk_of e.symm
  exact (hT.aF ad h1).2.1 h2))
 exact⟨hrb.fz 2,hrb.cell 2,hT.setA h.1 h.2.1 h.2.2⟩
end
structure APW (b:Nat) (s:Tk) (F:List Nat) (va vk:SlV) (p:Pt) (W:World) (σ:Nat×SlV) (d1 d2 d3:Bool) (u:World):Prop where
 one:d1=true→d2=false→Sl u cA (some ⟨σ.1,0,none⟩) [p]
 st:WA b s F va vk (s.act++[p]) W σ.2 u d2 d3
theorem APW.read {b:Nat} {s:Tk} {F:List Nat} {va vk:SlV} {p:Pt} {W:World} {σ:Nat×SlV} {d1 d2 d3:Bool} {u u':World} (h:APW b s F va vk p W σ d1 d2 d3 u) (hb:Below u.heap.size u u'):APW b s F va vk p W σ d1 d2 d3 u':=⟨fun h1 h2=>(h.one h1 h2).keep hb,h.st.read hb⟩
open Go.RowKit Go.MapKept
theorem findNow_snoc (d:TypeDesc) (k:Value) (e:MapEntry):∀ (l:List MapEntry) (i:Nat),Instr.findNow d k l i=some none→Instr.findNow d k (l++[e]) i=(match Instr.sameNow d k e.key with|some true=>some (some (i+l.length,e.val))|some false=>some none|none=>none)
 | [],i,_=>by
  simp only[List.nil_append,Instr.findNow,List.length_nil,Nat.add_zero]
  cases Instr.sameNow d k e.key with
  | none=>rfl
  | some b=>cases b <;> rfl
 | x :: r,i,h=>by
  rw[List.cons_append]
  unfold Instr.findNow at h ⊢
  cases hs:Instr.sameNow d k x.key with
  | none=>rw[hs] at h;cases h
  | some b =>
   rw[hs] at h
   cases b with
   | true=>cases h
   | false =>
    dsimp only at h ⊢
    rw[findNow_snoc d k e r (i+1) h]
    simp only[List.length_cons,Nat.add_assoc,Nat.add_comm 1]
theorem findNow_hit (d:TypeDesc) (k:Value) (e:MapEntry) (y:Nat×Value):∀ (l:List MapEntry) (i:Nat),Instr.findNow d k l i=some (some y)→Instr.findNow d k (l++[e]) i=some (some y)
 | [],i,h=>by cases h
 | x :: r,i,h=>by
  rw[List.cons_append]
  unfold Instr.findNow at h ⊢
  cases hs:Instr.sameNow d k x.key with
  | none=>rw[hs] at h;cases h
  | some b =>
   rw[hs] at h
   cases b with
   | true=>exact h
   | false=>exact findNow_hit d k e y r (i+1) h
def FM (w:World) (r:Nat) (f:Int→Option Value):Prop:=∃ es clock,w.heap[r]? = some (.map es clock)∧∀ v,∃ y,Instr.findNow (.int .i64) (.int .i64 v) es.toList 0=some y∧y.map (·.2)=f v
theorem under_map:Tryz.prog.underlying 142=some (.map 3 140):=by kernel_rfl
theorem under_int:Tryz.prog.underlying 3=some (.int .i64):=by kernel_rfl
theorem FM.made (w:World):FM (w.alloc (.map #[] 0)) w.heap.size (fun _=>none):=⟨#[],0,(heap_alloc w _).1,fun _=>⟨none,rfl,rfl⟩⟩
theorem FM.keep {w w':World} {r:Nat} {f:Int→Option Value} (h:FM w r f) (hb:Below w.heap.size w w'):FM w' r f:=by
 obtain⟨es,c,h1,h2⟩:=h
 exact⟨es,c,by rw[hb.block r (Array.getElem?_eq_some_iff.1 h1).1];exact h1,h2⟩
theorem FM.ext {w:World} {r:Nat} {f f':Int→Option Value} (h:FM w r f) (he:∀ v,f v=f' v):FM w r f':=by
 obtain⟨es,c,h1,h2⟩:=h
 exact⟨es,c,h1,fun v=>by rw[← he v];exact h2 v⟩
theorem FM.lt {w:World} {r:Nat} {f:Int→Option Value} (h:FM w r f):r<w.heap.size:=by
 obtain⟨es,c,h1,h2⟩:=h
 exact (Array.getElem?_eq_some_iff.1 h1).1
theorem FM.put {w:World} {r:Nat} {f:Int→Option Value} (h:FM w r f) (n:Int) (hn:f n=none) (x:Value) :
  ∃ w',(Instr.mapUpdate 142 (.map (some r)) (.int .i64 n) x).run Tryz.prog w=.ok () w'∧FM w' r (fun v=>if v=n then some x else f v)∧One r w w':=by
 obtain⟨es,c,h1,h2⟩:=h
 obtain⟨y,hy,hyf⟩:=h2 n
 rw[hn] at hyf
 obtain rfl:y=none:=by cases y with|none=>rfl|some z=>cases hyf
 have hk:IsKey (.int .i64) (.int .i64 n):=rfl
 refine⟨{ w with heap:=w.heap.setIfInBounds r (.map (es.push { key:=.int .i64 n,val:=x,born:=c }) (c+1)) },?_,⟨_,_,(heap_set h1).1,fun v=>?_⟩,⟨rfl,rfl,rfl,by simp,fun k hk hne=>(heap_set h1).2 k hne⟩⟩
 ·simp[Instr.mapUpdate,run_underlying under_map,Go.MapKept.run_getObj_map h1,Go.MapKept.run_checkKey under_int hk,Go.MapKept.run_findKey under_int hy,Go.MapKept.run_setObj_map _ h1,Result.andThen]
 ·rw[Array.toList_push]
  obtain⟨z,hz,hzf⟩:=h2 v
  cases z with
  | none =>
   rw[findNow_snoc _ _ _ _ _ hz]
   by_cases hv:v=n
   ·subst hv
    exact⟨some (0+es.toList.length,x),by simp[Instr.sameNow],by simp⟩
   ·have hb:(v==n)=false:=by simpa using hv
    exact⟨none,by simp[Instr.sameNow,hb],by show _=(if v=n then some x else f v);rw[if_neg hv,← hzf]⟩
  | some z =>
   have hv:v≠n:=by
    rintro rfl
    rw[hy] at hz
    cases hz
   exact⟨some z,findNow_hit _ _ _ _ _ _ hz,by show _=(if v=n then some x else f v);rw[if_neg hv,← hzf]⟩
theorem FM.look {w:World} {r:Nat} {f:Int→Option Value} (h:FM w r f) (n:Int) (x:Value) (hf:f n=some x) :
  (Instr.lookup 142 (.map (some r)) (.int .i64 n) true).run Tryz.prog w=.ok (.tuple #[x,.bool true]) w:=by
 obtain⟨es,c,h1,h2⟩:=h
 obtain⟨y,hy,hyf⟩:=h2 n
 rw[hf] at hyf
 have hk:IsKey (.int .i64) (.int .i64 n):=rfl
 cases y with
 | none=>cases hyf
 | some z =>
  have hz:z.2=x:=by simpa using hyf
  simp[Instr.lookup,run_underlying under_map,Go.MapKept.run_getObj_map h1,Go.MapKept.run_checkKey under_int hk,Go.MapKept.run_findKey under_int hy,Result.andThen,hz]
open Go.RowKit
def offK (s:Tk) (c:Cm):List Pt:=match posL s.kept c.id with
 | some k=>if (ptK s.kept k).size=c.size then s.kept else withoutL s.kept c.id
 | none=>s.kept
def newP (c:Cm):Pt:=⟨c.id,c.size,1,⟨#[]⟩⟩
def offerT (s:Tk) (c:Cm):Tk×List Qn×Int:=match posL s.act c.id with
 | some _=>(s,[],7)
 | none=>if s.win≤s.act.length then (s,[],9) else (⟨s.win,s.opn,s.act++[newP c],offK s c⟩,[(c.id,c.size,gotL (offK s c) c.id)],0)
open Go.RowKit
def hearT (s:Tk) (c:Cm):Tk×List Qn×List Txt×Int :=
 if s.opn=false then (s,[],[],10)
 else if chk c≠0 then (s,[],[],chk c)
 else if c.verb=2 then ((offerT s c).1,(offerT s c).2.1,[],(offerT s c).2.2)
 else if c.verb=7 then ((dataT s c).1,[],[],(dataT s c).2)
 else if c.verb=8 then ((doneT s c).1,[],(doneT s c).2.1,(doneT s c).2.2)
 else (s,[],[],11)
def hearF (v:Int):Option Value:=if v=8 then some (.func (.func 67) #[] #[]) else if v=7 then some (.func (.func 66) #[] #[]) else if v=2 then some (.func (.func 65) #[] #[]) else none
theorem hear_map (w:World):∃ g W3 W4 W5 W6,(Instr.makeMap 142 none).run Tryz.prog w=.ok (.map (some g)) W3∧(Instr.mapUpdate 142 (.map (some g)) (.int .i64 2) (.func (.func 65) #[] #[])).run Tryz.prog W3=.ok () W4∧(Instr.mapUpdate 142 (.map (some g)) (.int .i64 7) (.func (.func 66) #[] #[])).run Tryz.prog W4=.ok () W5∧(Instr.mapUpdate 142 (.map (some g)) (.int .i64 8) (.func (.func 67) #[] #[])).run Tryz.prog W5=.ok () W6∧FM W6 g hearF∧Below w.heap.size w W6:=by
 have h3:=FM.made w
 obtain⟨W4,e4,h4,o4⟩:=h3.put 2 rfl (.func (.func 65) #[] #[])
 obtain⟨W5,e5,h5,o5⟩:=h4.put 7 rfl (.func (.func 66) #[] #[])
 obtain⟨W6,e6,h6,o6⟩:=h5.put 8 rfl (.func (.func 67) #[] #[])
 refine⟨w.heap.size,_,W4,W5,W6,rfl,e4,e5,e6,h6,?_⟩
 have hb:=below_alloc w (.map #[] 0)
 have:=hb.size
 have o:=(o4.trans o5).trans o6
 exact⟨o.os.trans hb.os,o.tape.trans hb.tape,o.output.trans hb.output,Nat.le_trans hb.size o.size,fun k hk=>(o.out k (by omega) (by omega)).trans (hb.block k hk)⟩
theorem HearP.under {b:Nat} {s':Tk} {qs:List Qn} {ts:List Txt} {no:Int} {F F0:List Nat} {w w1:World} {e:Ending} {w':World} (h:HearP b s' qs ts no F0 w1 e w') (hk:Kp F F0 w w1):HearP b s' qs ts no F w e w':=by
 obtain⟨q,l,h1,F',h2,h3,h4,h5⟩:=h
 exact⟨q,l,h1,F',h2,hk.trans h3,h4,h5⟩
set_option maxRecDepth 100000 in
set_option maxHeartbeats 3200000 in
theorem hear15_go (b:Nat) (s s':Tk) (qs:List Qn) (ts:List Txt) (no:Int) (F:List Nat) (c:Cm) (w:World) (h:TkAt b s F w) (hL:FormsAt w) (hn:c.name.size≤1000000) (ho:s.opn=true) (hc:chk c=0) (f:Nat) (hf:hearF c.verb=some (.func (.func f) #[] #[]))
  (he:∀ (args:Array Value) (W:World),Sem.run Tryz.prog (callFunc f args) W=.ok (.enter f args) W) (hcall:∀ u,TkAt b s F u→Calls Tryz.prog f #[.pointer (some ⟨b,0,none⟩),vC c] u (HearP b s' qs ts no F u)) :
  Calls Tryz.prog 31 #[.pointer (some ⟨b,0,none⟩),vC c] w (HearP b s' qs ts no F w):=by
 obtain⟨va,vk,h⟩:=h
 obtain⟨g,hg⟩:∃ g,w.heap.size=g:=⟨_,rfl⟩
 obtain⟨W1,hW1⟩:∃ W1,w.alloc (.cells (aC c) 74)=W1:=⟨_,rfl⟩
 have hb1:Below w.heap.size w W1:=by rw[← hW1];exact below_alloc _ _
 have hrow:Row W1 g (cC c) 74:=by rw[← hW1,← hg];exact Row.new w (cC c) _
 have r1:=(Row.okw hrow (cC_length c)).1
 have r2:rdA W1 ⟨g,0,none⟩ 39=vC c:=(Row.okw hrow (cC_length c)).2
 have c1:=(h.keep hb1).c1
 rw[ho] at c1
 have H1:=Lib.hid (And.intro (h.keep hb1) (And.intro hb1 (And.intro (hL.keep hb1) hrow)))
 have HN:=Lib.hid hn
 have HC:=Lib.hid hc
 have HF:=Lib.hid hf
 have HE:=Lib.hid hcall
 clear h hb1 hrow hL hn hc hf hcall
 go_enter Tryz.func31,Tryz.ntmps31
 go_wp2_with (go_at_call 53;refine (check16 c W1 H1.out.2.2.1 HN.out).mono ?_;rintro e w2 ⟨rfl,hb2⟩;rw[HC.out];obtain⟨g3,W3,W4,W5,W6,m3,m4,m5,m6,hF6,hB6⟩:=hear_map w2;have ml:=hF6.look c.verb _ HF.out;have hb6:=Below.step hb2 hB6;have hr6:=H1.out.2.2.2.keep hb6;have j0:W6.cell? ⟨g,0,none⟩=some (.int .i64 c.verb):=hr6.cell 0;have j1:=(Row.okw hr6 (cC_length c)).1;have j2:rdA W6 ⟨g,0,none⟩ 39=vC c:=(Row.okw hr6 (cC_length c)).2;have H2:=Lib.hid hb6;clear hb2 hF6 hB6 hb6 hr6)
 go_wp2_with (refine (HE.out W6 ⟨va,vk,H1.out.1.keep H2.out⟩).mono ?_;rintro e w7 ⟨q,l,rfl,h7⟩;have H7:=Lib.hid h7;clear h7)
 go_ret3
 obtain⟨F',h2,h3,h4,h5⟩:=H7.out
 exact⟨q,l,rfl,F',h2,(Kp.of_below (Below.step H1.out.2.1 H2.out)).trans h3,h4,h5⟩
open Go.RowKit
def AnsP (b:Nat) (s':Tk) (d:Cm) (no:Int) (F:List Nat) (w:World) (e:Ending) (w':World):Prop:=e=.returned (.tuple #[vC d,.int .i64 no])∧∃ F',TkAt b s' F' w'∧Kp F F' w w'
theorem fin_row {b r0:Nat} {s':Tk} {F FN:List Nat} {va vk:SlV} {w u:World} (hT:TkR b s' FN va vk u) (hK:Kp F FN w u) (hr:r0∉FN) (hr2:w.heap.size≤r0) (d:Cm):∃ F',TkAt b s' F' (u.setRow r0 (aC d))∧Kp F F' w (u.setRow r0 (aC d)):=by
 refine⟨FN,⟨va,vk,hT.same fun k hk=>heap_setRow_other u r0 k _ (fun e=>hr (e▸hk))⟩,⟨hK.os,hK.tape,hK.output,by simpa[World.setRow] using hK.size,fun k hk hF=>⟨(hK.out k hk hF).1,?_⟩⟩⟩
 rw[heap_setRow_other u r0 k _ (by omega)]
 exact (hK.out k hk hF).2
def wantP (s:Tk) (c:Cm) (k:Nat):Pt:=⟨(ptK s.act k).id,(ptK s.act k).size,2,if 0<c.from_ then (match posL s.kept c.id with|some j=>(ptK s.kept j).bytes|none=>⟨#[]⟩) else (ptK s.act k).bytes⟩
def answerT (s:Tk) (c:Cm):Tk×Cm×Int :=
 if chk c≠0 then (s,zC,chk c)
 else if c.verb<3∨6<c.verb then (s,zC,11)
 else match posL s.act c.id with
 | none=>(s,zC,8)
 | some k=>if (ptK s.act k).state≠1 then (s,zC,10)
  else if c.verb=3∧c.from_≠0∧c.from_≠gotL s.kept c.id then (s,zC,2)
  else if c.verb=3 then (⟨s.win,s.opn,s.act.set k (wantP s c k),withoutL s.kept c.id⟩,c,0)
  else if c.verb=5 then (⟨s.win,s.opn,withoutL s.act c.id,s.kept⟩,c,0)
  else (⟨s.win,s.opn,withoutL s.act c.id,withoutL s.kept c.id⟩,c,0)
end Go.Proofs.YtdkjgcfhepplbaaGreatDoor
