/- bulletinlaw30.CommandRoundTrip: whatever the command and what follows, the law returns true. -/
import Derived.Test.YtdkjgcfhepplbaaGreatDoorRows
import Derived.Lay
import Derived.ProofKit
import Derived.OpenShut
import Derived.ShutString
import Derived.ChangeOld
import Derived.Deep.Slices
import Derived.Deep.Strs
import Derived.LaidMore
import Derived.Lib.LaidTab
import Derived.Stop.Joined
import Derived.Stop.LaidErr
import Derived.Test.YtdkjgcfhepplbaaGreatDoorMKn34
namespace Go.Proofs.YtdkjgcfhepplbaaGreatDoor
open Go.RowKit
structure Cm.ints (c:Cm):Prop where
 size:i64 c.size
 from_:i64 c.from_
 count:i64 c.count
 code:i64 c.code
section
open Go.ChangeShapes Go.WideShapes Go.ChangeAt Go.RowKit Go.Deep
theorem ownD:ownKnob Tryz.prog.godebug=none:=by kernel_rfl
theorem laidOutD:laidOutB Tryz.prog=true:=by kernel_rfl
def lst:List (String×DataW Unit):=[("math/bits.deBruijn32tab",Rows.laid_math_bits_deBruijn32tab),("math/bits.deBruijn64tab",Rows.laid_math_bits_deBruijn64tab),("internal/strconv.uint64pow10",Rows.laid_internal_strconv_uint64pow10),("unicode/utf8.acceptRanges",Rows.laid_unicode_utf8_acceptRanges),("bulletin/command.forms",Rows.laid_bulletin_command_forms),("bulletin/offer.effects",Rows.laid_bulletin_offer_effects),("unicode/utf8.first",Rows.laid_unicode_utf8_first)]
theorem wrapLS {H:Type} {enc:TypeId×Value→H} {a:Assume} {C:Checked} {os:Go.Os} {f:FuncId} {fn:Func} {s:ChangeSpec} {conds:List PathCond} {apart fresh handsOn again:Bool} {X:World→Array Value→Prop}
  (hX:∀ (w w':World) (args:Array Value),w.heap=w'.heap→X w args→X w' args)
  (own:ownKnob C.prog.godebug=none) (started:os.Started) (noInit:C.prog.inits.idxOf? f=none) (hfn:C.prog.funcs[f]? = some fn)
  (witness:∃ (w:World) (tape:Tape) (i:Input),w.os=os∧(w.forCall tape i).Shaped C.prog∧i.vars=[]∧Input.okWide C.prog (w.forCall tape i) .any w.heap.size f i ∧
   ((s.pre enc C.prog fn conds apart (w.forCall tape i).memory i.args∧X (w.forCall tape i).memory i.args)∧sizedMet enc C.prog fn (OpenSpec.ofChange s) apart (w.forCall tape i).memory i.args)∧a.holds C.prog (lone (Frame.enter C.prog f i.args .normal) [] (w.forCall tape i)))
  (contract:∀ (W:World) (base:Nat) (args:Array Value) (ds gs:List (DataW H)) (before:List MemPlace),
   (∀ (j:Nat) t v,fn.params[j]? = some t→args[j]? = some v→Value.okWide C.prog W .any base t v) →
   DataW.Whole enc C.prog fn.params.toList s.vars apart W args.toList ds gs before →
   X W args→W.ShapedOpen C.prog →
   Calls C.prog f args W fun e W'=>∃ v,e=.returned v∧s.post enc C.prog fn apart fresh handsOn again W args v W') :
  ReturnsInHanded a C os f .any (fun w args=>(s.pre enc C.prog fn conds apart w args∧X w args)∧sizedMet enc C.prog fn (OpenSpec.ofChange s) apart w args) (s.post enc C.prog fn apart fresh handsOn again):=by
 refine returnsInHanded_of_calls own started noInit witness ?_
 intro w tape i _ hsh _ hok hpre _
 obtain⟨_,_,_,fn',hfn',_,_,_,_,hval⟩:=hok
 obtain rfl:fn'=fn:=Option.some.inj (hfn'.symm.trans hfn)
 obtain⟨⟨⟨ds,gs,before,hw,_⟩,hx⟩,_⟩:=hpre
 refine (contract (w.forCall tape i) w.heap.size i.args ds gs before hval (DataW.Whole.of_heap (w':=w.forCall tape i) (by rfl) hw) (hX _ _ _ (by rfl) hx) hsh).mono fun e W' ⟨v,he,hp⟩=>?_
 subst he
 exact ChangeSpec.post_blind hp
set_option maxRecDepth 100000 in
theorem door_met (os:Go.Os) (args:Array Value):laidMetH Tryz.prog lst ((World.laidAll Tryz.prog os lst).forCall (fun _ _=>0) ⟨#[],args,[]⟩).memory:=by
 rw[MakeChecks.laidMetH_plain _ _ _ (by kernel_rfl)]
 exact laidMet_laidAll args (by kernel_rfl) (by kernel_rfl)
section
variable {H : Type} {enc : TypeId × Value → H} {P : Program} {w : World} {base : Nat} {sp : Nat → Bool} {held : Bool}
theorem cells_of_rows {α:Type} {fuel:Nat} {t e:TypeId} {n c:Nat} {cs:List Value} {p:List MemPlace} (ht:P.underlying t=some (.array n e)) (hce:P.cellsOf e=c) (hct:P.cellsOf t=n * c) (rows:List α) (dat:α→DataW H) (cel:α→List Value)
  (hrow:∀ (a:α) (f:Nat) (ds:List Value) (q:List MemPlace),DataW.trod enc P w base sp held f e ds=some (dat a,q)→ds=cel a)
  (h:DataW.trod enc P w base sp held fuel t cs=some (.agg (rows.map dat),p)):cs=rows.flatMap cel:=by
 cases fuel with
 | zero=>simp[DataW.trod] at h
 | succ fuel =>
  simp only[DataW.trod,ht,hce,hct] at h
  split at h
  ·rename_i hl
   obtain⟨xs,hm,hx⟩:=Option.map_eq_some_iff.1 h
   have hxs:xs.map (·.1)=rows.map dat:=by
    have:=congrArg Prod.fst hx
    simpa using this
   have hxl:xs.length=n:=by simpa using Lib.mapM_length hm
   have hrl:rows.length=n:=by
    have:=congrArg List.length hxs
    simp at this
    omega
   have hel:∀ i (hi:i<rows.length),(cs.drop (i * c)).take c=cel rows[i]:=by
    intro i hi
    obtain⟨b,hb,hf⟩:=Lib.mapM_at hm i i (by simp[← hrl,hi])
    have h2:(xs.map (·.1))[i]? = some b.1:=by simp[hb]
    rw[hxs,List.getElem?_map,List.getElem?_eq_getElem hi] at h2
    have h3:dat rows[i]=b.1:=by simpa using h2
    refine hrow rows[i] fuel _ b.2 ?_
    rw[hf,h3]
   clear h hm hx hxs hxl
   subst hrl
   clear ht hct
   induction rows generalizing cs with
   | nil =>
    have:cs.length=0:=by simpa using hl
    simpa using List.eq_nil_of_length_eq_zero this
   | cons a r ih =>
    have h0:=hel 0 (by simp)
    have h1:=ih (cs:=cs.drop c) (fun i hi=>by
     have:=hel (i+1) (by simp;omega)
     rw[Nat.succ_mul] at this
     rw[List.drop_drop,show c+i * c=i * c+c by omega]
     exact this) (by rw[List.length_drop,hl,List.length_cons,Nat.succ_mul];omega)
    rw[List.flatMap_cons,← h1]
    rw[Nat.zero_mul,List.drop_zero] at h0
    have h4:cel a=cs.take c:=h0.symm
    rw[h4,List.take_append_drop]
  ·cases h
end
def formsD:List (List UInt8×Int×Int):=formsL.map fun x=>(x.1.data.toList,x.2.1,x.2.2)
def formD {H:Type} (x:List UInt8×Int×Int):DataW H:=.agg [.lit (.string x.1),.lit (.int .i64 x.2.1),.lit (.int .i64 x.2.2)]
def formV (x:List UInt8×Int×Int):List Value:=cF (⟨x.1.toArray⟩,x.2.1,x.2.2)
set_option maxRecDepth 100000 in
theorem form_of_trod {H:Type} {enc:TypeId×Value→H} {w:World} {base:Nat} {sp:Nat→Bool} {held:Bool} (x:List UInt8×Int×Int) (f:Nat) (ds:List Value) (q:List MemPlace) (h:DataW.trod enc Tryz.prog w base sp held f 119 ds=some (formD x,q)):ds=formV x:=by
 obtain⟨y0,y1,y2,n,hx,hl,h0,h1,h2⟩:=trod_struct3 Tryz.underlying119 h
 have hc:Tryz.prog.cellsOf 119=3:=by kernel_rfl
 have c9:Tryz.prog.cellsOf 9=1:=by kernel_rfl
 have c3:Tryz.prog.cellsOf 3=1:=by kernel_rfl
 rw[hc] at hl
 match ds,hl with
 | [a0,a1,a2],_ =>
  simp only[c9,c3,List.drop_zero,List.drop_succ_cons,List.take_succ_cons,List.take_zero] at h0 h1 h2
  obtain⟨s,hs,rfl,_⟩:=DataW.trod_string Tryz.underlying9 h0
  obtain⟨n1,hn1,rfl,_⟩:=DataW.trod_int Tryz.underlying3 h1
  obtain⟨n2,hn2,rfl,_⟩:=DataW.trod_int Tryz.underlying3 h2
  simp only[List.cons.injEq,and_true] at hs hn1 hn2
  subst hs hn1 hn2
  unfold formD at hx
  simp only[Prod.mk.injEq,DataW.agg.injEq,List.cons.injEq,DataW.lit.injEq,Lit.string.injEq,Lit.int.injEq,true_and,and_true] at hx
  obtain⟨⟨e1,e2,e3⟩,_⟩:=hx
  unfold formV cF
  rw[e1,e2,e3]
theorem at_var {W:World} {name:String} {g:Nat} {cs:Array Value} (hg:Tryz.prog.globalNamed name=some g) (h:W.var? Tryz.prog name=some cs) (ds:List Value) (hd:cs.toList=ds) (hne:ds≠[]):At W ⟨g,0,none⟩ ds:=by
 have hc:∀ i,W.cell? ⟨g,i,none⟩=ds[i]?:=fun i=>by
  rw[World.var?_cell hg h i,← hd]
  simp
 obtain⟨v,r,rfl⟩:∃ v r,ds=v :: r:=by
  cases ds with
  | nil=>exact absurd rfl hne
  | cons v r=>exact⟨v,r,rfl⟩
 refine⟨block_lt_of_cell (hc 0),fun j u hj=>?_⟩
 rw[add_off,Nat.zero_add,hc,hj]
theorem forms_name:Tryz.prog.globalNamed "bulletin/command.forms"=some 0:=by kernel_rfl
theorem pow_name:Tryz.prog.globalNamed "internal/strconv.uint64pow10"=some 3:=by kernel_rfl
theorem laid_of {W:World} (h:laidMetH Tryz.prog lst W) (hsh:W.ShapedOpen Tryz.prog):Laid W:=by
 obtain⟨m,hm⟩:=Tryz.laysM143.s1_3 W hsh
 rw[MakeChecks.laidMetH_plain _ _ _ (by kernel_rfl)] at h
 have h3:laidMet Tryz.prog (("internal/strconv.uint64pow10",Lib.tabData .u64 Lib.pow10Tab) :: [("unicode/utf8.acceptRanges",Rows.laid_unicode_utf8_acceptRanges),("bulletin/command.forms",Rows.laid_bulletin_command_forms),("bulletin/offer.effects",Rows.laid_bulletin_offer_effects),("unicode/utf8.first",Rows.laid_unicode_utf8_first)]) W:=h.tail.tail
 have h5:laidMet Tryz.prog [("bulletin/command.forms",Rows.laid_bulletin_command_forms),("bulletin/offer.effects",Rows.laid_bulletin_offer_effects),("unicode/utf8.first",Rows.laid_unicode_utf8_first)] W:=h3.tail.tail
 obtain⟨ps,⟨g,t,cs,fuel,p,q,hg,ht,hvar,hd,_,_⟩,_⟩:=h5
 obtain rfl:=Option.some.inj (forms_name.symm.trans hg)
 obtain rfl:120=t:=Option.some.inj ((show (Tryz.prog.globals[0]?).map (·.type)=some 120 by kernel_rfl).symm.trans ht)
 have e1:=cells_of_rows Tryz.underlying120 (c:=3) (by kernel_rfl) (by kernel_rfl) formsD formD formV form_of_trod hd
 exact⟨fun _=>⟨_,rfl,at_var forms_name hvar _ e1 (by decide)⟩,⟨m,hm⟩,Lib.tabIs_of_head (t:=217) (e:=23) (n:=20) pow_name (by kernel_rfl) (by kernel_rfl) (by kernel_rfl) (by kernel_rfl) (by kernel_rfl) h3⟩
/-! ### arguments -/
theorem cells5:Tryz.prog.cellsOf 5=1:=by kernel_rfl
section
variable {H : Type} {enc : TypeId × Value → H} {w : World} {base : Nat} {spare : Nat → Bool} {held : Bool}
theorem byte_of_trod {fuel:Nat} {cs:List Value} {x:DataW H×List MemPlace} (h:DataW.trod enc Tryz.prog w base spare held fuel 5 cs=some x):∃ b:UInt8,cs=[cB b]:=by
 obtain⟨n,rfl,_,hw⟩:=DataW.trod_int Tryz.underlying5 h
 simp[Lit.wf,IntKind.min,IntKind.max,IntKind.signed,IntKind.bits] at hw
 refine⟨UInt8.ofNat n.toNat,?_⟩
 have e:((UInt8.ofNat n.toNat).toNat:Int)=n:=by
  rw[UInt8.toNat_ofNat']
  omega
 unfold cB
 rw[e]
end
end
open Go.ChangeShapes Go.WideShapes Go.ChangeAt Go.RowKit Go.Deep
section
variable {H : Type} {enc : TypeId × Value → H} {w : World}
theorem sl_of_trod {α:Type} [Inhabited α] (ec:α→List Value) (s:Nat) (hs0:0<s) (hs:∀ x,(ec x).length=s) {t e:TypeId} {a0:Option Addr} {n c:Nat} {d:DataW H} {p:List MemPlace} (ht:Tryz.prog.underlying t=some (.slice e)) (hc:Tryz.prog.cellsOf e=s)
  (he:∀ {fuel:Nat} {cs:List Value} {x:DataW H×List MemPlace},DataW.trod enc Tryz.prog w 0 (fun _=>true) true fuel e cs=some x→∃ y:α,cs=ec y)
  (h:DataW.Trod enc Tryz.prog w 0 (fun _=>true) true t (.slice a0 n c) d p):∃ xs:List α,xs.length=n∧n≤c∧c≤maxLen∧Sl w ec a0 xs:=by
 obtain⟨fuel,hf⟩:=h
 rcases open_slice ht hf with⟨hcs,_⟩|⟨a,len,cap,m,k,D,Pl,hcs,_,hl,hm,hmm,_,hx⟩
 ·simp[Value.cells] at hcs
  obtain⟨rfl,rfl,rfl⟩:=hcs
  exact⟨[],rfl,Nat.le_refl _,Nat.zero_le _,Sl.nil _ _ _⟩
 ·simp[Value.cells] at hcs
  obtain⟨rfl,rfl,rfl⟩:=hcs
  simp only[if_true] at hmm
  subst hmm
  have hid:∀ i,i<n→∃ y:α,∀ j u,(ec y)[j]? = some u→w.cell? (a.add (i * s+j))=some u:=by
   intro i hi
   obtain⟨cs',h1,h2⟩:=hx i (by omega)
   rw[hc] at h1
   obtain⟨y,rfl⟩:=he h2
   obtain⟨_,_,h3⟩:=World.cells?_some h1
   refine⟨y,fun j u hu=>?_⟩
   have hj:j<s:=by have:=(List.getElem?_eq_some_iff.1 hu).1;rwa[hs] at this
   have:=h3 j hj
   rw[Go.Deep.add_add] at this
   rw[this,hu]
  obtain⟨f,hf'⟩:=choose_lt hid
  refine⟨(List.range n).map f,by simp,hl,hm,fun hne=>⟨a,rfl,?_,?_⟩⟩
  ·have hn:0<n:=by
    rcases Nat.eq_zero_or_pos n with h0|h0
    ·subst h0;exact absurd rfl hne
    ·exact h0
   have h1:=hf' 0 hn 0 ((ec (f 0))[0]'(by rw[hs];omega)) (List.getElem?_eq_getElem _)
   have:=block_lt_of_cell h1
   rwa[block_of_add] at this
  ·intro j u hu
   have hlen:((List.range n).map f).length=n:=by simp
   have hj:j<n * s:=by
    have:=(List.getElem?_eq_some_iff.1 hu).1
    rwa[flatMap_length ec s hs,hlen] at this
   have hk:j / s<n:=Nat.div_lt_of_lt_mul (by rwa[Nat.mul_comm] at hj)
   have e1:j / s * s+j % s=j:=Nat.div_add_mod' j s
   have e2:=flatMap_getElem ec s hs ((List.range n).map f) (j / s) (by rw[hlen];exact hk) (j % s) (Nat.mod_lt _ hs0)
   rw[e1,hu] at e2
   have e3:((List.range n).map f)[j / s]'(by rw[hlen];exact hk)=f (j / s):=by simp
   rw[e3] at e2
   have:=hf' (j / s) hk (j % s) u e2.symm
   rwa[e1] at this
def CmI:={ c:Cm // c.ints }
instance:Inhabited CmI:=⟨⟨zC,⟨⟨by decide,by decide⟩,⟨by decide,by decide⟩,⟨by decide,by decide⟩,⟨by decide,by decide⟩⟩⟩⟩
end
section
open Go.RowKit
theorem Sl.op {w:World} {A:Option Addr} {xs:List Opn} (h:Sl w cO A xs) {k:Nat} (hk:k<xs.length):∃ ad,A=some ad∧At w (ad.add (k * 41)) (cO xs[k]):=by
 obtain⟨ad,rfl,hat⟩:=Sl.at_ cO_length h hk
 exact⟨ad,rfl,hat⟩
end
section
open Go.ChangeShapes Go.WideShapes Go.ChangeAt Go.RowKit Go.Deep
structure Opn.ints (o:Opn):Prop where
 cmd:o.cmd.ints
 res:-9223372036854775808≤o.result∧o.result≤9223372036854775807
section
variable {H : Type} {enc : TypeId × Value → H} {w : World}
def OpI:={ o:Opn // o.ints }
instance:Inhabited OpI:=⟨⟨zO,⟨⟨⟨by decide,by decide⟩,⟨by decide,by decide⟩,⟨by decide,by decide⟩,⟨by decide,by decide⟩⟩,by decide,by decide⟩⟩⟩
end
end
section
open Go.RowKit
theorem rowIds:(Tryz.prog.info? 39).map (fun i=>(i.zero.map (·.cells.size),i.size,i.bytes))=some (some 32,32,32):=by kernel_rfl
def aIs (xs:List Id):Array Value:=(xs.flatMap cI).toArray
theorem vI_cells (x:Id):(vI x).cells.size=32:=by simp[vI,Value.cells,cI_length]
theorem underIds:Tryz.prog.underlying 42=some (.slice 39):=by kernel_rfl
section
variable (w : World)
@[go_sem ↓] theorem bsIds (n:Nat) (parts:Array (Nat×Value)):Instr.buildSlice 42 n parts=bsA 42 n parts:=rfl
theorem run_bsIds (xs:List Id) (h:xs.length≤100):(bsA 42 xs.length (xs.zipIdx.map fun x=>(x.2,vI x.1)).toArray).run Tryz.prog w=.ok (.slice (some ⟨w.heap.size,0,none⟩) xs.length xs.length) (w.alloc (.cells (aIs xs) 39)):=by
 obtain⟨i,z,h1,h2,h3⟩:=info_of rowIds
 exact run_bsA w vI 42 39 i z 32 underIds h1 h2 h3 vI_cells xs (by omega)
@[go_sem] theorem run_bsIds1 (x:Id):(bsA 42 1 #[(0,vI x)]).run Tryz.prog w=.ok (.slice (some ⟨w.heap.size,0,none⟩) 1 1) (w.alloc (.cells (aIs [x]) 39)):=run_bsIds w [x] (by simp)
end
end
section
open Go.RowKit
structure TkI (s:Tk):Prop where
 win1:1≤s.win
 win64:s.win≤64
 act:(s.act.length:Int)≤s.win
 kept:s.kept.length≤8
 shut:s.opn=false→s.act=[]
 kst:∀ p∈s.kept,p.state=4∧0<p.bytes.size∧p.bytes.size≤65536
 ast:∀ p∈s.act,1≤p.state∧p.state≤3∧p.size≤65536∧p.bytes.size≤65536
 two:∀ p∈s.act,∀ q∈s.kept,p.id=q.id→p.state=1
 nda:(s.act.map Pt.id).Nodup
 ndk:(s.kept.map Pt.id).Nodup
theorem TkI.a100 {s:Tk} (h:TkI s):s.act.length≤100:=by have:=h.act;have:=h.win64;omega
theorem TkI.k100 {s:Tk} (h:TkI s):s.kept.length≤100:=by have:=h.kept;omega
theorem TkI.bz {s:Tk} (h:TkI s):∀ p∈s.act,p.bytes.size≤1000000:=fun p hp=>by have:=(h.ast p hp).2.2.2;omega
theorem TkI.new {n:Int} (h1:1≤n) (h2:n≤64):TkI (Tk.new n) :=
 ⟨h1,h2,by show ((0:Nat):Int)≤n;omega,Nat.zero_le _,fun _=>rfl,fun p hp=>(by cases hp),fun p hp=>(by cases hp),fun p hp=>(by cases hp),List.nodup_nil,List.nodup_nil⟩
theorem mem_without {l:List Pt} {x:Id} {p:Pt}:p∈withoutL l x↔p∈l∧p.id≠x:=by simp[withoutL,noId]
theorem nd_without {l:List Pt} (x:Id) (h:(l.map Pt.id).Nodup):((withoutL l x).map Pt.id).Nodup:=h.sublist (List.Sublist.map _ List.filter_sublist)
theorem nd_snoc {l:List Pt} {p:Pt} (h:(l.map Pt.id).Nodup) (hp:∀ q∈l,q.id≠p.id):((l++[p]).map Pt.id).Nodup:=by
 rw[List.map_append,List.nodup_append]
 refine⟨h,by simp,fun a ha b hb=>?_⟩
 obtain⟨q,hq,rfl⟩:=List.mem_map.1 ha
 simp only[List.map_cons,List.map_nil,List.mem_singleton] at hb
 rw[hb]
 exact hp q hq
theorem map_set_id {l:List Pt} {k:Nat} {p:Pt} (hk:k<l.length) (hp:p.id=l[k].id):(l.set k p).map Pt.id=l.map Pt.id:=by
 rw[List.map_set,hp,← List.getElem_map (f:=Pt.id) (h:=by simpa using hk)]
 exact List.set_getElem_self _
theorem keepQ_mem {l:List Pt} {a p:Pt} (h:p∈keepQ l a):(p∈l∧p.id≠a.id)∨p={ a with state:=4 }:=by
 unfold keepQ at h
 have h2:p∈withoutL l a.id++[{ a with state:=4 }]:=by
  dsimp only at h
  split at h
  ·exact List.mem_of_mem_drop h
  ·exact h
 rcases List.mem_append.1 h2 with h3|h3
 ·exact Or.inl (mem_without.1 h3)
 ·exact Or.inr (List.mem_singleton.1 h3)
theorem keepP_mem {l:List Pt} {a p:Pt} (h:p∈keepP l a):p∈l∨(p={ a with state:=4 }∧a.state=2∧0<a.bytes.size):=by
 unfold keepP at h
 split at h
 ·exact Or.inl h
 ·rename_i hn
  rcases keepQ_mem h with h2|h2
  ·exact Or.inl h2.1
  ·exact Or.inr ⟨h2,by omega,by omega⟩
theorem nd_keepP {l:List Pt} (a:Pt) (h:(l.map Pt.id).Nodup):((keepP l a).map Pt.id).Nodup:=by
 unfold keepP
 split
 ·exact h
 ·unfold keepQ
  have h2:((withoutL l a.id++[{ a with state:=4 }]).map Pt.id).Nodup:=nd_snoc (nd_without _ h) (fun q hq=>(mem_without.1 hq).2)
  dsimp only
  split
  ·exact h2.sublist (List.Sublist.map _ (List.drop_sublist _ _))
  ·exact h2
theorem fold_nd:∀ (xs l:List Pt),(l.map Pt.id).Nodup→((xs.foldl keepP l).map Pt.id).Nodup
 | [],_,h=>h
 | x :: r,_,h=>fold_nd r _ (nd_keepP x h)
theorem fold_kst:∀ (xs l:List Pt),(∀ p∈l,p.state=4∧0<p.bytes.size∧p.bytes.size≤65536)→(∀ p∈xs,p.bytes.size≤65536)→∀ p∈xs.foldl keepP l,p.state=4∧0<p.bytes.size∧p.bytes.size≤65536
 | [],_,h,_=>h
 | x :: r,_,h,hx=>fold_kst r _ (fun p hp=>by
   rcases keepP_mem hp with h1|⟨rfl,_,h2⟩
   ·exact h p h1
   ·exact⟨rfl,h2,hx x List.mem_cons_self⟩) (fun p hp=>hx p (List.mem_cons_of_mem _ hp))
theorem TkI.opened {s:Tk} (h:TkI s):TkI (openT s).1:=by
 unfold openT
 split
 ·exact h
 ·exact⟨h.win1,h.win64,h.act,h.kept,fun e=>(by cases e),h.kst,h.ast,h.two,h.nda,h.ndk⟩
theorem TkI.dropped {s:Tk} (h:TkI s):TkI (dropT s).1:=by
 unfold dropT
 split
 ·exact⟨h.win1,h.win64,by show ((0:Nat):Int)≤s.win;have:=h.win1;omega,fold_len _ _ h.kept,fun _=>rfl,fold_kst _ _ h.kst (fun p hp=>(h.ast p hp).2.2.2),fun p hp=>(by cases hp),fun p hp=>(by cases hp),List.nodup_nil,fold_nd _ _ h.ndk⟩
 ·exact h
theorem rgs_ok (c:Cm) (fl most:Int) (h:chkF c fl most=0):(rgs c).all (okR fl)=true:=by
 unfold chkF at h
 split at h
 ·cases h
 split at h
 ·cases h
 split at h
 ·cases h
 split at h
 ·cases h
 ·rename_i hn
  simpa using hn
theorem chk_form (c:Cm) (v:Nat) (hv:c.verb=(v:Int)) (h1:1≤v) (h2:v≤11):chk c=chkF c ((formsL[v]?.getD (⟨#[]⟩,0,0)).2.1) ((formsL[v]?.getD (⟨#[]⟩,0,0)).2.2):=by
 unfold chk
 rw[if_neg (by omega),hv,Int.toNat_natCast]
theorem chk_offer (c:Cm) (hv:c.verb=2) (h:chk c=0):1≤c.size∧c.size≤65536:=by
 rw[chk_form c 2 hv (by decide) (by decide)] at h
 have h2:=rgs_ok c _ _ h
 have h3:=List.all_eq_true.1 h2 (4,c.size,1,65536) List.mem_cons_self
 have h4:(bits BinOp.and .i64 (formsL[2]?.getD (⟨#[]⟩,0,0)).2.1 4==0)=false:=by decide
 unfold okR at h3
 rw[h4] at h3
 simp only[Bool.false_or,Bool.and_eq_true,decide_eq_true_eq] at h3
 exact h3
theorem mem_set {l:List Pt} {k:Nat} {p q:Pt} (h:q∈l.set k p):q∈l∨q=p:=List.mem_or_eq_of_mem_set h
theorem offK_mem {s:Tk} {c:Cm} {p:Pt} (h:p∈offK s c):p∈s.kept:=by
 unfold offK at h
 split at h
 ·split at h
  ·exact h
  ·exact (mem_without.1 h).1
 ·exact h
theorem offK_len (s:Tk) (c:Cm):(offK s c).length≤s.kept.length:=by
 unfold offK
 split
 ·split
  ·exact Nat.le_refl _
  ·exact without_len _ _
 ·exact Nat.le_refl _
theorem offK_nd {s:Tk} (c:Cm) (h:(s.kept.map Pt.id).Nodup):((offK s c).map Pt.id).Nodup:=by
 unfold offK
 split
 ·split
  ·exact h
  ·exact nd_without _ h
 ·exact h
theorem TkI.offered {s:Tk} (h:TkI s) (c:Cm) (ho:s.opn=true) (hz:c.size≤65536):TkI (offerT s c).1:=by
 unfold offerT
 split
 ·exact h
 ·rename_i hn
  split
  ·exact h
  ·rename_i hw
   refine⟨h.win1,h.win64,(by show ((s.act++[newP c]).length:Int)≤s.win;rw[List.length_append];simp only[List.length_cons,List.length_nil];omega),Nat.le_trans (offK_len s c) h.kept,fun e=>(by rw[show (⟨s.win,s.opn,s.act++[newP c],offK s c⟩:Tk).opn=s.opn from rfl,ho] at e;cases e),fun p hp=>h.kst p (offK_mem hp),fun p hp=>?_,fun p hp q hq e=>?_,nd_snoc h.nda (fun q hq=>pos_none' hn q hq),offK_nd c h.ndk⟩
   ·rcases List.mem_append.1 hp with hp|hp
    ·exact h.ast p hp
    ·rw[List.mem_singleton.1 hp]
     exact⟨by show (1:Int)≤1;omega,by show (1:Int)≤3;omega,hz,by show (0:Nat)≤65536;omega⟩
   ·rcases List.mem_append.1 hp with hp|hp
    ·exact h.two p hp q (offK_mem hq) e
    ·rw[List.mem_singleton.1 hp];rfl
theorem TkI.setA {s:Tk} (h:TkI s) {k:Nat} (hk:k<s.act.length) (p:Pt) (hi:p.id=s.act[k].id) (h2:s.act[k].state≠1) (hp:1≤p.state∧p.state≤3∧p.size≤65536∧p.bytes.size≤65536):TkI { s with act:=s.act.set k p }:=by
 refine⟨h.win1,h.win64,(by show ((s.act.set k p).length:Int)≤s.win;rw[List.length_set];exact h.act),h.kept,fun e=>(by have:=h.shut e;rw[this] at hk;cases hk),h.kst,fun q hq=>?_,fun q hq r hr e=>?_,by rw[map_set_id hk hi];exact h.nda,h.ndk⟩
 ·rcases mem_set hq with hq|rfl
  ·exact h.ast q hq
  ·exact hp
 ·rcases mem_set hq with hq|rfl
  ·exact h.two q hq r hr e
  ·exact absurd (h.two _ (List.getElem_mem hk) r hr (by rw[← hi];exact e)) h2
theorem TkI.dated {s:Tk} (h:TkI s) (c:Cm):TkI (dataT s c).1:=by
 unfold dataT
 split
 ·exact h
 ·rename_i k hr
  obtain⟨hk,_,hs⟩:=rcv_some hr
  have ha:=h.ast _ (List.getElem_mem hk)
  rw[ptK_eq hk]
  split
  ·exact h
  ·split
   ·exact h
   ·rename_i hn
    exact h.setA hk _ rfl (by rw[hs];decide) ⟨ha.1,ha.2.1,ha.2.2.1,by show (s.act[k].bytes++c.text).size≤65536;rw[ByteArray.size_append];omega⟩
theorem TkI.ended {s:Tk} (h:TkI s) (c:Cm):TkI (doneT s c).1:=by
 unfold doneT
 split
 ·exact h
 ·rename_i k hr
  obtain⟨hk,_,hs⟩:=rcv_some hr
  have ha:=h.ast _ (List.getElem_mem hk)
  rw[ptK_eq hk]
  split
  ·exact h
  ·exact h.setA hk _ rfl (by rw[hs];decide) ⟨by show (1:Int)≤3;omega,by show (3:Int)≤3;omega,ha.2.2.1,ha.2.2.2⟩
theorem TkI.heard {s:Tk} (h:TkI s) (c:Cm):TkI (hearT s c).1:=by
 unfold hearT
 split
 ·exact h
 rename_i ho
 split
 ·exact h
 rename_i hc
 split
 ·rename_i hv
  exact h.offered c (by simpa using ho) (chk_offer c hv (by simpa using hc)).2
 split
 ·exact h.dated c
 split
 ·exact h.ended c
 ·exact h
theorem TkI.lessA {s:Tk} (h:TkI s) (x:Id):TkI ⟨s.win,s.opn,withoutL s.act x,s.kept⟩ :=
 ⟨h.win1,h.win64,by have h1:=without_len s.act x;have h2:=h.act;show ((withoutL s.act x).length:Int)≤s.win;omega,h.kept,fun e=>(by show withoutL s.act x=[];rw[h.shut e];rfl),h.kst,fun p hp=>h.ast p (mem_without.1 hp).1,fun p hp q hq e=>h.two p (mem_without.1 hp).1 q hq e,nd_without x h.nda,h.ndk⟩
theorem TkI.lessK {s:Tk} (h:TkI s) (x:Id):TkI ⟨s.win,s.opn,s.act,withoutL s.kept x⟩ :=
 ⟨h.win1,h.win64,h.act,Nat.le_trans (without_len _ _) h.kept,h.shut,fun p hp=>h.kst p (mem_without.1 hp).1,h.ast,fun p hp q hq e=>h.two p hp q (mem_without.1 hq).1 e,h.nda,nd_without x h.ndk⟩
theorem wantP_bytes {s:Tk} (h:TkI s) (c:Cm) {k:Nat} (hk:k<s.act.length):(wantP s c k).bytes.size≤65536:=by
 show (if 0<c.from_ then (match posL s.kept c.id with|some j=>(ptK s.kept j).bytes|none=>⟨#[]⟩) else (ptK s.act k).bytes).size≤65536
 split
 ·split
  ·rename_i j hj
   obtain⟨hj2,_,_⟩:=pos_some hj
   rw[ptK_eq hj2]
   exact (h.kst _ (List.getElem_mem hj2)).2.2
  ·show (0:Nat)≤65536;omega
 ·rw[ptK_eq hk]
  exact (h.ast _ (List.getElem_mem hk)).2.2.2
theorem TkI.answered {s:Tk} (h:TkI s) (c:Cm):TkI (answerT s c).1:=by
 unfold answerT
 split
 ·exact h
 split
 ·exact h
 split
 ·exact h
 rename_i k hr
 obtain⟨hk,hid,_⟩:=pos_some hr
 split
 ·exact h
 split
 ·exact h
 have ha:=h.ast _ (List.getElem_mem hk)
 split
 ·have hl:=h.lessK c.id
  have hi:(wantP s c k).id=s.act[k].id:=by show (ptK s.act k).id=_;rw[ptK_eq hk]
  refine⟨hl.win1,hl.win64,(by show ((s.act.set k (wantP s c k)).length:Int)≤s.win;rw[List.length_set];exact h.act),hl.kept,fun e=>(by have:=h.shut e;rw[this] at hk;cases hk),hl.kst,fun q hq=>?_,fun q hq r hr2 e=>?_,by rw[map_set_id hk hi];exact h.nda,hl.ndk⟩
  ·rcases mem_set hq with hq|rfl
   ·exact h.ast q hq
   ·exact⟨by show (1:Int)≤2;omega,by show (2:Int)≤3;omega,by show (ptK s.act k).size≤65536;rw[ptK_eq hk];exact ha.2.2.1,wantP_bytes h c hk⟩
  ·rcases mem_set hq with hq|rfl
   ·exact hl.two q hq r hr2 e
   ·exact absurd (e.symm.trans (hi.trans hid)) (mem_without.1 hr2).2
 split
 ·exact h.lessA c.id
 ·exact (h.lessA c.id).lessK c.id
end
section
open Go.RowKit
theorem hear15 (b:Nat) (s:Tk) (F:List Nat) (c:Cm) (w:World) (h:TkAt b s F w) (hL:FormsAt w) (hn:c.name.size≤1000000) (hna:s.act.length≤100) (hnk:s.kept.length≤100) (hz:∀ p∈s.act,p.bytes.size≤1000000) (ht:c.text.size≤1000000) (he:(hearT s c).2.2.2=0) (h8:c.verb≠8) :
  Calls Tryz.prog 31 #[.pointer (some ⟨b,0,none⟩),vC c] w (HearP b (hearT s c).1 (hearT s c).2.1 (hearT s c).2.2.1 (hearT s c).2.2.2 F w):=by
 by_cases ho:s.opn=false
 ·unfold hearT at he
  rw[if_pos ho] at he
  cases he
 ·have ho':s.opn=true:=by simpa using ho
  by_cases hc:chk c≠0
  ·unfold hearT at he
   rw[if_neg ho,if_pos hc] at he
   exact absurd he hc
  ·have hc':chk c=0:=by simpa using hc
   by_cases h2:c.verb=2
   ·have e:hearT s c=((offerT s c).1,(offerT s c).2.1,[],(offerT s c).2.2):=by unfold hearT;rw[if_neg ho,if_neg hc,if_pos h2]
    rw[e]
    exact hear15_go b s _ _ _ _ F c w h hL hn ho' hc' 65 (by rw[h2];rfl) (enters_of Tryz.func65 (by kernel_rfl) rfl) (fun u hu=>offer37 b s F c u hu hna hnk)
   ·by_cases h7:c.verb=7
    ·have e:hearT s c=((dataT s c).1,[],[],(dataT s c).2):=by unfold hearT;rw[if_neg ho,if_neg hc,if_neg h2,if_pos h7]
     rw[e]
     exact hear15_go b s _ _ _ _ F c w h hL hn ho' hc' 66 (by rw[h7];rfl) (enters_of Tryz.func66 (by kernel_rfl) rfl) (fun u hu=>data38 b s F c u hu (by omega) hz ht)
    ·unfold hearT at he
     rw[if_neg ho,if_neg hc,if_neg h2,if_neg h7,if_neg h8] at he
     cases he
end
section
open Go.RowKit
theorem answer16 (b:Nat) (s:Tk) (F:List Nat) (c:Cm) (w:World) (h:TkAt b s F w) (hL:FormsAt w) (hn:c.name.size≤1000000) (hna:s.act.length≤100) (hnk:s.kept.length≤100) (he:(answerT s c).2.2=0) (hv:c.verb=3∨c.verb=4) :
  Calls Tryz.prog 32 #[.pointer (some ⟨b,0,none⟩),vC c] w (AnsP b (answerT s c).1 (answerT s c).2.1 (answerT s c).2.2 F w):=by
 by_cases hc:chk c≠0
 ·unfold answerT at he
  rw[if_pos hc] at he
  exact absurd he hc
 ·have hc':chk c=0:=by simpa using hc
  rcases hv with hv|hv
  ·exact answer16_v3 b s F c w h hL hn hna hnk hc' hv
  ·exact answer16_v4 b s F c w h hL hn hna hnk hc' hv
end
section
open Go.RowKit
structure TkB (w0:World) (b:Nat) (s:Tk) (F:List Nat) (w:World):Prop where
 tk:TkAt b s F w
 inv:TkI s
 bel:Below w0.heap.size w0 w
 low:∀ k∈F,w0.heap.size≤k
 lt:∀ k∈F,k<w.heap.size
theorem TkB.new {w0 w:World} {n:Int} (hb:Below w0.heap.size w0 w) (h1:1≤n) (h2:n≤64) {w':World} (h:TkAt w.heap.size (Tk.new n) [w.heap.size] w') (hb':Below w.heap.size w w'):TkB w0 w.heap.size (Tk.new n) [w.heap.size] w' :=
 ⟨h,TkI.new h1 h2,Below.step hb hb',fun k hk=>by rw[List.mem_singleton.1 hk];exact hb.size,fun k hk=>by
  obtain⟨va,vk,h⟩:=h
  rw[List.mem_singleton.1 hk]
  exact h.blt⟩
theorem TkB.step {w0 w w':World} {b:Nat} {s s':Tk} {F F':List Nat} (h:TkB w0 b s F w) (ht:TkAt b s' F' w') (hi:TkI s') (hk:Kp F F' w w'):∃ F2,TkB w0 b s' F2 w'∧Kp F F2 w w'∧Kp F' F2 w' w':=by
 obtain⟨F2,h1,h2,h3⟩:=ht.shrink
 have hk2:=hk.trans h2
 refine⟨F2,⟨h1,hi,Below.trans h.bel (hk2.below h.low h.bel.size),fun k hm=>?_,h3⟩,hk2,h2⟩
 rcases Nat.lt_or_ge k w0.heap.size with hl|hl
 ·exact absurd hm (hk2.out k (Nat.lt_of_lt_of_le hl h.bel.size) (fun hf=>Nat.lt_irrefl _ (Nat.lt_of_lt_of_le hl (h.low k hf)))).1
 ·exact hl
theorem TkB.keep {w0 w w':World} {b:Nat} {s:Tk} {F:List Nat} (h:TkB w0 b s F w) (hb:Below w.heap.size w w'):TkB w0 b s F w':=⟨h.tk.keep hb,h.inv,Below.step h.bel hb,h.low,fun k hk=>Nat.lt_of_lt_of_le (h.lt k hk) hb.size⟩
section
variable {w0 w : World} {b : Nat} {s : Tk} {F : List Nat}
def HearB (w0:World) (b:Nat) (s':Tk) (qs:List Qn) (ts:List Txt) (no:Int) (F:List Nat) (w:World) (e:Ending) (w':World):Prop :=
 ∃ q l:SlV,e=.returned (.tuple #[.slice q.1 q.2.1 q.2.2,.slice l.1 l.2.1 l.2.2,.int .i64 no])∧∃ F',TkB w0 b s' F' w'∧Kp F F' w w'∧SlF F' w' cQn q qs∧SlF F' w' cTx l ts
theorem TkB.hear (h:TkB w0 b s F w) (hL:Laid w0) (c:Cm) (hn:c.name.size≤1000000) (ht:c.text.size≤1000000) (he:(hearT s c).2.2.2=0) (h8:c.verb≠8):Calls Tryz.prog 31 #[.pointer (some ⟨b,0,none⟩),vC c] w (HearB w0 b (hearT s c).1 (hearT s c).2.1 (hearT s c).2.2.1 (hearT s c).2.2.2 F w) :=
 (hear15 b s F c w h.tk (hL.keep h.bel).forms hn h.inv.a100 h.inv.k100 h.inv.bz ht he h8).mono fun _ _ ⟨q,l,e,F',h1,h2,h3,h4⟩=>by
  obtain⟨F2,a1,a2,a3⟩:=h.step h1 (h.inv.heard c) h2
  exact⟨q,l,e,F2,a1,a2,h3.kp a3,h4.kp a3⟩
theorem TkB.answer (h:TkB w0 b s F w) (hL:Laid w0) (c:Cm) (hn:c.name.size≤1000000) (he:(answerT s c).2.2=0) (hv:c.verb=3∨c.verb=4):Calls Tryz.prog 32 #[.pointer (some ⟨b,0,none⟩),vC c] w fun e w'=>e=.returned (.tuple #[vC (answerT s c).2.1,.int .i64 (answerT s c).2.2])∧∃ F',TkB w0 b (answerT s c).1 F' w'∧Kp F F' w w' :=
 (answer16 b s F c w h.tk (hL.keep h.bel).forms hn h.inv.a100 h.inv.k100 he hv).mono fun _ _ ⟨e,F',h1,h2⟩=>by
  obtain⟨F2,a1,a2,_⟩:=h.step h1 (h.inv.answered c) h2
  exact⟨e,F2,a1,a2⟩
theorem TkB.open_ (h:TkB w0 b s F w):Calls Tryz.prog 30 #[.pointer (some ⟨b,0,none⟩)] w fun e w'=>e=.returned (.int .i64 (openT s).2)∧∃ F',TkB w0 b (openT s).1 F' w'∧Kp F F' w w' :=
 (open17 b s F w h.tk).mono fun _ _ ⟨e,F',h1,h2⟩=>by
  obtain⟨F2,a1,a2,_⟩:=h.step h1 h.inv.opened h2
  exact⟨e,F2,a1,a2⟩
theorem TkB.drop (h:TkB w0 b s F w):Calls Tryz.prog 41 #[.pointer (some ⟨b,0,none⟩)] w fun e w'=>e=.returned (.int .i64 (dropT s).2)∧∃ F',TkB w0 b (dropT s).1 F' w'∧Kp F F' w w' :=
 (drop18 b s F w h.tk h.inv.kept h.inv.a100).mono fun _ _ ⟨e,F',h1,h2⟩=>by
  obtain⟨F2,a1,a2,_⟩:=h.step h1 h.inv.dropped h2
  exact⟨e,F2,a1,a2⟩
end
end
end Go.Proofs.YtdkjgcfhepplbaaGreatDoor
