/- bulletinlaw34.known: the example. -/
import Derived.Test.YtgojaelkdpabkaaGreatDoorMNil
import Derived.Test.YtgojaelkdpabkaaGreatDoorRows
import Derived.Test.YtgojaelkdpabkaaGreatDoorMKnQ
import Derived.Lay
import Derived.ProofKit
import Derived.OpenShut
import Derived.ShutString
import Derived.ChangeOld
import Derived.Deep.Slices
import Derived.Deep.Strs
import Derived.LaidMore
import Derived.Lib.LaidTab
import Derived.Stop.Joined
import Derived.Stop.LaidErr
import Derived.Test.YtgojaelkdpabkaaGreatDoorMLaw304
import Derived.Test.YtgojaelkdpabkaaGreatDoorMTyT
namespace Go.Proofs.YtgojaelkdpabkaaGreatDoor
open Go.RowKit
section
variable (w : World)
theorem aQn_32 (x:Qn):(aQn x)[32]? = some (.int .i64 x.2.1):=by unfold aQn;rw[List.getElem?_toArray];exact cQn_hi x 0
theorem aQn_33 (x:Qn):(aQn x)[33]? = some (.int .i64 x.2.2):=by unfold aQn;rw[List.getElem?_toArray];exact cQn_hi x 1
theorem cQn_id (x:Qn):((cQn x).drop 0).take 32=cI x.1:=by
 unfold cQn
 rw[List.drop_zero,List.take_append_of_le_length (by rw[cI_length];omega),List.take_of_length_le (by rw[cI_length];omega)]
theorem eqsQn (a b:Qn):(Op.eqFields 9999 (cQn a).toArray (cQn b).toArray (Tryz.prog.fieldsOf 53).toList).run Tryz.prog w=.ok (decide (a=b)) w:=by
 simp only[Program.fieldsOf,Tryz.underlying53]
 refine Eq.trans (eqF_cons w (by decide) (idpartC w _ 0 a.1 (cQn_id a)) (idpartC w _ 0 b.1 (cQn_id b)) (eqidC w 9997 _ _) (eqF_cons w (by decide) (part_c w 3 _ 32 _ _ Tryz.underlying3 rfl (aQn_32 a)) (part_c w 3 _ 32 _ _ Tryz.underlying3 rfl (aQn_32 b)) (run_equalIn_int w 9998 3 .i64 .i64 _ _ Tryz.underlying3) (eqF_cons w (by decide) (part_c w 3 _ 33 _ _ Tryz.underlying3 rfl (aQn_33 a)) (part_c w 3 _ 33 _ _ Tryz.underlying3 rfl (aQn_33 b)) (run_equalIn_int w 9998 3 .i64 .i64 _ _ Tryz.underlying3) (eqF_nil w 9999 _ _)))) ?_
 congr 1
 rw[Bool.eq_iff_iff]
 simp only[Bool.and_eq_true,beq_iff_eq,decide_eq_true_eq,and_true]
 obtain⟨a1,a2,a3⟩:=a
 obtain⟨b1,b2,b3⟩:=b
 simp[Prod.mk.injEq]
theorem prelQn:Tryz.prog.underlying 53=some (.struct (Tryz.prog.fieldsOf 53)):=by rw[Program.fieldsOf,Tryz.underlying53]
theorem heldQn:Tryz.prog.stoodInHeld 53=false:=by kernel_rfl
theorem guardQn:Tryz.prog.eqGuardType Tryz.prog.depth 53=false:=by kernel_rfl
@[go_sem] theorem eqGuardQn (op:BinOp) (x y:Operand) (a b:Qn):(eqGuard op 53 x y (vQn a) (vQn b)).run Tryz.prog w=.ok () w:=run_eqGuard_agg w op 53 x y _ _ guardQn
@[go_sem] theorem neqQn (a b:Qn):(binOp .neq 53 (vQn a) (vQn b)).run Tryz.prog w=.ok (.bool (!decide (a=b))) w:=by
 unfold vQn
 rw[run_neq_struct,run_equalIn_struct w 9999 53 _ _ prelQn heldQn,eqsQn]
 rfl
end
def idB (n:UInt8):Id:=⟨n :: List.replicate 31 0,by rw[List.length_cons,List.length_replicate]⟩
def cOff1:Cm:=⟨2,⟨#[]⟩,idB 1,3,0,0,0,⟨#[]⟩⟩
def cWant1:Cm:=⟨3,⟨#[]⟩,idB 1,0,0,0,0,⟨#[]⟩⟩
def cData1:Cm:=⟨7,⟨#[]⟩,idB 1,0,0,0,0,⟨#[97,98,99]⟩⟩
def cDone1:Cm:=⟨8,⟨#[]⟩,idB 1,0,0,0,0,⟨#[]⟩⟩
theorem chk_off1:chk cOff1=0:=by unfold chk chkF psC;simp only[isE];decide +kernel
theorem chk_want1:chk cWant1=0:=by unfold chk chkF psC;simp only[isE];decide +kernel
theorem chk_data1:chk cData1=0:=by unfold chk chkF psC crL;simp only[isE];decide +kernel
theorem chk_done1:chk cDone1=0:=by unfold chk chkF psC;simp only[isE];decide +kernel
def tkA:Tk:=⟨2,true,[],[]⟩
def tkB:Tk:=⟨2,true,[⟨idB 1,3,1,⟨#[]⟩⟩],[]⟩
def tkC:Tk:=⟨2,true,[⟨idB 1,3,2,⟨#[]⟩⟩],[]⟩
def tkD:Tk:=⟨2,true,[⟨idB 1,3,2,⟨#[97,98,99]⟩⟩],[]⟩
def tkE:Tk:=⟨2,true,[⟨idB 1,3,3,⟨#[97,98,99]⟩⟩],[]⟩
theorem ex_off:offerT tkA cOff1=(tkB,[(idB 1,3,0)],0):=rfl
theorem ex_want:answerT tkB cWant1=(tkC,cWant1,0):=by
 unfold answerT
 rw[if_neg (by rw[chk_want1];decide),if_neg (by decide)]
 rfl
theorem ex_data:dataT tkC cData1=(tkD,0):=rfl
theorem ex_done:doneT tkD cDone1=(tkE,[(idB 1,⟨#[97,98,99]⟩)],0):=rfl
theorem kn_off (b:Nat) (F:List Nat) (w:World) (h:TkAt b tkA F w) (hL:FormsAt w):Calls Tryz.prog 15 #[.pointer (some ⟨b,0,none⟩),vC cOff1] w (HearP b tkB [(idB 1,3,0)] [] 0 F w) :=
 hear15_go b _ _ _ _ _ F cOff1 w h hL (by decide) rfl chk_off1 37 rfl (enters_of Tryz.func37 (by kernel_rfl) rfl) (fun u hu=>by
  have e:=offer37_none b tkA F cOff1 u hu (by decide) (by decide) rfl
  rw[ex_off] at e
  exact e)
theorem kn_data (b:Nat) (F:List Nat) (w:World) (h:TkAt b tkC F w) (hL:FormsAt w):Calls Tryz.prog 15 #[.pointer (some ⟨b,0,none⟩),vC cData1] w (HearP b tkD [] [] 0 F w) :=
 hear15_go b _ _ _ _ _ F cData1 w h hL (by decide) rfl chk_data1 38 rfl (enters_of Tryz.func38 (by kernel_rfl) rfl) (fun u hu=>by
  have e:=data38 b tkC F cData1 u hu (by decide) (by decide) (by decide)
  rw[ex_data] at e
  exact e)
theorem kn_done (b:Nat) (F:List Nat) (w:World) (h:TkAt b tkD F w) (hL:FormsAt w):Calls Tryz.prog 15 #[.pointer (some ⟨b,0,none⟩),vC cDone1] w (HearP b tkE [] [(idB 1,⟨#[97,98,99]⟩)] 0 F w) :=
 hear15_go b _ _ _ _ _ F cDone1 w h hL (by decide) rfl chk_done1 39 rfl (enters_of Tryz.func39 (by kernel_rfl) rfl) (fun u hu=>by
  have e:=done39 b tkD F cDone1 u hu (by decide) (by decide) (by decide)
  rw[ex_done] at e
  exact e)
section
variable (w : World)
@[go_sem] theorem bl_id1:(blA 30 #[(0,.int .u8 1)]).run Tryz.prog w=.ok (vI (idB 1)) w:=by kernel_rfl
@[go_sem] theorem bl_off1:(blA 32 #[(0,.int .i64 2),(2,vI (idB 1)),(3,.int .i64 3)]).run Tryz.prog w=.ok (vC cOff1) w:=by kernel_rfl
@[go_sem] theorem bl_want1:(blA 32 #[(0,.int .i64 3),(2,vI (idB 1))]).run Tryz.prog w=.ok (vC cWant1) w:=by kernel_rfl
@[go_sem] theorem bl_data1:(blA 32 #[(0,.int .i64 7),(2,vI (idB 1)),(7,.string ⟨#[97,98,99]⟩)]).run Tryz.prog w=.ok (vC cData1) w:=by kernel_rfl
@[go_sem] theorem bl_done1:(blA 32 #[(0,.int .i64 8),(2,vI (idB 1))]).run Tryz.prog w=.ok (vC cDone1) w:=by kernel_rfl
@[go_sem] theorem bl_qn1:(blA 53 #[(0,vI (idB 1)),(1,.int .i64 3)]).run Tryz.prog w=.ok (vQn (idB 1,3,0)) w:=by kernel_rfl
end
theorem knownL (w:World) (hL:Laid w):Calls Tryz.prog 36 #[] w fun e w'=>e=.returned (.bool true)∧Below w.heap.size w w':=by
 have HL:=Lib.hid hL
 clear hL
 go_enter Tryz.func36,Tryz.ntmps36
 go_wp2_with (go_at_call 62;refine (known11 w HL.out).mono ?_;rintro e w2 ⟨rfl,hb2⟩;have H2:=Lib.hid hb2;clear hb2)
 go_ret
 exact⟨rfl,H2.out⟩
theorem kn_below {F:List Nat} {w w2 w':World} {b:Nat} (hb:w.heap.size=b) (h:Below w.heap.size w w2) (hk:Kp [b] F w2 w'):Below w.heap.size w w':=by
 have h2:Below w.heap.size w2 w':=hk.below (fun k hm=>by rw[List.mem_singleton.1 hm];exact Nat.le_of_eq hb) h.size
 exact Below.trans h h2
theorem qn_one {F:List Nat} {w:World} {q:SlV} {x:Qn} (h:SlF F w cQn q [x]):∃ ad c,q=(some ad,1,c)∧okA w ad 34=true∧rdA w ad 34=vQn x:=by
 obtain⟨A,n,c⟩:=q
 obtain⟨h1,h2,h3, -⟩:=h
 obtain⟨ad,e,hat⟩:=h3 (by simp)
 cases e
 have hn:n=1:=h1.symm
 subst hn
 have hat2:At w ad (cQn x):=by simpa using hat
 have q1:=hat2.ok
 have q2:=hat2.rd
 rw[cQn_length] at q1 q2
 exact⟨ad,c,rfl,q1,q2⟩
theorem tx_one {F:List Nat} {w:World} {q:SlV} {x:Txt} (h:SlF F w cTx q [x]):∃ ad c,q=(some ad,1,c)∧At w ad (cTx x):=by
 obtain⟨A,n,c⟩:=q
 obtain⟨h1,h2,h3, -⟩:=h
 obtain⟨ad,e,hat⟩:=h3 (by simp)
 cases e
 have hn:n=1:=h1.symm
 subst hn
 exact⟨ad,c,rfl,by simpa using hat⟩
theorem TkAt.shrink {b:Nat} {s:Tk} {F:List Nat} {w:World} (h:TkAt b s F w):∃ F2,TkAt b s F2 w∧Kp F F2 w w∧∀ k∈F2,k<w.heap.size:=by
 obtain⟨va,vk,h⟩:=h
 obtain⟨F2,h1,h2,h3⟩:=h.shrink
 exact⟨F2,⟨va,vk,h1⟩,h2,h3⟩
theorem hold_c (w5:World) {F5:List Nat} (hF:∀ k∈F5,k<w5.heap.size) (d:Cm):∃ r W,w5.heap.size=r∧rowOk (w5.alloc (.cells (aC zC) 32)) r 39=true∧(w5.alloc (.cells (aC zC) 32)).setRow r (aC d)=W∧Row W r (cC d) 32∧Below w5.heap.size w5 W∧r∉F5:=by
 have hr:=Row.new w5 (cC zC) 32
 refine⟨_,_,rfl,hr.rowOk (cC_length zC),rfl,?_,Below.setRow' (below_alloc _ _) (Nat.le_refl _) _,fun hm=>Nat.lt_irrefl _ (hF _ hm)⟩
 exact hr.setRow (cC d)
set_option maxRecDepth 100000 in
set_option maxHeartbeats 800000 in
theorem known34 (w:World) (hL:Laid w):Calls Tryz.prog 11 #[] w fun e w'=>e=.returned (.bool true)∧Below w.heap.size w w':=by
 have HL:=Lib.hid hL
 clear hL
 obtain⟨b,hb⟩:∃ b,w.heap.size=b:=⟨_,rfl⟩
 have HBB:=Lib.hid hb
 have HO:=Lib.hid (show openT (Tk.new 2)=(tkA,0) from rfl)
 have HX2:=Lib.hid ex_want
 go_enter Tryz.func11,Tryz.ntmps11
 go_wp2_with (first
  | (go_at_call 15;refine (kn_done b F7 w7 H7.out.1 (HL.out.keep (kn_below HBB.out H2.out.2 H7.out.2.1)).forms).mono ?_;rintro e w8 ⟨q8,l8,rfl,F8,hT8,hK8, -,hl8⟩;obtain⟨ad8,c8,rfl,hat8⟩:=tx_one hl8;have s8:w8.cell? ⟨ad8.block,ad8.off+32,none⟩=some (.string ⟨#[97,98,99]⟩):=hat8.2 32 _ rfl;have j8:w8.cell? ⟨r6,0,none⟩=some (.int .i64 3):=(H7.out.2.2.1.kp hK8 H7.out.2.2.2).cell 0;have H8:=Lib.hid (H7.out.2.1.trans hK8);clear hT8 hK8 hl8 hat8)
  | (go_at_call 15;refine (kn_data b F6 W6 H6.out.1 (HL.out.keep (kn_below HBB.out H2.out.2 H6.out.2.1)).forms).mono ?_;rintro e w7 ⟨q7,l7,rfl,F7,hT7,hK7, -, -⟩;have H7:=Lib.hid (And.intro hT7 (And.intro (H6.out.2.1.trans hK7) (And.intro (H6.out.2.2.1.kp hK7 H6.out.2.2.2) (hK7.out r6 H6.out.2.2.1.lt H6.out.2.2.2).1)));clear hT7 hK7)
  | (go_at_call 16;refine (answer16_v3 b tkB F4 cWant1 w4 H4.out.1 (HL.out.keep (kn_below HBB.out H2.out.2 H4.out.2)).forms (by decide) (by decide) (by decide) chk_want1 rfl).mono ?_;rw[HX2.out];rintro e w5 ⟨rfl,F5,hT5,hK5⟩;obtain⟨F6,hT6,hK6,hF6⟩:=hT5.shrink;obtain⟨r6,W6,hr6,ro6,hW6,hrow6,hb6,hn6⟩:=hold_c w5 hF6 cWant1;have H6:=Lib.hid (And.intro (hT6.keep hb6) (And.intro (((H4.out.2.trans hK5).trans hK6).trans (Kp.of_below hb6)) (And.intro hrow6 hn6)));clear hT5 hK5 hT6 hK6 hF6 hrow6 hb6 hn6)
  | (go_at_call 15;refine (kn_off b F3 w3 H3.out.1 (HL.out.keep (kn_below HBB.out H2.out.2 H3.out.2)).forms).mono ?_;rintro e w4 ⟨q4,l4,rfl,F4,hT4,hK4,hq4, -⟩;obtain⟨ad4,c4,rfl,r41,r42⟩:=qn_one hq4;have H4:=Lib.hid (And.intro hT4 (H3.out.2.trans hK4));clear hT4 hK4 hq4)
  | (go_at_call 17;refine (open17 b (Tk.new 2) [b] w2 H2.out.1).mono ?_;rw[HO.out];rintro e w3 ⟨rfl,F3,hT3,hK3⟩;have H3:=Lib.hid (And.intro hT3 hK3);clear hT3 hK3)
  | (go_at_call 36;refine (knownL w1 (HL.out.keep H1.out.2)).mono ?_;rintro e w2 ⟨rfl,hb2⟩;have H2:=Lib.hid (And.intro (H1.out.1.keep hb2) (Below.step H1.out.2 hb2));clear hb2)
  | (go_at_call 13;refine (new13_ok 2 (by decide) (by decide) w).mono ?_;rintro e w1 ⟨rfl,hT1,hb1⟩;rw[hb];rw[hb] at hT1;have H1:=Lib.hid (And.intro hT1 hb1);clear hT1 hb1))
 go_ret
 exact⟨rfl,kn_below HBB.out H2.out.2 H8.out⟩
section
open Go.ChangeShapes Go.WideShapes Go.ChangeAt Go.RowKit Go.Deep
theorem ownD:ownKnob Tryz.prog.godebug=none:=by kernel_rfl
theorem laidOutD:laidOutB Tryz.prog=true:=by kernel_rfl
def lst:List (String×DataW Unit):=[("math/bits.deBruijn32tab",Rows.laid_math_bits_deBruijn32tab),("math/bits.deBruijn64tab",Rows.laid_math_bits_deBruijn64tab),("internal/strconv.uint64pow10",Rows.laid_internal_strconv_uint64pow10),("unicode/utf8.acceptRanges",Rows.laid_unicode_utf8_acceptRanges),("bulletin/command.forms",Rows.laid_bulletin_command_forms),("unicode/utf8.first",Rows.laid_unicode_utf8_first)]
theorem wrapLS {H:Type} {enc:TypeId×Value→H} {a:Assume} {C:Checked} {os:Os} {f:FuncId} {fn:Func} {s:ChangeSpec} {conds:List PathCond} {apart fresh handsOn again:Bool} {X:World→Array Value→Prop}
  (hX:∀ (w w':World) (args:Array Value),w.heap=w'.heap→X w args→X w' args)
  (own:ownKnob C.prog.godebug=none) (started:os.Started) (noInit:C.prog.inits.idxOf? f=none) (hfn:C.prog.funcs[f]? = some fn)
  (witness:∃ (w:World) (tape:Tape) (i:Input),w.os=os∧(w.forCall tape i).Shaped C.prog∧i.vars=[]∧Input.okWide C.prog (w.forCall tape i) .any w.heap.size f i ∧
   ((s.pre enc C.prog fn conds apart (w.forCall tape i).memory i.args∧X (w.forCall tape i).memory i.args)∧sizedMet enc C.prog fn (OpenSpec.ofChange s) apart (w.forCall tape i).memory i.args)∧a.holds C.prog (lone (Frame.enter C.prog f i.args .normal) [] (w.forCall tape i)))
  (contract:∀ (W:World) (base:Nat) (args:Array Value) (ds gs:List (DataW H)) (before:List MemPlace),
   (∀ (j:Nat) t v,fn.params[j]? = some t→args[j]? = some v→Value.okWide C.prog W .any base t v) →
   DataW.Whole enc C.prog fn.params.toList s.vars apart W args.toList ds gs before →
   X W args→W.ShapedOpen C.prog →
   Calls C.prog f args W fun e W'=>∃ v,e=.returned v∧s.post enc C.prog fn apart fresh handsOn again W args v W') :
  ReturnsInHanded a C os f .any (fun w args=>(s.pre enc C.prog fn conds apart w args∧X w args)∧sizedMet enc C.prog fn (OpenSpec.ofChange s) apart w args) (s.post enc C.prog fn apart fresh handsOn again):=by
 refine returnsInHanded_of_calls own started noInit witness ?_
 intro w tape i _ hsh _ hok hpre _
 obtain⟨_,_,_,fn',hfn',_,_,_,_,hval⟩:=hok
 obtain rfl:fn'=fn:=Option.some.inj (hfn'.symm.trans hfn)
 obtain⟨⟨⟨ds,gs,before,hw,_⟩,hx⟩,_⟩:=hpre
 refine (contract (w.forCall tape i) w.heap.size i.args ds gs before hval (DataW.Whole.of_heap (w':=w.forCall tape i) (by rfl) hw) (hX _ _ _ (by rfl) hx) hsh).mono fun e W' ⟨v,he,hp⟩=>?_
 subst he
 exact ChangeSpec.post_blind hp
set_option maxRecDepth 100000 in
theorem door_met (os:Os) (args:Array Value):laidMetH Tryz.prog lst ((World.laidAll Tryz.prog os lst).forCall (fun _ _=>0) ⟨#[],args,[]⟩).memory:=by
 rw[MakeChecks.laidMetH_plain _ _ _ (by kernel_rfl)]
 exact laidMet_laidAll args (by kernel_rfl) (by kernel_rfl)
section
variable {H : Type} {enc : TypeId × Value → H} {P : Program} {w : World} {base : Nat} {sp : Nat → Bool} {held : Bool}
theorem cells_of_rows {α:Type} {fuel:Nat} {t e:TypeId} {n c:Nat} {cs:List Value} {p:List MemPlace} (ht:P.underlying t=some (.array n e)) (hce:P.cellsOf e=c) (hct:P.cellsOf t=n * c) (rows:List α) (dat:α→DataW H) (cel:α→List Value)
  (hrow:∀ (a:α) (f:Nat) (ds:List Value) (q:List MemPlace),DataW.trod enc P w base sp held f e ds=some (dat a,q)→ds=cel a)
  (h:DataW.trod enc P w base sp held fuel t cs=some (.agg (rows.map dat),p)):cs=rows.flatMap cel:=by
 cases fuel with
 | zero=>simp[DataW.trod] at h
 | succ fuel =>
  simp only[DataW.trod,ht,hce,hct] at h
  split at h
  ·rename_i hl
   obtain⟨xs,hm,hx⟩:=Option.map_eq_some_iff.1 h
   have hxs:xs.map (·.1)=rows.map dat:=by
    have:=congrArg Prod.fst hx
    simpa using this
   have hxl:xs.length=n:=by simpa using Lib.mapM_length hm
   have hrl:rows.length=n:=by
    have:=congrArg List.length hxs
    simp at this
    omega
   have hel:∀ i (hi:i<rows.length),(cs.drop (i * c)).take c=cel rows[i]:=by
    intro i hi
    obtain⟨b,hb,hf⟩:=Lib.mapM_at hm i i (by simp[← hrl,hi])
    have h2:(xs.map (·.1))[i]? = some b.1:=by simp[hb]
    rw[hxs,List.getElem?_map,List.getElem?_eq_getElem hi] at h2
    have h3:dat rows[i]=b.1:=by simpa using h2
    refine hrow rows[i] fuel _ b.2 ?_
    rw[hf,h3]
   clear h hm hx hxs hxl
   subst hrl
   clear ht hct
   induction rows generalizing cs with
   | nil =>
    have:cs.length=0:=by simpa using hl
    simpa using List.eq_nil_of_length_eq_zero this
   | cons a r ih =>
    have h0:=hel 0 (by simp)
    have h1:=ih (cs:=cs.drop c) (fun i hi=>by
     have:=hel (i+1) (by simp;omega)
     rw[Nat.succ_mul] at this
     rw[List.drop_drop,show c+i * c=i * c+c by omega]
     exact this) (by rw[List.length_drop,hl,List.length_cons,Nat.succ_mul];omega)
    rw[List.flatMap_cons,← h1]
    rw[Nat.zero_mul,List.drop_zero] at h0
    have h4:cel a=cs.take c:=h0.symm
    rw[h4,List.take_append_drop]
  ·cases h
end
def formsD:List (List UInt8×Int×Int):=formsL.map fun x=>(x.1.data.toList,x.2.1,x.2.2)
def formD {H:Type} (x:List UInt8×Int×Int):DataW H:=.agg [.lit (.string x.1),.lit (.int .i64 x.2.1),.lit (.int .i64 x.2.2)]
def formV (x:List UInt8×Int×Int):List Value:=cF (⟨x.1.toArray⟩,x.2.1,x.2.2)
set_option maxRecDepth 100000 in
theorem form_of_trod {H:Type} {enc:TypeId×Value→H} {w:World} {base:Nat} {sp:Nat→Bool} {held:Bool} (x:List UInt8×Int×Int) (f:Nat) (ds:List Value) (q:List MemPlace) (h:DataW.trod enc Tryz.prog w base sp held f 101 ds=some (formD x,q)):ds=formV x:=by
 obtain⟨y0,y1,y2,n,hx,hl,h0,h1,h2⟩:=trod_struct3 Tryz.underlying101 h
 have hc:Tryz.prog.cellsOf 101=3:=by kernel_rfl
 have c9:Tryz.prog.cellsOf 9=1:=by kernel_rfl
 have c3:Tryz.prog.cellsOf 3=1:=by kernel_rfl
 rw[hc] at hl
 match ds,hl with
 | [a0,a1,a2],_ =>
  simp only[c9,c3,List.drop_zero,List.drop_succ_cons,List.take_succ_cons,List.take_zero] at h0 h1 h2
  obtain⟨s,hs,rfl,_⟩:=DataW.trod_string Tryz.underlying9 h0
  obtain⟨n1,hn1,rfl,_⟩:=DataW.trod_int Tryz.underlying3 h1
  obtain⟨n2,hn2,rfl,_⟩:=DataW.trod_int Tryz.underlying3 h2
  simp only[List.cons.injEq,and_true] at hs hn1 hn2
  subst hs hn1 hn2
  unfold formD at hx
  simp only[Prod.mk.injEq,DataW.agg.injEq,List.cons.injEq,DataW.lit.injEq,Lit.string.injEq,Lit.int.injEq,true_and,and_true] at hx
  obtain⟨⟨e1,e2,e3⟩,_⟩:=hx
  unfold formV cF
  rw[e1,e2,e3]
theorem at_var {W:World} {name:String} {g:Nat} {cs:Array Value} (hg:Tryz.prog.globalNamed name=some g) (h:W.var? Tryz.prog name=some cs) (ds:List Value) (hd:cs.toList=ds) (hne:ds≠[]):At W ⟨g,0,none⟩ ds:=by
 have hc:∀ i,W.cell? ⟨g,i,none⟩=ds[i]?:=fun i=>by
  rw[World.var?_cell hg h i,← hd]
  simp
 obtain⟨v,r,rfl⟩:∃ v r,ds=v :: r:=by
  cases ds with
  | nil=>exact absurd rfl hne
  | cons v r=>exact⟨v,r,rfl⟩
 refine⟨block_lt_of_cell (hc 0),fun j u hj=>?_⟩
 rw[add_off,Nat.zero_add,hc,hj]
theorem forms_name:Tryz.prog.globalNamed "bulletin/command.forms"=some 0:=by kernel_rfl
theorem pow_name:Tryz.prog.globalNamed "internal/strconv.uint64pow10"=some 2:=by kernel_rfl
theorem laid_of {W:World} (h:laidMetH Tryz.prog lst W) (hsh:W.ShapedOpen Tryz.prog):Laid W:=by
 obtain⟨m,hm⟩:=Tryz.laysM143.s1_3 W hsh
 rw[MakeChecks.laidMetH_plain _ _ _ (by kernel_rfl)] at h
 have h3:laidMet Tryz.prog (("internal/strconv.uint64pow10",Lib.tabData .u64 Lib.pow10Tab) :: [("unicode/utf8.acceptRanges",Rows.laid_unicode_utf8_acceptRanges),("bulletin/command.forms",Rows.laid_bulletin_command_forms),("unicode/utf8.first",Rows.laid_unicode_utf8_first)]) W:=h.tail.tail
 have h5:laidMet Tryz.prog [("bulletin/command.forms",Rows.laid_bulletin_command_forms),("unicode/utf8.first",Rows.laid_unicode_utf8_first)] W:=h3.tail.tail
 obtain⟨ps,⟨g,t,cs,fuel,p,q,hg,ht,hvar,hd,_,_⟩,_⟩:=h5
 obtain rfl:=Option.some.inj (forms_name.symm.trans hg)
 obtain rfl:102=t:=Option.some.inj ((show (Tryz.prog.globals[0]?).map (·.type)=some 102 by kernel_rfl).symm.trans ht)
 have e1:=cells_of_rows Tryz.underlying102 (c:=3) (by kernel_rfl) (by kernel_rfl) formsD formD formV form_of_trod hd
 exact⟨fun _=>⟨_,rfl,at_var forms_name hvar _ e1 (by decide)⟩,⟨m,hm⟩,Lib.tabIs_of_head (t:=204) (e:=51) (n:=20) pow_name (by kernel_rfl) (by kernel_rfl) (by kernel_rfl) (by kernel_rfl) (by kernel_rfl) h3⟩
/-! ### arguments -/
theorem cells22:Tryz.prog.cellsOf 29=32:=by kernel_rfl
theorem cells5:Tryz.prog.cellsOf 5=1:=by kernel_rfl
section
variable {H : Type} {enc : TypeId × Value → H} {w : World} {base : Nat} {spare : Nat → Bool} {held : Bool}
theorem byte_of_trod {fuel:Nat} {cs:List Value} {x:DataW H×List MemPlace} (h:DataW.trod enc Tryz.prog w base spare held fuel 5 cs=some x):∃ b:UInt8,cs=[cB b]:=by
 obtain⟨n,rfl,_,hw⟩:=DataW.trod_int Tryz.underlying5 h
 simp[Lit.wf,IntKind.min,IntKind.max,IntKind.signed,IntKind.bits] at hw
 refine⟨UInt8.ofNat n.toNat,?_⟩
 have e:((UInt8.ofNat n.toNat).toNat:Int)=n:=by
  rw[UInt8.toNat_ofNat']
  omega
 unfold cB
 rw[e]
theorem id_of_trod {t:TypeId} {fuel:Nat} {cs:List Value} {x:DataW H×List MemPlace} (ht:Tryz.prog.underlying t=some (.array 32 5)) (hc:Tryz.prog.cellsOf t=32) (h:DataW.trod enc Tryz.prog w base spare held fuel t cs=some x) :
  ∃ y:Id,cs=cI y:=by
 obtain⟨xs,m,_,_,hl,hxs,hel⟩:=DataW.trod_array ht h
 rw[hc] at hl
 have hb:∀ i,i<32→∃ b:UInt8,(cs.drop i).take 1=[cB b]:=by
  intro i hi
  have h1:=hel i hi
  rw[cells5,Nat.mul_one,List.getElem?_eq_getElem (by omega)] at h1
  exact byte_of_trod h1
 obtain⟨f,hf⟩:=choose_lt (α:=UInt8) hb
 refine⟨⟨(List.range 32).map f,by simp⟩,?_⟩
 unfold cI
 refine List.ext_getElem (by simp[hl]) fun i h1 h2=>?_
 have h3:=hf i (by omega)
 rw[List.drop_eq_getElem_cons h1,List.take_succ_cons] at h3
 simp only[List.cons.injEq] at h3
 simp[h3.1]
end
end
section
open Go.ChangeShapes Go.WideShapes Go.ChangeAt Go.RowKit Go.Deep
theorem drop_dec {α:Type} (cs:List α) (k n:Nat):cs.drop k=(cs.drop k).take n++cs.drop (k+n):=by
 rw[← List.drop_drop,List.take_append_drop]
theorem i64_of_wf {n:Int} (hw:(Lit.int .i64 n).wf=true):i64 n:=by
 simp[Lit.wf,IntKind.min,IntKind.max,IntKind.signed,IntKind.bits] at hw
 unfold i64
 omega
section
variable {H : Type} {enc : TypeId × Value → H} {w : World} {base : Nat} {spare : Nat → Bool} {held : Bool}
theorem rc_of_trod {fuel:Nat} {cs:List Value} {x:DataW H×List MemPlace} (h:DataW.trod enc Tryz.prog w base spare held fuel 35 cs=some x):∃ c:Cm,cs=cC c∧c.ints:=by
 obtain⟨xs,n,_,rfl,hl,hlen,hf⟩:=DataW.trod_struct Tryz.underlying35 h
 rw[show Tryz.prog.cellsOf 35=39 by kernel_rfl] at hl
 have c3:Tryz.prog.cellsOf 3=1:=by kernel_rfl
 have c9:Tryz.prog.cellsOf 9=1:=by kernel_rfl
 match xs,hlen with
 | [y0,y1,y2,y3,y4,y5,y6,y7],_ =>
  have f0:DataW.trod enc Tryz.prog w base spare held n 3 ((cs.drop 0).take (Tryz.prog.cellsOf 3))=some y0:=by simpa using hf 0 _ rfl
  have f1:DataW.trod enc Tryz.prog w base spare held n 9 ((cs.drop 1).take (Tryz.prog.cellsOf 9))=some y1:=by simpa using hf 1 _ rfl
  have f2:DataW.trod enc Tryz.prog w base spare held n 29 ((cs.drop 2).take (Tryz.prog.cellsOf 29))=some y2:=by simpa using hf 2 _ rfl
  have f3:DataW.trod enc Tryz.prog w base spare held n 3 ((cs.drop 34).take (Tryz.prog.cellsOf 3))=some y3:=by simpa using hf 3 _ rfl
  have f4:DataW.trod enc Tryz.prog w base spare held n 3 ((cs.drop 35).take (Tryz.prog.cellsOf 3))=some y4:=by simpa using hf 4 _ rfl
  have f5:DataW.trod enc Tryz.prog w base spare held n 3 ((cs.drop 36).take (Tryz.prog.cellsOf 3))=some y5:=by simpa using hf 5 _ rfl
  have f6:DataW.trod enc Tryz.prog w base spare held n 3 ((cs.drop 37).take (Tryz.prog.cellsOf 3))=some y6:=by simpa using hf 6 _ rfl
  have f7:DataW.trod enc Tryz.prog w base spare held n 9 ((cs.drop 38).take (Tryz.prog.cellsOf 9))=some y7:=by simpa using hf 7 _ rfl
  rw[c3] at f0 f3 f4 f5 f6
  rw[c9] at f1 f7
  rw[cells22] at f2
  obtain⟨n0,h0,_⟩:=DataW.trod_int Tryz.underlying3 f0
  obtain⟨s1,h1,_⟩:=DataW.trod_string Tryz.underlying9 f1
  obtain⟨y,h2⟩:=id_of_trod Tryz.underlying29 cells22 f2
  obtain⟨n3,h3,_,w3⟩:=DataW.trod_int Tryz.underlying3 f3
  obtain⟨n4,h4,_,w4⟩:=DataW.trod_int Tryz.underlying3 f4
  obtain⟨n5,h5,_,w5⟩:=DataW.trod_int Tryz.underlying3 f5
  obtain⟨n6,h6,_,w6⟩:=DataW.trod_int Tryz.underlying3 f6
  obtain⟨s7,h7,_⟩:=DataW.trod_string Tryz.underlying9 f7
  refine⟨⟨n0,s1,y,n3,n4,n5,n6,s7⟩,?_,⟨i64_of_wf w3,i64_of_wf w4,i64_of_wf w5,i64_of_wf w6⟩⟩
  have e0:=drop_dec cs 0 1
  have e1:=drop_dec cs 1 1
  have e2:=drop_dec cs 2 32
  have e3:=drop_dec cs 34 1
  have e4:=drop_dec cs 35 1
  have e5:=drop_dec cs 36 1
  have e6:=drop_dec cs 37 1
  have e7:=drop_dec cs 38 1
  rw[List.drop_eq_nil_of_le (show cs.length≤38+1 by omega),List.append_nil] at e7
  simp only[Nat.reduceAdd] at e0 e1 e2 e3 e4 e5 e6
  rw[h0,e1,h1,e2,h2,e3,h3,e4,h4,e5,h5,e6,h6,e7,h7,List.drop_zero] at e0
  exact e0
end
end
open Go.ChangeShapes Go.WideShapes Go.ChangeAt Go.RowKit Go.Deep
section
variable {H : Type} {enc : TypeId × Value → H} {w : World}
theorem sl_of_trod {α:Type} [Inhabited α] (ec:α→List Value) (s:Nat) (hs0:0<s) (hs:∀ x,(ec x).length=s) {t e:TypeId} {a0:Option Addr} {n c:Nat} {d:DataW H} {p:List MemPlace} (ht:Tryz.prog.underlying t=some (.slice e)) (hc:Tryz.prog.cellsOf e=s)
  (he:∀ {fuel:Nat} {cs:List Value} {x:DataW H×List MemPlace},DataW.trod enc Tryz.prog w 0 (fun _=>true) true fuel e cs=some x→∃ y:α,cs=ec y)
  (h:DataW.Trod enc Tryz.prog w 0 (fun _=>true) true t (.slice a0 n c) d p):∃ xs:List α,xs.length=n∧n≤c∧c≤maxLen∧Sl w ec a0 xs:=by
 obtain⟨fuel,hf⟩:=h
 rcases open_slice ht hf with⟨hcs,_⟩|⟨a,len,cap,m,k,D,Pl,hcs,_,hl,hm,hmm,_,hx⟩
 ·simp[Value.cells] at hcs
  obtain⟨rfl,rfl,rfl⟩:=hcs
  exact⟨[],rfl,Nat.le_refl _,Nat.zero_le _,Sl.nil _ _ _⟩
 ·simp[Value.cells] at hcs
  obtain⟨rfl,rfl,rfl⟩:=hcs
  simp only[if_true] at hmm
  subst hmm
  have hid:∀ i,i<n→∃ y:α,∀ j u,(ec y)[j]? = some u→w.cell? (a.add (i * s+j))=some u:=by
   intro i hi
   obtain⟨cs',h1,h2⟩:=hx i (by omega)
   rw[hc] at h1
   obtain⟨y,rfl⟩:=he h2
   obtain⟨_,_,h3⟩:=World.cells?_some h1
   refine⟨y,fun j u hu=>?_⟩
   have hj:j<s:=by have:=(List.getElem?_eq_some_iff.1 hu).1;rwa[hs] at this
   have:=h3 j hj
   rw[Go.Deep.add_add] at this
   rw[this,hu]
  obtain⟨f,hf'⟩:=choose_lt hid
  refine⟨(List.range n).map f,by simp,hl,hm,fun hne=>⟨a,rfl,?_,?_⟩⟩
  ·have hn:0<n:=by
    rcases Nat.eq_zero_or_pos n with h0|h0
    ·subst h0;exact absurd rfl hne
    ·exact h0
   have h1:=hf' 0 hn 0 ((ec (f 0))[0]'(by rw[hs];omega)) (List.getElem?_eq_getElem _)
   have:=block_lt_of_cell h1
   rwa[block_of_add] at this
  ·intro j u hu
   have hlen:((List.range n).map f).length=n:=by simp
   have hj:j<n * s:=by
    have:=(List.getElem?_eq_some_iff.1 hu).1
    rwa[flatMap_length ec s hs,hlen] at this
   have hk:j / s<n:=Nat.div_lt_of_lt_mul (by rwa[Nat.mul_comm] at hj)
   have e1:j / s * s+j % s=j:=Nat.div_add_mod' j s
   have e2:=flatMap_getElem ec s hs ((List.range n).map f) (j / s) (by rw[hlen];exact hk) (j % s) (Nat.mod_lt _ hs0)
   rw[e1,hu] at e2
   have e3:((List.range n).map f)[j / s]'(by rw[hlen];exact hk)=f (j / s):=by simp
   rw[e3] at e2
   have:=hf' (j / s) hk (j % s) u e2.symm
   rwa[e1] at this
def CmI:={ c:Cm // c.ints }
instance:Inhabited CmI:=⟨⟨zC,⟨⟨by decide,by decide⟩,⟨by decide,by decide⟩,⟨by decide,by decide⟩,⟨by decide,by decide⟩⟩⟩⟩
end
section
open Go.RowKit
def okOp (o:Opn):Bool:=decide (o.cmd.text.size≤200) && decide (o.cmd.name.size≤100)
def smallL (l:List Opn):Bool:=l.all okOp && decide (l.length≤60)
theorem Sl.op {w:World} {A:Option Addr} {xs:List Opn} (h:Sl w cO A xs) {k:Nat} (hk:k<xs.length):∃ ad,A=some ad∧At w (ad.add (k * 41)) (cO xs[k]):=by
 obtain⟨ad,rfl,hat⟩:=Sl.at_ cO_length h hk
 exact⟨ad,rfl,hat⟩
theorem cO_cmd (x:Opn) (k:Nat) (v:Value) (h:(cC x.cmd)[k]? = some v):(cO x)[1+k]? = some v:=by
 unfold cO
 rw[Nat.add_comm,List.getElem?_cons_succ,List.getElem?_append_left (List.getElem?_eq_some_iff.1 h).1]
 exact h
theorem small_no {l:List Opn} {k:Nat} (hk:k<l.length) {p:Opn} (hp:l[k]=p) (h:¬ (p.cmd.text.size≤200∧p.cmd.name.size≤100)):smallL l=false:=by
 unfold smallL
 rw[Bool.and_eq_false_iff]
 left
 rw[List.all_eq_false]
 refine⟨p,hp▸List.getElem_mem hk,?_⟩
 unfold okOp
 rw[Bool.and_eq_true,decide_eq_true_eq,decide_eq_true_eq]
 exact h
theorem small_yes {l:List Opn} (h:∀ j (hj:j<l.length),okOp l[j]=true):smallL l=decide (l.length≤60):=by
 unfold smallL
 have h1:l.all okOp=true:=by
  rw[List.all_eq_true]
  intro x hx
  obtain⟨j,hj,rfl⟩:=List.mem_iff_getElem.1 hx
  exact h j hj
 rw[h1,Bool.true_and]
set_option maxRecDepth 100000 in
set_option maxHeartbeats 1600000 in
theorem small12 (A:Option Addr) (c:Nat) (l:List Opn) (w:World) (hl:Sl w cO A l) (hn:l.length≤9223372036854775807) :
  Calls Tryz.prog 12 #[.slice A l.length c] w fun e w'=>e=.returned (.bool (smallL l))∧Below w.heap.size w w':=by
 have HS:=Lib.hid hl
 clear hl
 go_enter Tryz.func12,Tryz.ntmps12
 go_wp2
 go_loopw [3] (fun i wr=>∃ k:Nat,i=.int .i64 k∧k≤l.length∧(∀ j (hj:j<k) (hj2:j<l.length),okOp l[j]=true)∧wr=w) (fun i _=>l.length+1 - (intOf i).toNat)
 case atStart=>exact⟨0,rfl,Nat.zero_le _,fun j hj=>absurd hj (Nat.not_lt_zero _),rfl⟩
 case round =>
  obtain⟨k,rfl,hk,hp,hw⟩:=hrel
  by_cases hlt:k<l.length
  ·have hlt1:(k:Int)<(l.length:Int):=by omega
   obtain⟨ad,hae,hat⟩:=Sl.op HS.out hlt
   obtain⟨p,hpp⟩:∃ p,l[k]=p:=⟨_,rfl⟩
   rw[hpp] at hat
   have q1:w.cell? ⟨(ad.add (k * 41)).block,(ad.add (k * 41)).off+1+38,none⟩=some (.string p.cmd.text):=hat.2 39 _ (cO_cmd p 38 _ (cC_at (aC_38 p.cmd)))
   have q2:w.cell? ⟨(ad.add (k * 41)).block,(ad.add (k * 41)).off+1+1,none⟩=some (.string p.cmd.name):=hat.2 2 _ (cO_cmd p 1 _ (cC_at (aC_1 p.cmd)))
   have HP:=Lib.hid (And.intro hpp (And.intro hp hw))
   clear hat hpp hp
   by_cases h1:p.cmd.text.size≤200
   ·by_cases h2:p.cmd.name.size≤100
    ·have n1:¬ (200:Int)<(p.cmd.text.size:Int):=by omega
     have n2:¬ (100:Int)<(p.cmd.name.size:Int):=by omega
     have HX:=Lib.hid (And.intro h1 h2)
     clear h1 h2
     go_wp2
     go_roundw
     case rel =>
      refine⟨k+1,by go_num,hlt,fun j hj hj2=>?_,trivial⟩
      rcases Nat.lt_succ_iff_lt_or_eq.1 hj with h|h
      ·exact HP.out.2.1 j h hj2
      ·subst h
       rw[HP.out.1]
       unfold okOp
       rw[Bool.and_eq_true,decide_eq_true_eq,decide_eq_true_eq]
       exact HX.out
     case measure=>simp[intOf] <;> omega
    ·have n1:¬ (200:Int)<(p.cmd.text.size:Int):=by omega
     have n2:(100:Int)<(p.cmd.name.size:Int):=by omega
     have HX:=Lib.hid h2
     clear h1 h2
     go_wp2
     go_ret
     exact⟨by rw[small_no hlt HP.out.1 (fun h=>HX.out h.2)];rfl,by rw[← HP.out.2.2];exact Below.refl _ _⟩
   ·have n1:(200:Int)<(p.cmd.text.size:Int):=by omega
    have HX:=Lib.hid h1
    clear h1
    go_wp2
    go_ret
    exact⟨by rw[small_no hlt HP.out.1 (fun h=>HX.out h.1)];rfl,by rw[← HP.out.2.2];exact Below.refl _ _⟩
  ·have hlt1:¬ (k:Int)<(l.length:Int):=by omega
   have HP:=Lib.hid (And.intro hp hw)
   clear hp
   go_wp2
   go_ret
   exact⟨by rw[small_yes (fun j hj=>HP.out.1 j (by omega) hj)];simp;omega,by rw[← HP.out.2];exact Below.refl _ _⟩
end
section
open Go.ChangeShapes Go.WideShapes Go.ChangeAt Go.RowKit Go.Deep
structure Opn.ints (o:Opn):Prop where
 cmd:o.cmd.ints
 res:-9223372036854775808≤o.result∧o.result≤9223372036854775807
section
variable {H : Type} {enc : TypeId × Value → H} {w : World}
theorem op_of_trod {fuel:Nat} {cs:List Value} {x:DataW H×List MemPlace} (h:DataW.trod enc Tryz.prog w 0 (fun _=>true) true fuel 37 cs=some x):∃ o:Opn,cs=cO o∧o.ints:=by
 obtain⟨xs,n,_,rfl,hl,hlen,hf⟩:=DataW.trod_struct Tryz.underlying37 h
 rw[show Tryz.prog.cellsOf 37=41 by kernel_rfl] at hl
 have c3:Tryz.prog.cellsOf 3=1:=by kernel_rfl
 have c35:Tryz.prog.cellsOf 35=39:=by kernel_rfl
 match xs,hlen with
 | [y0,y1,y2],_ =>
  have f0:DataW.trod enc Tryz.prog w 0 (fun _=>true) true n 3 ((cs.drop 0).take (Tryz.prog.cellsOf 3))=some y0:=by simpa using hf 0 _ rfl
  have f1:DataW.trod enc Tryz.prog w 0 (fun _=>true) true n 35 ((cs.drop 1).take (Tryz.prog.cellsOf 35))=some y1:=by simpa using hf 1 _ rfl
  have f2:DataW.trod enc Tryz.prog w 0 (fun _=>true) true n 3 ((cs.drop 40).take (Tryz.prog.cellsOf 3))=some y2:=by simpa using hf 2 _ rfl
  rw[c3] at f0 f2
  rw[c35] at f1
  obtain⟨n0,h0,_⟩:=DataW.trod_int Tryz.underlying3 f0
  obtain⟨c,h1,hc⟩:=rc_of_trod f1
  obtain⟨n2,h2,_,w2⟩:=DataW.trod_int Tryz.underlying3 f2
  refine⟨⟨n0,c,n2⟩,?_,⟨hc,i64_of_wf w2⟩⟩
  have e0:=drop_dec cs 0 1
  have e1:=drop_dec cs 1 39
  have e2:=drop_dec cs 40 1
  simp only[Nat.reduceAdd] at e0 e1 e2
  rw[List.drop_zero] at e0
  rw[e0,show cs.take 1=_ from by simpa using h0,e1,h1,e2,h2,List.drop_of_length_le (by omega)]
  rfl
def OpI:={ o:Opn // o.ints }
instance:Inhabited OpI:=⟨⟨zO,⟨⟨⟨by decide,by decide⟩,⟨by decide,by decide⟩,⟨by decide,by decide⟩,⟨by decide,by decide⟩⟩,by decide,by decide⟩⟩⟩
theorem ops_of_trod {t:TypeId} {a0:Option Addr} {n c:Nat} {d:DataW H} {p:List MemPlace} (ht:Tryz.prog.underlying t=some (.slice 37)) (h:DataW.Trod enc Tryz.prog w 0 (fun _=>true) true t (.slice a0 n c) d p) :
  ∃ xs:List Opn,xs.length=n∧n≤c∧c≤maxLen∧Sl w cO a0 xs∧∀ x∈xs,x.ints:=by
 obtain⟨xs,h1,h2,h3,h4⟩:=sl_of_trod (α:=OpI) (fun x=>cO x.1) 41 (by decide) (fun x=>cO_length x.1) ht (by kernel_rfl) (fun h=>by
  obtain⟨c,e,hc⟩:=op_of_trod h
  exact⟨⟨c,hc⟩,e⟩) h
 refine⟨xs.map (·.1),by rw[List.length_map,h1],h2,h3,fun hne=>?_,fun x hx=>?_⟩
 ·obtain⟨ad,e,hat⟩:=h4 (fun e=>hne (by rw[e];rfl))
  refine⟨ad,e,?_⟩
  rw[List.flatMap_map]
  exact hat
 ·obtain⟨y,_,rfl⟩:=List.mem_map.1 hx
  exact y.2
end
end
end Go.Proofs.YtgojaelkdpabkaaGreatDoor
