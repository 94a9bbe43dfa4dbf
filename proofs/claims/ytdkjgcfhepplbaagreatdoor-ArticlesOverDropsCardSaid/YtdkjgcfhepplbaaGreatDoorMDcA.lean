/- parse's readers: the words of a command's fields. parse: the table of readers; the plain functions. command.parse. command.Decode. -/
import Derived.Test.YtdkjgcfhepplbaaGreatDoorMEnA
import Derived.Test.YtdkjgcfhepplbaaGreatDoorMAnyG
import Derived.Lib.IndexLaws
namespace Go.Proofs.YtdkjgcfhepplbaaGreatDoor
section
open Go.RowKit
structure One (g:Nat) (w w':World):Prop where
 os:w'.os=w.os
 tape:w'.tape=w.tape
 output:w'.output=w.output
 size:w.heap.size≤w'.heap.size
 out:∀ k,k<w.heap.size→k≠g→w'.heap[k]? = w.heap[k]?
section
variable {g : Nat} {w w' w'' : World}
theorem One.refl:One g w w:=⟨rfl,rfl,rfl,Nat.le_refl _,fun _ _ _=>rfl⟩
theorem One.trans (h:One g w w') (k:One g w' w''):One g w w'':=⟨k.os.trans h.os,k.tape.trans h.tape,k.output.trans h.output,Nat.le_trans h.size k.size,fun j hj hg=>(k.out j (Nat.lt_of_lt_of_le hj h.size) hg).trans (h.out j hj hg)⟩
theorem One.of_below (h:Below w.heap.size w w'):One g w w':=⟨h.os,h.tape,h.output,h.size,fun k hk _=>h.block k hk⟩
theorem One.set (k:Nat) (v:Value):One g w (w.setCell ⟨g,k,none⟩ v):=⟨rfl,rfl,rfl,by simp[World.setCell],fun j _ hj=>heap_set_other w g k v j hj⟩
theorem One.stD (k:Nat) (ds:List Value):One g w (stD w g k ds):=by
 obtain⟨h1,h2,h3⟩:=setCells_os g ds k w
 exact⟨h1,h2,h3,Nat.le_of_eq (setCells_size g ds k w).symm,fun j _ hj=>heap_stD_other w g k ds j hj⟩
theorem One.row {b:Nat} {cs:List Value} {t:TypeId} (h:One g w w') (hr:Row w b cs t) (hb:b≠g):Row w' b cs t:=hr.same (h.out b hr.lt hb)
theorem One.below {B:Nat} (h:One g w w') (hB:B≤g) (hw:B≤w.heap.size):Below B w w':=⟨h.os,h.tape,h.output,h.size,fun k hk=>h.out k (Nat.lt_of_lt_of_le hk hw) (by omega)⟩
end
theorem cC_hiset (c:Cm) (k:Nat) (v:Value):(cC c).set (34+k) v=.int .i64 c.verb :: .string c.name :: (cI c.id++[Value.int .i64 c.size,.int .i64 c.from_,.int .i64 c.count,.int .i64 c.code,.string c.text].set k v):=by
 unfold cC
 rw[show 34+k=(32+k)+1+1 by omega,List.set_cons_succ,List.set_cons_succ,List.set_append_right _ _ (by rw[cI_length];omega),cI_length,show 32+k - 32=k by omega]
theorem cC_set34 (c:Cm) (n:Int):(cC c).set 34 (.int .i64 n)=cC { c with size:=n }:=cC_hiset c 0 _
theorem cC_set35 (c:Cm) (n:Int):(cC c).set 35 (.int .i64 n)=cC { c with from_:=n }:=cC_hiset c 1 _
theorem cC_set36 (c:Cm) (n:Int):(cC c).set 36 (.int .i64 n)=cC { c with count:=n }:=cC_hiset c 2 _
theorem cC_set37 (c:Cm) (n:Int):(cC c).set 37 (.int .i64 n)=cC { c with code:=n }:=cC_hiset c 3 _
theorem cC_set38 (c:Cm) (s:ByteArray):(cC c).set 38 (.string s)=cC { c with text:=s }:=cC_hiset c 4 _
theorem cC_setid (c:Cm) (x:Id):(cC c).take 2++cI x++(cC c).drop (2+(cI x).length)=cC { c with id:=x }:=by
 unfold cC
 rw[cI_length,show 2+32=32+1+1 by omega,List.drop_succ_cons,List.drop_succ_cons,List.drop_left' (cI_length _)]
 rfl
def numR (s:ByteArray) (least most:Int):Int×Bool:=((numE (bl s) most).1,(numE (bl s) most).2==0 && decide (least≤(numE (bl s) most).1))
def idR (s:ByteArray):Id×Bool:=if identB (bl s)=true then (midL (bl s),!decide (midL (bl s)=zI)) else (zI,false)
def readF (a:Int) (s:ByteArray) (c:Cm):Cm×Bool :=
 if a=1 then ({ c with name:=s },siteB (bl s))
 else if a=2 then ({ c with id:=(idR s).1 },(idR s).2)
 else if a=4 then ({ c with size:=(numR s 1 65536).1 },(numR s 1 65536).2)
 else if a=8 then ({ c with from_:=(numR s 0 65536).1 },(numR s 0 65536).2)
 else if a=16 then ({ c with count:=(numR s 1 1000).1 },(numR s 1 1000).2)
 else ({ c with code:=(numR s 1 99).1 },(numR s 1 99).2)
section
set_option maxRecDepth 100000
set_option maxHeartbeats 1600000
theorem siteName55 (s:ByteArray) (w:World) (hs:s.size≤1000000):Calls Tryz.prog 88 #[.string s] w fun e w'=>e=.returned (.bool (siteB (bl s)))∧w'=w:=by
 have H:=Lib.hid (show ∀ w1,Calls Tryz.prog 81 #[.string s] w1 fun e w'=>∃ a n:Int,e=.returned (.tuple #[.int .i64 a,.int .i64 n])∧decide (n=0)=siteB (bl s)∧w'=w1 from fun w1=>site37 s w1 hs)
 obtain⟨b,hb⟩:∃ b,siteB (bl s)=b:=⟨_,rfl⟩
 rw[hb] at H ⊢
 clear hb
 go_enter Tryz.func88,Tryz.ntmps88
 go_wp2_with (go_at_call 81;refine (H.out _).mono ?_;rintro e w1 ⟨a,n,rfl,hn,rfl⟩;have hnb:(n==0)=b:=(by rw[← hn];rfl))
 go_ret
 exact⟨rfl,rfl⟩
theorem number59 (s:ByteArray) (least most:Int) (hm0:0≤most) (hm1:most≤100000) (w:World) (hs:s.size≤1000000) (g k:Nat) (cs:List Value) (t:TypeId) (hr:Row w g cs t) (hk:∃ n,cs[k]? = some (.int .i64 n)) :
  Calls Tryz.prog 92 #[.string s,.int .i64 least,.int .i64 most,.pointer (some ⟨g,k,none⟩)] w fun e w'=>e=.returned (.bool (numR s least most).2)∧w'=w.setCell ⟨g,k,none⟩ (.int .i64 (numR s least most).1):=by
 obtain⟨⟨n,e⟩,hne⟩:∃ r,numE (bl s) most=r:=⟨_,rfl⟩
 obtain⟨n0,hk⟩:=hk
 have c0:=(hr.cell k).trans hk
 have f0:=hr.fz k
 have H:=Lib.hid (fun w1=>number29 s most (by omega) (by omega) _ hne w1 (by omega))
 have hR:numR s least most=(n,e==0 && decide (least≤n)):=by unfold numR;rw[hne]
 rw[hR]
 clear hR hne hr hk
 cases he:(e==0) with
 | true =>
  go_enter Tryz.func92,Tryz.ntmps92
  go_wp2_with (go_at_call 119;refine (H.out _).mono ?_;rintro e w1 ⟨rfl,rfl⟩)
  go_ret
  exact⟨rfl,rfl⟩
 | false =>
  go_enter Tryz.func92,Tryz.ntmps92
  go_wp2_with (go_at_call 119;refine (H.out _).mono ?_;rintro e w1 ⟨rfl,rfl⟩)
  go_ret
  exact⟨rfl,rfl⟩
end
@[go_sem] theorem run_stI_2 (w:World) (g:Nat) (x:Id):(stA 39 (.pointer (some ⟨g,2,none⟩)) (vI x)).run Tryz.prog w=if stOk w g 2 32=true then .ok () (stD w g 2 (cI x)) else (stB 39 (.pointer (some ⟨g,2,none⟩)) (vI x)).run Tryz.prog w:=by
 split
 ·rename_i h
  exact run_stA_off w 39 g 2 (cI x) 32 h size39 (cI_length x) (cI_one x)
 ·rfl
theorem mparse_ok (s:ByteArray) (w:World) (x:Id) (hx:midL (bl s)=x) (h:identB (bl s)=true):Calls Tryz.prog 118 #[.string s] w fun e w'=>e=.returned (.tuple #[vI x,.int .i64 0,.int .i64 0])∧Below w.heap.size w w':=by
 subst hx
 exact mparse_yes s w h
theorem mparse_bad (s:ByteArray) (w:World) (h:identB (bl s)=false):Calls Tryz.prog 118 #[.string s] w fun e w'=>∃ a n:Int,e=.returned (.tuple #[vI zI,.int .i64 a,.int .i64 n])∧n≠0∧Below w.heap.size w w':=mparse_no s w h
set_option maxRecDepth 100000 in
set_option maxHeartbeats 1600000 in
theorem identity57 (s:ByteArray) (w:World) (g:Nat) (cs:List Value) (t:TypeId) (hr:Row w g cs t) (hk:2+32≤cs.length) :
  Calls Tryz.prog 90 #[.string s,.pointer (some ⟨g,2,none⟩)] w fun e w'=>e=.returned (.bool (idR s).2)∧Row w' g (cs.take 2++cI (idR s).1++cs.drop (2+32)) t∧One g w w':=by
 have HR:=Lib.hid hr
 have hgl:=hr.lt
 cases hi:identB (bl s) with
 | true =>
  obtain⟨x,hx⟩:∃ x,midL (bl s)=x:=⟨_,rfl⟩
  have H:=Lib.hid (fun w1=>mparse_ok s w1 x hx hi)
  have hR:idR s=(x,!decide (x=zI)):=by unfold idR;rw[if_pos hi,hx]
  rw[hR]
  clear hR hx hi hr
  go_enter Tryz.func90,Tryz.ntmps90
  have hsz:g<w.heap.size:=hgl
  go_wp2_with (first
   | (go_at_call 118;refine (H.out _).mono ?_;rintro e w1 ⟨rfl,hb1⟩;have hrow:=(HR.out.keep hb1).keep (below_alloc w1 (.cells (aI x) 39));have st:=hrow.ok _ 2 32 hk;have hr5:=(Row.new w1 (cI x) 39).same (heap_stD_other (w1.alloc (.cells (aI x) 39)) g 2 (cI x) w1.heap.size (by have:=hb1.size;omega));obtain⟨ok5,rd5⟩:=hr5.okw (cI_length x);change rdA _ _ _=vI x at rd5;have hrow6:=hrow.stD 2 (cI x) (by rw[cI_length];exact hk);rw[cI_length] at hrow6;have H1:=Lib.hid (And.intro hb1 hrow6);clear hb1 hrow hr5 hrow6)
   | (go_at_call 82;refine (isZero38 x _).mono ?_;rintro e w2 ⟨rfl,hb2⟩;have H2:=Lib.hid hb2;clear hb2))
  go_ret
  exact⟨rfl,H1.out.2.keep H2.out,((One.of_below H1.out.1).trans (One.of_below (below_alloc _ _))).trans ((One.stD _ _).trans (One.of_below H2.out))⟩
 | false =>
  have H:=Lib.hid (fun w1=>mparse_bad s w1 hi)
  have hR:idR s=(zI,false):=by unfold idR;rw[if_neg (by rw[hi];decide)]
  rw[hR]
  clear hR hi hr
  go_enter Tryz.func90,Tryz.ntmps90
  have hsz:g<w.heap.size:=hgl
  go_wp2_with (go_at_call 118;refine (H.out _).mono ?_;rintro e w1 ⟨a,n,rfl,hn,hb1⟩;have hnb:(n==0)=false:=(by simpa using hn);have hrow:=(HR.out.keep hb1).keep (below_alloc w1 (.cells (aI zI) 39));have st:=hrow.ok _ 2 32 hk;have hr5:=(Row.new w1 (cI zI) 39).same (heap_stD_other (w1.alloc (.cells (aI zI) 39)) g 2 (cI zI) w1.heap.size (by have:=hb1.size;omega));obtain⟨ok5,rd5⟩:=hr5.okw (cI_length zI);change rdA _ _ _=vI zI at rd5;have hrow6:=hrow.stD 2 (cI zI) (by rw[cI_length];exact hk);rw[cI_length] at hrow6;have H1:=Lib.hid (And.intro hb1 hrow6);clear hb1 hrow hr5 hrow6)
  go_ret
  exact⟨rfl,H1.out.2,((One.of_below H1.out.1).trans (One.of_below (below_alloc _ _))).trans (One.stD _ _)⟩
def rdL:List (Int×Nat):=[(1,87),(2,89),(4,91),(8,93),(16,94),(32,95)]
def Reads (F:Nat) (a:Int):Prop:=∀ (s:ByteArray) (c:Cm) (g:Nat) (w:World),s.size≤1000000→Row w g (cC c) 74 →
 Calls Tryz.prog F #[.string s,.pointer (some ⟨g,0,none⟩)] w fun e w'=>e=.returned (.bool (readF a s c).2)∧Row w' g (cC (readF a s c).1) 74∧One g w w'
section
set_option maxRecDepth 100000
set_option maxHeartbeats 1600000
theorem read54:Reads 87 1:=by
 intro s c g w hs hr
 have HR:=Lib.hid hr
 have c0:w.cell? ⟨g,1,none⟩=some (.string c.name):=hr.cell 1
 have f0:=hr.fz 1
 have hgl:=hr.lt
 rw[show readF 1 s c=({ c with name:=s },siteB (bl s)) from rfl]
 clear hr
 go_enter Tryz.func87,Tryz.ntmps87
 go_wp2_with (go_at_call 88;refine (siteName55 s _ hs).mono ?_;rintro e w1 ⟨rfl,rfl⟩)
 go_ret
 exact⟨rfl,HR.out.set 1 _,One.set _ _⟩
theorem read56:Reads 89 2:=by
 intro s c g w hs hr
 have H:=Lib.hid (identity57 s w g (cC c) 74 hr (by rw[cC_length];omega))
 have hgl:=hr.lt
 rw[show readF 2 s c=({ c with id:=(idR s).1 },(idR s).2) from rfl]
 clear hr
 go_enter Tryz.func89,Tryz.ntmps89
 go_wp2_with (go_at_call 90;refine H.out.mono ?_;rintro e w1 ⟨rfl,hr1,ho⟩;have H1:=Lib.hid (And.intro hr1 ho);clear hr1 ho)
 go_ret
 refine⟨rfl,?_,H1.out.2⟩
 have h:=H1.out.1
 have e:=cC_setid c (idR s).1
 rw[cI_length] at e
 rwa[e] at h
theorem read58:Reads 91 4:=by
 intro s c g w hs hr
 have HR:=Lib.hid hr
 have H:=Lib.hid (number59 s 1 65536 (by decide) (by decide) w hs g 34 (cC c) 74 hr ⟨_,cC_at (aC_34 c)⟩)
 have hgl:=hr.lt
 rw[show readF 4 s c=({ c with size:=(numR s 1 65536).1 },(numR s 1 65536).2) from rfl]
 clear hr
 go_enter Tryz.func91,Tryz.ntmps91
 go_wp2_with (go_at_call 92;refine H.out.mono ?_;rintro e w1 ⟨rfl,rfl⟩)
 go_ret
 refine⟨rfl,?_,One.set _ _⟩
 have h:=HR.out.set 34 (.int .i64 (numR s 1 65536).1)
 rwa[cC_set34] at h
theorem read60:Reads 93 8:=by
 intro s c g w hs hr
 have HR:=Lib.hid hr
 have H:=Lib.hid (number59 s 0 65536 (by decide) (by decide) w hs g 35 (cC c) 74 hr ⟨_,cC_at (aC_35 c)⟩)
 have hgl:=hr.lt
 rw[show readF 8 s c=({ c with from_:=(numR s 0 65536).1 },(numR s 0 65536).2) from rfl]
 clear hr
 go_enter Tryz.func93,Tryz.ntmps93
 go_wp2_with (go_at_call 92;refine H.out.mono ?_;rintro e w1 ⟨rfl,rfl⟩)
 go_ret
 refine⟨rfl,?_,One.set _ _⟩
 have h:=HR.out.set 35 (.int .i64 (numR s 0 65536).1)
 rwa[cC_set35] at h
theorem read61:Reads 94 16:=by
 intro s c g w hs hr
 have HR:=Lib.hid hr
 have H:=Lib.hid (number59 s 1 1000 (by decide) (by decide) w hs g 36 (cC c) 74 hr ⟨_,cC_at (aC_36 c)⟩)
 have hgl:=hr.lt
 rw[show readF 16 s c=({ c with count:=(numR s 1 1000).1 },(numR s 1 1000).2) from rfl]
 clear hr
 go_enter Tryz.func94,Tryz.ntmps94
 go_wp2_with (go_at_call 92;refine H.out.mono ?_;rintro e w1 ⟨rfl,rfl⟩)
 go_ret
 refine⟨rfl,?_,One.set _ _⟩
 have h:=HR.out.set 36 (.int .i64 (numR s 1 1000).1)
 rwa[cC_set36] at h
theorem read62:Reads 95 32:=by
 intro s c g w hs hr
 have HR:=Lib.hid hr
 have hgl:=hr.lt
 obtain⟨⟨n,bb⟩,hn⟩:∃ r,numR s 1 99=r:=⟨_,rfl⟩
 obtain⟨b4,hb4⟩:∃ b4,w.heap.size=b4:=⟨_,rfl⟩
 have hr4:Row (w.alloc (.cells #[.int .i64 0] 3)) b4 [.int .i64 0] 3:=by rw[← hb4];exact Row.new w [.int .i64 0] 3
 have H:=Lib.hid (number59 s 1 99 (by decide) (by decide) (w.alloc (.cells #[.int .i64 0] 3)) hs b4 0 [.int .i64 0] 3 hr4 ⟨_,rfl⟩)
 rw[hn] at H
 have hgb:g≠b4:=by omega
 have hr5:Row ((w.alloc (.cells #[.int .i64 0] 3)).setCell ⟨b4,0,none⟩ (.int .i64 n)) g (cC c) 74:=(HR.out.keep (below_alloc w (.cells #[.int .i64 0] 3))).same (heap_set_other _ b4 0 _ g hgb)
 have hr6:=hr4.set 0 (.int .i64 n)
 have c0:((w.alloc (.cells #[.int .i64 0] 3)).setCell ⟨b4,0,none⟩ (.int .i64 n)).cell? ⟨b4,0,none⟩=some (.int .i64 n):=hr6.cell 0
 have c37:((w.alloc (.cells #[.int .i64 0] 3)).setCell ⟨b4,0,none⟩ (.int .i64 n)).cell? ⟨g,37,none⟩=some (.int .i64 c.code):=(hr5.cell 37).trans (cC_at (aC_37 c))
 have f37:=hr5.fz 37
 have HR5:=Lib.hid hr5
 rw[show readF 32 s c=({ c with code:=n },bb) by show ({ c with code:=(numR s 1 99).1 },(numR s 1 99).2)=_;rw[hn]]
 have HO:=Lib.hid (show One g w ((w.alloc (.cells #[.int .i64 0] 3)).setCell ⟨b4,0,none⟩ (.int .i64 n)) from ⟨rfl,rfl,rfl,by simp[World.setCell],fun k hk _=>(heap_set_other _ b4 0 _ k (by omega)).trans ((below_alloc w (.cells #[.int .i64 0] 3)).block k hk)⟩)
 clear hr hr4 hr5 hr6 hn
 generalize hW:((w.alloc (.cells #[.int .i64 0] 3)).setCell ⟨b4,0,none⟩ (.int .i64 n))=W5 at H c0 c37 f37 HR5 HO
 have HWW:=Lib.hid hW
 clear hW
 go_enter Tryz.func95,Tryz.ntmps95
 go_wp2_with (go_at_call 92;refine H.out.mono ?_;rintro e w1 ⟨rfl,rfl⟩)
 go_ret
 refine⟨rfl,?_,HO.out.trans (One.set _ _)⟩
 have h:=HR5.out.set 37 (.int .i64 n)
 rwa[cC_set37] at h
end
theorem reads_all (p:Int×Nat) (h:p∈rdL):Reads p.2 p.1:=by
 simp only[rdL,List.mem_cons,List.not_mem_nil,or_false] at h
 rcases h with rfl|rfl|rfl|rfl|rfl|rfl
 ·exact read54
 ·exact read56
 ·exact read58
 ·exact read60
 ·exact read61
 ·exact read62
theorem enter_all (p:Int×Nat) (h:p∈rdL):∀ (args:Array Value) (W:World),Sem.run Tryz.prog (callFunc p.2 args) W=.ok (.enter p.2 args) W:=by
 simp only[rdL,List.mem_cons,List.not_mem_nil,or_false] at h
 rcases h with rfl|rfl|rfl|rfl|rfl|rfl
 ·exact enters_of Tryz.func87 (by kernel_rfl) rfl
 ·exact enters_of Tryz.func89 (by kernel_rfl) rfl
 ·exact enters_of Tryz.func91 (by kernel_rfl) rfl
 ·exact enters_of Tryz.func93 (by kernel_rfl) rfl
 ·exact enters_of Tryz.func94 (by kernel_rfl) rfl
 ·exact enters_of Tryz.func95 (by kernel_rfl) rfl
end
section
open Go.RowKit
def fnV (F g:Nat):Value:=.func (.func F) #[] #[.pointer (some ⟨g,0,none⟩)]
def cR (g:Nat) (x:Int×Nat):List Value:=[.int .i64 x.1,fnV x.2 g]
def vR (g:Nat) (x:Int×Nat):Value:=.agg (cR g x).toArray
def aR (g:Nat) (x:Int×Nat):Array Value:=(cR g x).toArray
def aRz:Array Value:=#[.int .i64 0,.nilFunc]
theorem cR_length (g:Nat) (x:Int×Nat):(cR g x).length=2:=rfl
theorem cR_one (g:Nat) (x:Int×Nat):∀ u∈cR g x,u.oneCell'=true:=by
 intro u hu
 simp only[cR,List.mem_cons,List.not_mem_nil,or_false] at hu
 rcases hu with rfl|rfl <;> rfl
theorem size171:(Tryz.prog.info? 171).map (·.size)=some 2:=by kernel_rfl
section
variable (w : World) (v : Value)
@[go_sem ↓] theorem load171:Instr.loadAt 171 v=ldA 171 v:=rfl
@[go_sem] theorem run_ld171 (ad:Addr):(ldA 171 (.pointer (some ad))).run Tryz.prog w=if okA w ad 2=true then .ok (rdA w ad 2) w else (ldB 171 (.pointer (some ad))).run Tryz.prog w:=run_ldA_if w 171 ad 2 _ Tryz.underlying171 rfl size171
@[go_sem ↓] theorem blt171 (parts:Array (Nat×Value)):Instr.build 171 parts=blA 171 parts:=rfl
@[go_sem ↓] theorem alloc171 (h:Bool):Instr.alloc 171 h v=alA 171 h v:=rfl
@[go_sem ↓] theorem store171 (u:Value):Instr.storeAt 171 v u=stA 171 v u:=rfl
@[go_sem] theorem run_st171 (b g:Nat) (x:Int×Nat):(stA 171 (.pointer (some ⟨b,0,none⟩)) (vR g x)).run Tryz.prog w=if rowOk w b 2=true then .ok () (w.setRow b (aR g x)) else (stB 171 (.pointer (some ⟨b,0,none⟩)) (vR g x)).run Tryz.prog w:=run_stA_if w 171 b _ 2 size171 rfl (by simpa using cR_one g x)
@[go_sem] theorem rowOk_n171 (ty:TypeId) (b:Nat) (hg:b=w.heap.size):rowOk (w.alloc (.cells aRz ty)) b 2=true:=rowOk_new w _ ty b 2 hg rfl
@[go_sem] theorem run_al171:(alA 171 true (.tuple #[])).run Tryz.prog w=.ok (.pointer (some ⟨w.heap.size,0,none⟩)) (w.alloc (.cells aRz 171)):=by kernel_rfl
@[go_sem] theorem aR_0 (g:Nat) (x:Int×Nat):(aR g x)[0]? = some (.int .i64 x.1):=rfl
@[go_sem] theorem aR_1 (g:Nat) (x:Int×Nat):(aR g x)[1]? = some (fnV x.2 g):=rfl
@[go_sem] theorem blR (a:Int) (F g:Nat):(blA 171 #[(0,.int .i64 a),(1,.func (.func F) #[] #[.pointer (some ⟨g,0,none⟩)])]).run Tryz.prog w=.ok (vR g (a,F)) w:=by kernel_rfl
def aRs (g:Nat) (xs:List (Int×Nat)):Array Value:=(xs.flatMap (cR g)).toArray
@[go_sem ↓] theorem bs176 (n:Nat) (parts:Array (Nat×Value)):Instr.buildSlice 176 n parts=bsA 176 n parts:=rfl
theorem run_bs176 (g:Nat) (xs:List (Int×Nat)) (h:xs.length≤100):(bsA 176 xs.length (xs.zipIdx.map fun x=>(x.2,vR g x.1)).toArray).run Tryz.prog w=.ok (.slice (some ⟨w.heap.size,0,none⟩) xs.length xs.length) (w.alloc (.cells (aRs g xs) 171)):=by
 obtain⟨i,z,h1,h2,h3⟩:=info_of (show (Tryz.prog.info? 171).map (fun i=>(i.zero.map (·.cells.size),i.size,i.bytes))=some (some 2,2,16) by kernel_rfl)
 exact run_bsA w (vR g) 176 171 i z 2 Tryz.underlying176 h1 h2 h3 (fun _=>rfl) xs (by omega)
@[go_sem] theorem run_bsR_6 (k:Nat) (a b c d e f:Int×Nat):(bsA 176 6 #[(0,vR k a),(1,vR k b),(2,vR k c),(3,vR k d),(4,vR k e),(5,vR k f)]).run Tryz.prog w=.ok (.slice (some ⟨w.heap.size,0,none⟩) 6 6) (w.alloc (.cells (aRs k [a,b,c,d,e,f]) 171)):=run_bs176 w k [a,b,c,d,e,f] (by simp)
end
theorem row_rd {w:World} {b g:Nat} {xs:List (Int×Nat)} {t:TypeId} (h:Row w b (xs.flatMap (cR g)) t) {k:Nat} (hk:k<xs.length):okA w ⟨b,k * 2,none⟩ 2=true∧rdA w ⟨b,k * 2,none⟩ 2=vR g xs[k]:=by
 have hs:Sl w (cR g) (some ⟨b,0,none⟩) xs:=fun _=>⟨_,rfl,h.at_ (k:=0) (n:=(xs.flatMap (cR g)).length) (by rw[List.drop_zero,List.take_length])⟩
 obtain⟨ad,had,hat⟩:=Sl.at_ (cR_length g) hs hk
 obtain rfl:=Option.some.inj had
 have h1:=hat.ok
 have h2:=hat.rd
 rw[cR_length] at h1 h2
 have hao:=add_off b 0 (k * 2)
 rw[Nat.zero_add] at hao
 rw[hao] at h1 h2
 exact⟨h1,h2⟩
def vb (s:ByteArray):Nat→Nat
 | 0=>0
 | k+1=>if bl ((formsL[k+1]?.getD (⟨#[]⟩,0,0)).1)=bl s then k+1 else vb s k
theorem vb_le (s:ByteArray) (k:Nat):vb s k≤k:=by
 induction k with
 | zero=>exact Nat.le_refl _
 | succ k ih =>
  rw[vb]
  split
  ·exact Nat.le_refl _
  ·omega
abbrev PSt:=Bool×List ByteArray×Cm
def stepP (fl a:Int) (st:PSt):PSt :=
 if bits BinOp.and .i64 fl a==0 then st
 else match st with
  | (true,x :: r,c)=>((readF a x c).2,r,(readF a x c).1)
  | (_,ws,c)=>(false,ws.drop 1,c)
def flOf (v:Nat):Int:=(formsL[v]?.getD (⟨#[]⟩,0,0)).2.1
def parseW (ws:List ByteArray):Cm×Bool :=
 if vb (ws.headD ⟨#[]⟩) 11=0 then (zC,false)
 else
  let st:=rdL.foldl (fun st p=>stepP (flOf (vb (ws.headD ⟨#[]⟩) 11)) p.1 st) ((true,ws.drop 1,{ zC with verb:=(vb (ws.headD ⟨#[]⟩) 11:Nat) }):PSt)
  if st.1=true∧st.2.1=[] then (st.2.2,true) else (zC,false)
def mkB (l:List UInt8):ByteArray:=⟨l.toArray⟩
theorem mkB_bl (s:ByteArray):mkB (bl s)=s:=rfl
def parseL (l:List UInt8):Cm×Bool:=parseW ((splitGo 32 [] l).map mkB)
end
section
open Go.RowKit
theorem cC_set0 (c:Cm) (n:Int):(cC c).set 0 (.int .i64 n)=cC { c with verb:=n }:=rfl
theorem FormsAt.lt0 {w:World} (h:FormsAt w):0<w.heap.size:=by
 obtain⟨ad,had,hat⟩:=h (by decide)
 obtain rfl:=Option.some.inj had
 have h2:=hat.2 0 _ rfl
 rw[add_off] at h2
 unfold World.cell? at h2
 split at h2
 ·rename_i hh
  exact (Array.getElem?_eq_some_iff.1 hh).1
 ·cases h2
theorem FormsAt.w0 {w:World} (h:FormsAt w) {k:Nat} (hk:k<formsL.length):w.cell? ⟨0,k * 3,none⟩=some (.string formsL[k].1):=by
 obtain⟨ad,had,hat⟩:=Sl.at_ cF_length h hk
 obtain rfl:=Option.some.inj had
 have h2:=hat.2 0 (.string formsL[k].1) rfl
 have hao:=add_off 0 0 (k * 3)
 rw[Nat.zero_add] at hao
 rw[hao] at h2
 have hao2:=add_off 0 (k * 3) 0
 rw[hao2] at h2
 exact h2
theorem FormsAt.w1 {w:World} (h:FormsAt w) {k:Nat} (hk:k<formsL.length):w.cell? ⟨0,k * 3+1,none⟩=some (.int .i64 formsL[k].2.1):=by
 obtain⟨ad,had,hat⟩:=Sl.at_ cF_length h hk
 obtain rfl:=Option.some.inj had
 have h2:=hat.2 1 (.int .i64 formsL[k].2.1) rfl
 have hao:=add_off 0 0 (k * 3)
 rw[Nat.zero_add] at hao
 rw[hao,add_off] at h2
 exact h2
theorem FormsAt.keep1 {w w':World} {g:Nat} (h:FormsAt w) (ho:One g w w') (hg:g≠0) (hl:0<w.heap.size):FormsAt w':=by
 intro hne
 obtain⟨ad,had,hat⟩:=h hne
 obtain rfl:=Option.some.inj had
 refine⟨_,rfl,Nat.lt_of_lt_of_le hat.1 ho.size,fun j u hu=>?_⟩
 rw[← hat.2 j u hu,add_off]
 exact World.cell?_of_block (ho.out 0 hl (fun e=>hg e.symm))
theorem Row.rowOk {w:World} {b n:Nat} {cs:List Value} {t:TypeId} (h:Row w b cs t) (hn:cs.length=n):Go.Proofs.YtdkjgcfhepplbaaGreatDoor.rowOk w b n=true:=by
 unfold Row at h
 unfold Go.Proofs.YtdkjgcfhepplbaaGreatDoor.rowOk
 rw[h]
 simpa using hn
theorem ld_setRow (c:Cm) {w:World} {b:Nat} (h:rowOk w b 39=true):(loadVar 74 ⟨b,0,none⟩).run Tryz.prog (w.setRow b (aC c))=.ok (vC c) (w.setRow b (aC c)) :=
 run_loadVar_at _ ⟨b,0,none⟩ 74 (cC c) _ (at_setRow (cC c) h) Tryz.underlying74 rfl (by rw[cC_length];exact size74)
theorem readF_verb (a:Int) (s:ByteArray) (c:Cm):(readF a s c).1.verb=c.verb:=by
 unfold readF
 repeat' split
 all_goals rfl
theorem splitGo_len2 (c:UInt8) (s:List UInt8):∀ cur,(splitGo c cur s).length≤s.length+1:=by
 induction s with
 | nil=>intro cur;simp[splitGo]
 | cons x xs ih =>
  intro cur
  rw[splitGo]
  split
  ·have:=ih [];simp only[List.length_cons];omega
  ·have:=ih (cur++[x]);simp only[List.length_cons];omega
theorem splitGo_mem (c:UInt8) (s:List UInt8):∀ cur,∀ l∈splitGo c cur s,l.length≤cur.length+s.length:=by
 induction s with
 | nil=>intro cur l hl;simp only[splitGo,List.mem_singleton] at hl;rw[hl];simp
 | cons x xs ih =>
  intro cur l hl
  rw[splitGo] at hl
  split at hl
  ·rcases List.mem_cons.1 hl with h|h
   ·rw[h];simp
   ·have:=ih [] l h;simp only[List.length_cons,List.length_nil] at this ⊢;omega
  ·have:=ih _ l hl;simp only[List.length_append,List.length_cons,List.length_nil] at this ⊢;omega
def WsAt (b:Nat) (ps:List ByteArray) (w:World):Prop:=Row w b (ps.map Value.string) 9
theorem WsAt.cell {b:Nat} {ps:List ByteArray} {w:World} (h:WsAt b ps w) {k:Nat} (hk:k<ps.length):w.cell? ⟨b,k,none⟩=some (.string ps[k]) :=
 (Row.cell h k).trans (by rw[List.getElem?_map,List.getElem?_eq_getElem hk];rfl)
set_option maxRecDepth 100000 in
set_option maxHeartbeats 12800000 in
theorem parse30 (s:ByteArray) (w:World) (hs:s.size≤1000000) (hL:Laid w):Calls Tryz.prog 58 #[.string s] w fun e w'=>e=.returned (.tuple #[vC (parseL (bl s)).1,.bool (parseL (bl s)).2])∧Below w.heap.size w w':=by
 obtain⟨r0,hr0⟩:∃ r0,w.heap.size=r0:=⟨_,rfl⟩
 have HB0:=Lib.hid (below_alloc w (.cells (aC zC) 74))
 have HR0:=Lib.hid (show Row (w.alloc (.cells (aC zC) 74)) r0 (cC zC) 74 by rw[← hr0];exact Row.new w (cC zC) 74)
 obtain⟨W1,hW1⟩:∃ W1,w.alloc (.cells (aC zC) 74)=W1:=⟨_,rfl⟩
 rw[hW1] at HB0 HR0
 have HL1:=Lib.hid (hL.keep HB0.out)
 obtain⟨mx,hmx⟩:=HL1.out.max
 have hg:=splitB_go 32 s
 have hlen:=Lib.splitB_all ⟨#[32]⟩ (by decide) 0 _ s rfl
 have H40:=Lib.hid (Tryz.strings_Split s ⟨#[32]⟩ mx W1 (by omega) hmx (by decide))
 generalize Lib.countB s ⟨#[32]⟩=cnt at hg hlen H40
 obtain⟨ps,hps⟩:∃ ps,Lib.splitB ⟨#[32]⟩ 0 cnt s=ps:=⟨_,rfl⟩
 rw[hps] at hg hlen H40
 rw[← hlen] at H40
 obtain⟨N,hN⟩:∃ N,ps.length=N:=⟨_,rfl⟩
 rw[hN] at H40 hlen
 have hN1:1≤N:=by omega
 have hNs:N≤1000001:=by
  have h3:=splitGo_len2 32 (bl s) []
  rw[← hg,List.length_map,bl_length] at h3
  omega
 have hpl:parseL (bl s)=parseW ps:=by
  unfold parseL
  rw[← hg,List.map_map,show (mkB ∘ bl)=id from funext mkB_bl,List.map_id]
 have hpsz:∀ x∈ps,x.size≤1000000:=by
  intro x hx
  have h4:=splitGo_mem 32 (bl s) [] (bl x) (by rw[← hg];exact List.mem_map_of_mem hx)
  simp only[List.length_nil,bl_length] at h4
  omega
 rw[hpl]
 obtain⟨b2,hb2⟩:∃ b2,W1.heap.size=b2:=⟨_,rfl⟩
 have HW2:=Lib.hid (show WsAt b2 ps (W1.alloc (.cells (ps.map Value.string).toArray 9)) by rw[← hb2];exact Row.new W1 (ps.map Value.string) 9)
 have HB2:=Lib.hid (below_alloc W1 (.cells (ps.map Value.string).toArray 9))
 obtain⟨W2,hW2⟩:∃ W2,W1.alloc (.cells (ps.map Value.string).toArray 9)=W2:=⟨_,rfl⟩
 rw[hW2,hb2] at H40
 rw[hW2] at HW2 HB2
 obtain⟨g,hgd⟩:∃ g,W2.heap.size=g:=⟨_,rfl⟩
 have HR3:=Lib.hid (show Row (W2.alloc (.cells (aC zC) 74)) g (cC zC) 74 by rw[← hgd];exact Row.new W2 (cC zC) 74)
 have HB3:=Lib.hid (below_alloc W2 (.cells (aC zC) 74))
 obtain⟨W3,hW3⟩:∃ W3,W2.alloc (.cells (aC zC) 74)=W3:=⟨_,rfl⟩
 rw[hW3] at HR3 HB3
 have hg3:g<W3.heap.size:=HR3.out.lt
 have HW3:=Lib.hid hW3
 clear hW3
 have hb2g:b2<g:=by rw[← hgd];exact Row.lt HW2.out
 have hr0b:r0<b2:=by rw[← hb2];exact HR0.out.lt
 have HWS:=Lib.hid (show WsAt b2 ps W3 from Row.keep HW2.out HB3.out)
 have HRR:=Lib.hid ((HR0.out.keep HB2.out).keep HB3.out)
 have HBW:=Lib.hid (Below.step (Below.step HB0.out HB2.out) HB3.out)
 have HL3:=Lib.hid (hL.keep HBW.out)
 have HBR:=Lib.hid (show Below r0 w W3 by rw[← hr0];exact HBW.out)
 have HGG:=Lib.hid (show 0<W3.heap.size from by have h1:0<w.heap.size:=hL.forms.lt0;have:=HBW.out.size;omega)
 have hg0:g≠0:=by have h1:0<w.heap.size:=hL.forms.lt0;omega
 obtain⟨w0,hw0⟩:∃ w0,ps.headD ⟨#[]⟩=w0:=⟨_,rfl⟩
 have c00:ps[0]? = some w0:=by
  rw[← hw0]
  cases ps with
  | nil=>simp at hN;omega
  | cons a t=>rfl
 have HN:=Lib.hid (And.intro hN (And.intro hpsz (And.intro hw0 c00)))
 clear hmx hg hps hlen hN hpl hpsz HB2 HW2 HR0 hw0 c00
 go_enter Tryz.func58,Tryz.ntmps58
 go_wp2_with (go_at_call 60;refine H40.out.mono ?_;rintro e w2 ⟨rfl,rfl⟩)
 rw[HW3.out]
 go_loopw [6] (fun i wr=>∃ m:Nat,1≤m∧m≤12∧i=.int .i64 (m:Int)∧Row wr g (cC { zC with verb:=((vb w0 (m - 1):Nat):Int) }) 74∧One g W3 wr) (fun i _=>13 - (intOf i).toNat)
 case atStart=>exact⟨1,by omega,by omega,rfl,HR3.out,One.refl⟩
 case round =>
  obtain⟨m,hm1,hm12,rfl,hr,ho⟩:=hrel
  have HK:=Lib.hid (And.intro hr ho)
  have hgl:=hr.lt
  by_cases hlt:m<12
  ·have hmi:(m:Int)≤11:=by omega
   have hm0:0≤(m:Int):=by omega
   have hmL:(m:Int)<12:=by omega
   have hNi:(0:Int)<(N:Int):=by omega
   have hNn:0<N:=by omega
   have hmf:m<formsL.length:=hlt
   obtain⟨wdm,hwdm⟩:∃ wdm,formsL[m].1=wdm:=⟨_,rfl⟩
   have HLW:=Lib.hid (HL3.out.forms.keep1 ho (by omega) HGG.out)
   have k3:=HLW.out.w0 hmf
   rw[hwdm] at k3
   have k6:wr.cell? ⟨b2,0,none⟩=some (.string w0):=by
    have h:=(ho.row HWS.out (by omega)).cell 0
    rw[h,List.getElem?_map,HN.out.2.2.2]
    rfl
   obtain⟨bb,hbb⟩:∃ bb,(wdm.toList==w0.toList)=bb:=⟨_,rfl⟩
   have HBB:=Lib.hid hbb
   have HV:=Lib.hid (show vb w0 m=if bb=true then m else vb w0 (m - 1) by
    obtain⟨m',rfl⟩:∃ m',m=m'+1:=⟨m - 1,by omega⟩
    rw[vb,List.getElem?_eq_getElem hmf,Nat.add_sub_cancel]
    show (if bl formsL[m'+1].1=bl w0 then _ else _)=_
    rw[hwdm,← hbb,ByteArray.toList_eq,ByteArray.toList_eq]
    simp)
   clear hr ho hwdm hbb
   go_wp2
   refine AnyO.wp_any (by kernel_rfl) (by kernel_rfl) (pstP [isV (.int .i64 (m:Int)),isV (.pointer (some ⟨0,m * 3,none⟩)),isV (.pointer (some ⟨0,m * 3,none⟩)),isV (.string wdm),isV (.slice (some ⟨b2,0,none⟩) N N),isV (.pointer (some ⟨b2,0,none⟩)),isV (.string w0),isV (.bool bb)]) (MonoL.cons (Mono.v _) (MonoL.cons (Mono.v _) (MonoL.cons (Mono.v _) (MonoL.cons (Mono.v _) (MonoL.cons (Mono.v _) (MonoL.cons (Mono.v _) (MonoL.cons (Mono.v _) (MonoL.cons (Mono.v _) MonoL.nil)))))))) ?_ ?_
   ·intro i hi
    have hi2:i=0∨i=1∨i=2∨i=3∨i=4∨i=5∨i=6∨i=7:=by simp only[List.size_toArray,List.length_cons,List.length_nil] at hi;omega
    clear hi
    rcases hi2 with rfl|rfl|rfl|rfl|rfl|rfl|rfl|rfl
    all_goals
     refine AnyO.T rfl ?_;intro vs u hE hp ac hb K hK
     try have s6:ac.tmps[6]?.getD undef=.int .i64 (m:Int):=by rw[hb.out];kernel_rfl
     try have s17:_=_:=AnyO.sw 17 0 hb hp
     try have s18:_=_:=AnyO.sw 18 1 hb hp
     try have s19:_=_:=AnyO.sw 19 2 hb hp
     try have s4:ac.tmps[4]?.getD undef=.slice (some ⟨b2,0,none⟩) N N:=by rw[hb.out];kernel_rfl
     try have s21:_=_:=AnyO.sw 21 4 hb hp
     try have s22:_=_:=AnyO.sw 22 5 hb hp
     try have s20:_=_:=AnyO.sw 20 3 hb hp
     try have s23:_=_:=AnyO.sw 23 6 hb hp
     have rr_0:=cell_below k3 (Below.step (below_drew _) hE)
     have rr_1:=cell_below k6 (Below.step (below_drew _) hE)
     have rr_2:=HBB.out
     go_simp
     exact hK _ _ (Below.refl _ _) rfl
   ·intro vs u hE hp
    have e0:_=_:=hp 0 (by decide)
    have e1:_=_:=hp 1 (by decide)
    have e2:_=_:=hp 2 (by decide)
    have e3:_=_:=hp 3 (by decide)
    have e4:_=_:=hp 4 (by decide)
    have e5:_=_:=hp 5 (by decide)
    have e6:_=_:=hp 6 (by decide)
    have e7:_=_:=hp 7 (by decide)
    clear hp
    have HE:=Lib.hid hE
    clear hE
    rw[puts_range [some 17,some 18,some 19,some 20,some 21,some 22,some 23,some 24] (by kernel_rfl)]
    simp only[putL,Nat.reduceAdd,e0,e1,e2,e3,e4,e5,e6,e7]
    clear e0 e1 e2 e3 e4 e5 e6 e7
    go_simp
    have hru:=HK.out.1.keep HE.out
    have hou:=HK.out.2.trans (One.of_below HE.out)
    have q0:u.cell? ⟨g,0,none⟩=some (.int .i64 ((vb w0 (m - 1):Nat):Int)):=hru.cell 0
    have f0:=hru.fz 0
    have HU:=Lib.hid (And.intro hru hou)
    clear hru hou k3 k6
    cases bb with
    | true =>
     go_wp2
     go_roundw
     case rel =>
      refine⟨m+1,by omega,by omega,by go_num,?_,HU.out.2.trans (One.set _ _)⟩
      have h:=HU.out.1.set 0 (.int .i64 (m:Int))
      rw[cC_set0] at h
      rw[Nat.add_sub_cancel,HV.out,if_pos rfl]
      exact h
     case measure=>simp[intOf] <;> omega
    | false =>
     go_wp2
     go_roundw
     case rel=>exact⟨m+1,by omega,by omega,by go_num,by rw[Nat.add_sub_cancel,HV.out,if_neg (by decide)];exact HU.out.1,HU.out.2⟩
     case measure=>simp[intOf] <;> omega
  ·obtain rfl:m=12:=by omega
   have q0:wr.cell? ⟨g,0,none⟩=some (.int .i64 ((vb w0 11:Nat):Int)):=hr.cell 0
   have hrr:=ho.row HRR.out (show r0≠g by omega)
   have ro:=hrr.rowOk (cC_length zC)
   obtain⟨v,hv⟩:∃ v,vb w0 11=v:=⟨_,rfl⟩
   have hv11:v≤11:=by rw[← hv];exact vb_le w0 11
   rw[hv] at q0
   have HV:=Lib.hid hv
   clear hv
   by_cases hv0:v=0
   ·subst hv0
    have HX:=Lib.hid (show parseW ps=(zC,false) by unfold parseW;rw[HN.out.2.2.1,if_pos HV.out])
    clear hr ho hrr
    go_wp2
    exact bodyPost_ret (v:=.tuple #[vC zC,.bool false]) (results_c2 (ad:=⟨r0,0,none⟩) rfl rfl (ld_setRow zC ro) rfl) rfl ⟨by rw[HX.out],Below.setRow (Below.trans HBR.out (HK.out.2.below (show r0≤g by omega) (show r0≤W3.heap.size by omega))) (Nat.le_refl _) _⟩
   ·have hv0i:((v:Int)==0)=false:=by simp;omega
    have hv1:1≤v:=by omega
    have hNi:1≤N:=hN1
    have HX:=Lib.hid (show vb (ps.headD ⟨#[]⟩) 11=v by rw[HN.out.2.2.1];exact HV.out)
    have HRO:=Lib.hid hrr
    clear hr ho hrr ro
    have hvf:v<formsL.length:=by show v<12;omega
    obtain⟨fl,hfl⟩:∃ fl,formsL[v].2.1=fl:=⟨_,rfl⟩
    have hflv:flOf v=fl:=by unfold flOf;rw[List.getElem?_eq_getElem hvf];exact hfl
    have hvL:(v:Int)<12:=by omega
    obtain⟨tb,htb⟩:∃ tb,wr.heap.size=tb:=⟨_,rfl⟩
    have htl:tb<(wr.alloc (.cells (aRs g rdL) 171)).heap.size:=by rw[← htb];simp
    have HT4:=Lib.hid (show Row (wr.alloc (.cells (aRs g rdL) 171)) tb (rdL.flatMap (cR g)) 171 by rw[← htb];exact Row.new wr (rdL.flatMap (cR g)) 171)
    have HB4:=Lib.hid (below_alloc wr (.cells (aRs g rdL) 171))
    have HG4:=Lib.hid (HK.out.1.keep HB4.out)
    have HW4:=Lib.hid (show WsAt b2 ps (wr.alloc (.cells (aRs g rdL) 171)) from Row.keep (HK.out.2.row HWS.out (by omega)) HB4.out)
    have HF4:=Lib.hid ((HL3.out.forms.keep1 HK.out.2 hg0 HGG.out).keep HB4.out)
    have HO4:=Lib.hid (HRO.out.keep HB4.out)
    have hgt:g<tb:=by rw[← htb];exact hgl
    have HBX:=Lib.hid (show Below r0 w (wr.alloc (.cells (aRs g rdL) 171)) from (HBR.out.trans (HK.out.2.below (show r0≤g by omega) (show r0≤W3.heap.size by omega))).trans (HB4.out.mono (show r0≤wr.heap.size by omega)))
    have h04:0<(wr.alloc (.cells (aRs g rdL) 171)).heap.size:=HF4.out.lt0
    have HFL:=Lib.hid (And.intro hfl hflv)
    clear hfl hflv q0
    have q0:wr.cell? ⟨g,0,none⟩=some (.int .i64 (v:Int)):=by
     have h:wr.cell? ⟨g,0,none⟩=some (.int .i64 ((vb w0 (12 - 1):Nat):Int)):=HK.out.1.cell 0
     rw[h,show (12:Nat) - 1=11 from rfl,HV.out]
    by_cases hNN:N=1
    case' pos =>
     go_wp2
     change Code.wp _ _ _ _ (wr.alloc (.cells (aRs g rdL) 171))
     try rw[htb]
     have hst:∃ (n o:Nat) (A:Addr),(Value.slice (some ⟨b2,0,none⟩) 0 0=.slice (some A) n n)∧o+n=N∧(0<n→A=⟨b2,o,none⟩)∧o=1:=⟨0,1,_,rfl,by omega,(fun h=>absurd h (by omega)),rfl⟩
    case' neg =>
     have hN2:¬ N - 1=0:=by omega
     have hN3:1<N:=by omega
     go_wp2
     change Code.wp _ _ _ _ (wr.alloc (.cells (aRs g rdL) 171))
     try rw[htb]
     have hst:∃ (n o:Nat) (A:Addr),(Value.slice (some ⟨b2,1,none⟩) (N - 1) (N - 1)=.slice (some A) n n)∧o+n=N∧(0<n→A=⟨b2,o,none⟩)∧o=1:=⟨N - 1,1,_,rfl,by omega,(fun _=>rfl),rfl⟩
    all_goals
     generalize (wr.alloc (.cells (aRs g rdL) 171))=W4 at HT4 HB4 HG4 HW4 HF4 HO4 HBX htl h04 ⊢
     obtain⟨n1,o1,A1,hsv,hon,hA1,rfl⟩:=hst
     rw[hsv]
     clear hsv q0 hNN
     go_loopw [4,7,47] (fun ws ok i w5=>∃ (j n o:Nat) (A:Addr) (b:Bool) (c:Cm),j≤6∧i=.int .i64 (j:Int)∧ok=.bool b∧ws=.slice (some A) n n∧o+n=N∧(0<n→A=⟨b2,o,none⟩)∧(rdL.take j).foldl (fun st p=>stepP (flOf v) p.1 st) ((true,ps.drop 1,{ zC with verb:=(v:Int) }):PSt)=(b,ps.drop o,c)∧c.verb=(v:Int)∧Row w5 g (cC c) 74∧One g W4 w5) (fun _ _ i _=>6 - (intOf i).toNat)
     case atStart=>exact⟨0,n1,1,A1,true,_,by omega,rfl,rfl,rfl,hon,hA1,rfl,rfl,by rw[← HV.out];exact HG4.out,One.refl⟩
     case round =>
      obtain⟨j,n,o,A,b,c,hj,rfl,rfl,rfl,hon2,hA,hfold,hcv,hr5,ho5⟩:=hrel
      have HK5:=Lib.hid (And.intro hr5 (And.intro ho5 hfold))
      by_cases hlt:j<6
      ·have hjl:j<rdL.length:=hlt
       have hji:(j:Int)<6:=by omega
       obtain⟨⟨a,F⟩,hp⟩:∃ p,rdL[j]=p:=⟨_,rfl⟩
       have hmem:((a,F):Int×Nat)∈rdL:=by rw[← hp];exact List.getElem_mem hjl
       have hRd:=reads_all _ hmem
       have eF:=enter_all _ hmem
       obtain⟨t1,t2⟩:=row_rd (ho5.row HT4.out (show tb≠g by omega)) hjl
       rw[hp] at t2
       have HFD:=Lib.hid (show (rdL.take (j+1)).foldl (fun st p=>stepP (flOf v) p.1 st) ((true,ps.drop 1,{ zC with verb:=(v:Int) }):PSt)=stepP fl a (b,ps.drop o,c) by
        rw[List.take_succ_eq_append_getElem hjl,List.foldl_append,hfold,hp,HFL.out.2]
        rfl)
       have HRd:=Lib.hid hRd
       have hgl5:=hr5.lt
       obtain⟨t9,ht9⟩:∃ t9,wr.heap.size=t9:=⟨_,rfl⟩
       have HB6:=Lib.hid (below_alloc wr (.cells (aR g (a,F)) 171))
       have HG6:=Lib.hid (hr5.keep HB6.out)
       have HT9:=Lib.hid (show Row (wr.alloc (.cells (aR g (a,F)) 171)) t9 (cR g (a,F)) 171 by rw[← ht9];exact Row.new wr (cR g (a,F)) 171)
       have HW6:=Lib.hid (show WsAt b2 ps (wr.alloc (.cells (aR g (a,F)) 171)) from Row.keep (ho5.row HW4.out (show b2≠g by omega)) HB6.out)
       have HF6:=Lib.hid ((HF4.out.keep1 ho5 hg0 h04).keep HB6.out)
       clear hp hmem hRd hr5 ho5 hfold
       go_wp2
       try rw[ht9]
       generalize (wr.alloc (.cells (aR g (a,F)) 171))=W6 at HB6 HG6 HT9 HW6 HF6 ⊢
       have k1:W6.cell? ⟨g,0,none⟩=some (.int .i64 (v:Int)):=by rw[← hcv];exact HG6.out.cell 0
       have k4:=HF6.out.w1 hvf
       rw[HFL.out.1] at k4
       have k6:W6.cell? ⟨t9,0,none⟩=some (.int .i64 a):=HT9.out.cell 0
       obtain⟨z,hz⟩:∃ z,(bits BinOp.and .i64 fl a==0)=z:=⟨_,rfl⟩
       have HZ:=Lib.hid hz
       clear t1 t2 hz
       refine AnyO.wp_any (by kernel_rfl) (by kernel_rfl) (pstP [isV (.pointer (some ⟨g,0,none⟩)),isV (.int .i64 (v:Int)),isV (.pointer (some ⟨0,v * 3,none⟩)),isV (.pointer (some ⟨0,v * 3+1,none⟩)),isV (.int .i64 fl),isV (.pointer (some ⟨t9,0,none⟩)),isV (.int .i64 a),isV (.int .i64 (bits BinOp.and .i64 fl a)),isV (.bool z)]) (MonoL.cons (Mono.v _) (MonoL.cons (Mono.v _) (MonoL.cons (Mono.v _) (MonoL.cons (Mono.v _) (MonoL.cons (Mono.v _) (MonoL.cons (Mono.v _) (MonoL.cons (Mono.v _) (MonoL.cons (Mono.v _) (MonoL.cons (Mono.v _) MonoL.nil))))))))) ?_ ?_
       ·intro i hi
        have hi2:i=0∨i=1∨i=2∨i=3∨i=4∨i=5∨i=6∨i=7∨i=8:=by simp only[List.size_toArray,List.length_cons,List.length_nil] at hi;omega
        clear hi
        rcases hi2 with rfl|rfl|rfl|rfl|rfl|rfl|rfl|rfl|rfl
        all_goals
         refine AnyO.T rfl ?_;intro vs u hE hp ac hb K hK
         try have s5:ac.tmps[5]?.getD undef=.pointer (some ⟨g,0,none⟩):=by rw[hb.out];kernel_rfl
         try have s51:_=_:=AnyO.sw 51 0 hb hp
         try have s52:_=_:=AnyO.sw 52 1 hb hp
         try have s53:_=_:=AnyO.sw 53 2 hb hp
         try have s54:_=_:=AnyO.sw 54 3 hb hp
         try have s9:ac.tmps[9]?.getD undef=.pointer (some ⟨t9,0,none⟩):=by rw[hb.out];kernel_rfl
         try have s56:_=_:=AnyO.sw 56 5 hb hp
         try have s55:_=_:=AnyO.sw 55 4 hb hp
         try have s57:_=_:=AnyO.sw 57 6 hb hp
         try have s58:_=_:=AnyO.sw 58 7 hb hp
         have rr_0:=cell_below k1 (Below.step (below_drew _) hE)
         have rr_1:=cell_below k4 (Below.step (below_drew _) hE)
         have rr_2:=cell_below k6 (Below.step (below_drew _) hE)
         have rr_3:=HZ.out
         go_simp
         exact hK _ _ (Below.refl _ _) rfl
       ·intro vs u hE hp
        have e0:_=_:=hp 0 (by decide)
        have e1:_=_:=hp 1 (by decide)
        have e2:_=_:=hp 2 (by decide)
        have e3:_=_:=hp 3 (by decide)
        have e4:_=_:=hp 4 (by decide)
        have e5:_=_:=hp 5 (by decide)
        have e6:_=_:=hp 6 (by decide)
        have e7:_=_:=hp 7 (by decide)
        have e8:_=_:=hp 8 (by decide)
        clear hp
        have HE:=Lib.hid hE
        clear hE
        rw[puts_range [some 51,some 52,some 53,some 54,some 55,some 56,some 57,some 58,some 59] (by kernel_rfl)]
        simp only[putL,Nat.reduceAdd,e0,e1,e2,e3,e4,e5,e6,e7,e8]
        clear e0 e1 e2 e3 e4 e5 e6 e7 e8
        go_simp
        have HG7:=Lib.hid (HG6.out.keep HE.out)
        have HT7:=Lib.hid (HT9.out.keep HE.out)
        have HW7:=Lib.hid (show WsAt b2 ps u from Row.keep HW6.out HE.out)
        have HO7:=Lib.hid (((HK5.out.2.1).trans (One.of_below HB6.out)).trans (One.of_below HE.out))
        clear k1 k4 k6
        cases z with
        | true =>
         go_wp2
         go_roundw
         case rel=>exact⟨j+1,n,o,A,b,c,by omega,by go_num,rfl,rfl,hon2,hA,by rw[HFD.out];unfold stepP;rw[HZ.out];rfl,hcv,HG7.out,HO7.out⟩
         case measure=>simp[intOf] <;> omega
        | false =>
         have HSP:=Lib.hid (show stepP fl a (b,ps.drop o,c)=match ((b,ps.drop o,c):PSt) with|(true,x :: r,c)=>((readF a x c).2,r,(readF a x c).1)|(_,ws,c)=>(false,ws.drop 1,c) by unfold stepP;rw[HZ.out];rfl)
         obtain⟨U,hU⟩:∃ U:World,U=u:=⟨_,rfl⟩
         subst hU
         have hsplit:∀ D:Nat,True:=fun _=>trivial
         clear hsplit
         cases b with
         | false =>
          go_wp2_with fail
          refine AnyO.wp_anyI (by kernel_rfl) (by kernel_rfl) (AnyO.InvG (σ:=Unit) (fun σ=>AnyO.pvL [some (.bool false),some (.bool false),some (undef),some (undef),some (undef),some (.bool false),some (.bool false),some (undef),some (undef),some (undef),some (undef),some (undef),some (undef),some (.bool false),some (.bool false)]) (fun _ _ x=>Below U.heap.size U x)) (AnyO.InvG.start (g:=()) ((Below.refl _ _).drew)) ?_ ?_
          ·intro i hi
           have hi2:i=2∨i=3∨i=4∨i=7∨i=8∨i=9∨i=10∨i=11∨i=12∨i=0∨i=1∨i=5∨i=6∨i=13∨i=14:=by simp only[List.size_toArray,List.length_cons,List.length_nil] at hi;omega
           clear hi
           rcases hi2 with rfl|rfl|rfl|rfl|rfl|rfl|rfl|rfl|rfl|rfl|rfl|rfl|rfl|rfl|rfl
           ·refine AnyO.StepI.mk rfl [1] (by kernel_rfl) ?_;rintro D vs u ⟨σ,hP,hW⟩ h0 hC hp ac hb K hK
            have s4:ac.tmps[4]?.getD undef=.slice (some A) n n:=by rw[hb];kernel_rfl
            have s61:=AnyO.slot 61 hb (by kernel_rfl) (hP 1 (hp 1 (by decide)))
            rw[if_neg (AnyO.wanted_not (g:=1) (t:=61) (want:=true) rfl rfl s61 (fun e=>by cases e))]
            exact hK undef _ (AnyO.InvG.step (g:=σ) hP rfl hW)
           ·refine AnyO.StepI.mk rfl [2,1] (by kernel_rfl) ?_;rintro D vs u ⟨σ,hP,hW⟩ h0 hC hp ac hb K hK
            have s62:=AnyO.slot 62 hb (by kernel_rfl) (hP 2 (hp 2 (by decide)))
            have s61:=AnyO.slot 61 hb (by kernel_rfl) (hP 1 (hp 1 (by decide)))
            rw[if_neg (AnyO.wanted_not (g:=1) (t:=61) (want:=true) rfl rfl s61 (fun e=>by cases e))]
            exact hK undef _ (AnyO.InvG.step (g:=σ) hP rfl hW)
           ·refine AnyO.StepI.mk rfl [3,1] (by kernel_rfl) ?_;rintro D vs u ⟨σ,hP,hW⟩ h0 hC hp ac hb K hK
            have s63:=AnyO.slot 63 hb (by kernel_rfl) (hP 3 (hp 3 (by decide)))
            have s61:=AnyO.slot 61 hb (by kernel_rfl) (hP 1 (hp 1 (by decide)))
            rw[if_neg (AnyO.wanted_not (g:=1) (t:=61) (want:=true) rfl rfl s61 (fun e=>by cases e))]
            exact hK undef _ (AnyO.InvG.step (g:=σ) hP rfl hW)
           ·refine AnyO.StepI.mk rfl [6] (by kernel_rfl) ?_;rintro D vs u ⟨σ,hP,hW⟩ h0 hC hp ac hb K hK
            have s9:ac.tmps[9]?.getD undef=.pointer (some ⟨t9,0,none⟩):=by rw[hb];kernel_rfl
            have s66:=AnyO.slot 66 hb (by kernel_rfl) (hP 6 (hp 6 (by decide)))
            rw[if_neg (AnyO.wanted_not (g:=6) (t:=66) (want:=true) rfl rfl s66 (fun e=>by cases e))]
            exact hK undef _ (AnyO.InvG.step (g:=σ) hP rfl hW)
           ·refine AnyO.StepI.mk rfl [7,6] (by kernel_rfl) ?_;rintro D vs u ⟨σ,hP,hW⟩ h0 hC hp ac hb K hK
            have s67:=AnyO.slot 67 hb (by kernel_rfl) (hP 7 (hp 7 (by decide)))
            have s66:=AnyO.slot 66 hb (by kernel_rfl) (hP 6 (hp 6 (by decide)))
            rw[if_neg (AnyO.wanted_not (g:=6) (t:=66) (want:=true) rfl rfl s66 (fun e=>by cases e))]
            exact hK undef _ (AnyO.InvG.step (g:=σ) hP rfl hW)
           ·refine AnyO.StepI.mk rfl [6] (by kernel_rfl) ?_;rintro D vs u ⟨σ,hP,hW⟩ h0 hC hp ac hb K hK
            have s4:ac.tmps[4]?.getD undef=.slice (some A) n n:=by rw[hb];kernel_rfl
            have s66:=AnyO.slot 66 hb (by kernel_rfl) (hP 6 (hp 6 (by decide)))
            rw[if_neg (AnyO.wanted_not (g:=6) (t:=66) (want:=true) rfl rfl s66 (fun e=>by cases e))]
            exact hK undef _ (AnyO.InvG.step (g:=σ) hP rfl hW)
           ·refine AnyO.StepI.mk rfl [9,6] (by kernel_rfl) ?_;rintro D vs u ⟨σ,hP,hW⟩ h0 hC hp ac hb K hK
            have s69:=AnyO.slot 69 hb (by kernel_rfl) (hP 9 (hp 9 (by decide)))
            have s66:=AnyO.slot 66 hb (by kernel_rfl) (hP 6 (hp 6 (by decide)))
            rw[if_neg (AnyO.wanted_not (g:=6) (t:=66) (want:=true) rfl rfl s66 (fun e=>by cases e))]
            exact hK undef _ (AnyO.InvG.step (g:=σ) hP rfl hW)
           ·refine AnyO.StepI.mk rfl [10,6] (by kernel_rfl) ?_;rintro D vs u ⟨σ,hP,hW⟩ h0 hC hp ac hb K hK
            have s70:=AnyO.slot 70 hb (by kernel_rfl) (hP 10 (hp 10 (by decide)))
            have s66:=AnyO.slot 66 hb (by kernel_rfl) (hP 6 (hp 6 (by decide)))
            rw[if_neg (AnyO.wanted_not (g:=6) (t:=66) (want:=true) rfl rfl s66 (fun e=>by cases e))]
            exact hK undef _ (AnyO.InvG.step (g:=σ) hP rfl hW)
           ·refine AnyO.StepI.mk rfl [8,11,6,6] (by kernel_rfl) ?_;rintro D vs u ⟨σ,hP,hW⟩ h0 hC hp ac hb K hK
            have s68:=AnyO.slot 68 hb (by kernel_rfl) (hP 8 (hp 8 (by decide)))
            have s71:=AnyO.slot 71 hb (by kernel_rfl) (hP 11 (hp 11 (by decide)))
            have s66:=AnyO.slot 66 hb (by kernel_rfl) (hP 6 (hp 6 (by decide)))
            rw[if_neg (AnyO.wanted_not (g:=6) (t:=66) (want:=true) rfl rfl s66 (fun e=>by cases e))]
            exact hK undef _ (AnyO.InvG.step (g:=σ) hP rfl hW)
           all_goals
            refine AnyO.J rfl ?_;rintro D vs u σ Q h0 hC hp ac hb K hK
            try have s7:ac.tmps[7]?.getD undef=.bool false:=by rw[hb.out];kernel_rfl
            try have s60:_=_:=AnyO.sv 60 0 hb hp Q
            try have s61:_=_:=AnyO.sv 61 1 hb hp Q
            try have s64:_=_:=AnyO.sv 64 4 hb hp Q
            try have s65:_=_:=AnyO.sv 65 5 hb hp Q
            try have s66:_=_:=AnyO.sv 66 6 hb hp Q
            try have s72:_=_:=AnyO.sv 72 12 hb hp Q
            try have s73:_=_:=AnyO.sv 73 13 hb hp Q
            go_simp
            exact hK _ _ (AnyO.InvG.step (g:=σ) Q.out.1 rfl Q.out.2)
          ·intro D vs u hI hD
           obtain⟨σ,hP,hW⟩:=hI
           have e0:_=_:=hP 0 (hD 0 (by decide))
           have e1:_=_:=hP 1 (hD 1 (by decide))
           have e2:_=_:=hP 2 (hD 2 (by decide))
           have e3:_=_:=hP 3 (hD 3 (by decide))
           have e4:_=_:=hP 4 (hD 4 (by decide))
           have e5:_=_:=hP 5 (hD 5 (by decide))
           have e6:_=_:=hP 6 (hD 6 (by decide))
           have e7:_=_:=hP 7 (hD 7 (by decide))
           have e8:_=_:=hP 8 (hD 8 (by decide))
           have e9:_=_:=hP 9 (hD 9 (by decide))
           have e10:_=_:=hP 10 (hD 10 (by decide))
           have e11:_=_:=hP 11 (hD 11 (by decide))
           have e12:_=_:=hP 12 (hD 12 (by decide))
           have e13:_=_:=hP 13 (hD 13 (by decide))
           have e14:_=_:=hP 14 (hD 14 (by decide))
           have HW:=Lib.hid hW
           clear hW hP hD
           rw[puts_range [some 60,some 61,some 62,some 63,some 64,some 65,some 66,some 67,some 68,some 69,some 70,some 71,some 72,some 73,some 7] (by kernel_rfl)]
           simp only[putL,Nat.reduceAdd,e0,e1,e2,e3,e4,e5,e6,e7,e8,e9,e10,e11,e12,e13,e14]
           clear e0 e1 e2 e3 e4 e5 e6 e7 e8 e9 e10 e11 e12 e13 e14
           go_simp
           have hru:=HG7.out.keep HW.out
           have hou:=HO7.out.trans (One.of_below HW.out)
           have HU:=Lib.hid (And.intro hru hou)
           clear hru hou
           rcases n with _|_|q
           ·go_wp2
            go_roundw
            case rel=>exact⟨j+1,0,o,_,false,c,by omega,by go_num,rfl,rfl,by omega,(fun h=>absurd h (by omega)),by rw[HFD.out,HSP.out];(rw[(show ps.drop o=[] from List.drop_eq_nil_of_le (by rw[HN.out.1];omega))];rfl),hcv,HU.out.1,HU.out.2⟩
            case measure=>simp[intOf] <;> omega
           ·go_wp2
            go_roundw
            case rel=>exact⟨j+1,0,o+1,_,false,c,by omega,by go_num,rfl,rfl,by omega,(fun h=>absurd h (by omega)),by rw[HFD.out,HSP.out];(show ((false,(ps.drop o).drop 1,c):PSt)=_;rw[List.drop_drop]),hcv,HU.out.1,HU.out.2⟩
            case measure=>simp[intOf] <;> omega
           ·obtain rfl:=hA (by omega)
            have hmin:min 1 ((q:Int)+1+1)=1:=by omega
            go_wp2
            go_roundw
            case rel=>exact⟨j+1,q+1,o+1,⟨b2,o+1,none⟩,false,c,by omega,by go_num,rfl,rfl,by omega,(fun _=>rfl),by rw[HFD.out,HSP.out];(show ((false,(ps.drop o).drop 1,c):PSt)=_;rw[List.drop_drop]),hcv,HU.out.1,HU.out.2⟩
            case measure=>simp[intOf] <;> omega
         | true =>
          by_cases hn0:n=0
          ·subst hn0
           go_wp2_with fail
           refine AnyO.wp_anyI (by kernel_rfl) (by kernel_rfl) (AnyO.InvG (σ:=Unit) (fun σ=>AnyO.pvL [some (.bool true),some (.bool true),some (.slice (some A) 0 0),some (.int .i64 0),some (.bool false),some (.bool false),some (.bool false),some (undef),some (undef),some (undef),some (undef),some (undef),some (undef),some (.bool false),some (.bool false)]) (fun _ _ x=>Below U.heap.size U x)) (AnyO.InvG.start (g:=()) ((Below.refl _ _).drew)) ?_ ?_
           ·intro i hi
            have hi2:i=2∨i=3∨i=4∨i=7∨i=8∨i=9∨i=10∨i=11∨i=12∨i=0∨i=1∨i=5∨i=6∨i=13∨i=14:=by simp only[List.size_toArray,List.length_cons,List.length_nil] at hi;omega
            clear hi
            rcases hi2 with rfl|rfl|rfl|rfl|rfl|rfl|rfl|rfl|rfl|rfl|rfl|rfl|rfl|rfl|rfl
            ·refine AnyO.StepI.mk rfl [1] (by kernel_rfl) ?_;rintro D vs u ⟨σ,hP,hW⟩ h0 hC hp ac hb K hK
             have s4:ac.tmps[4]?.getD undef=.slice (some A) 0 0:=by rw[hb];kernel_rfl
             have s61:=AnyO.slot 61 hb (by kernel_rfl) (hP 1 (hp 1 (by decide)))
             rw[if_pos (AnyO.wanted_some (g:=1) (t:=61) (want:=true) rfl rfl s61)]
             clear hb hp
             clear hC h0;have HPW:=Lib.hid (And.intro hP hW);clear hP hW;go_simp;exact hK _ _ (AnyO.InvG.step (g:=σ) HPW.out.1 rfl HPW.out.2)
            ·refine AnyO.StepI.mk rfl [2,1] (by kernel_rfl) ?_;rintro D vs u ⟨σ,hP,hW⟩ h0 hC hp ac hb K hK
             have s62:=AnyO.slot 62 hb (by kernel_rfl) (hP 2 (hp 2 (by decide)))
             have s61:=AnyO.slot 61 hb (by kernel_rfl) (hP 1 (hp 1 (by decide)))
             rw[if_pos (AnyO.wanted_some (g:=1) (t:=61) (want:=true) rfl rfl s61)]
             clear hb hp
             clear hC h0;have HPW:=Lib.hid (And.intro hP hW);clear hP hW;go_simp;exact hK _ _ (AnyO.InvG.step (g:=σ) HPW.out.1 rfl HPW.out.2)
            ·refine AnyO.StepI.mk rfl [3,1] (by kernel_rfl) ?_;rintro D vs u ⟨σ,hP,hW⟩ h0 hC hp ac hb K hK
             have s63:=AnyO.slot 63 hb (by kernel_rfl) (hP 3 (hp 3 (by decide)))
             have s61:=AnyO.slot 61 hb (by kernel_rfl) (hP 1 (hp 1 (by decide)))
             rw[if_pos (AnyO.wanted_some (g:=1) (t:=61) (want:=true) rfl rfl s61)]
             clear hb hp
             clear hC h0;have HPW:=Lib.hid (And.intro hP hW);clear hP hW;go_simp;exact hK _ _ (AnyO.InvG.step (g:=σ) HPW.out.1 rfl HPW.out.2)
            ·refine AnyO.StepI.mk rfl [6] (by kernel_rfl) ?_;rintro D vs u ⟨σ,hP,hW⟩ h0 hC hp ac hb K hK
             have s9:ac.tmps[9]?.getD undef=.pointer (some ⟨t9,0,none⟩):=by rw[hb];kernel_rfl
             have s66:=AnyO.slot 66 hb (by kernel_rfl) (hP 6 (hp 6 (by decide)))
             rw[if_neg (AnyO.wanted_not (g:=6) (t:=66) (want:=true) rfl rfl s66 (fun e=>by cases e))]
             exact hK undef _ (AnyO.InvG.step (g:=σ) hP rfl hW)
            ·refine AnyO.StepI.mk rfl [7,6] (by kernel_rfl) ?_;rintro D vs u ⟨σ,hP,hW⟩ h0 hC hp ac hb K hK
             have s67:=AnyO.slot 67 hb (by kernel_rfl) (hP 7 (hp 7 (by decide)))
             have s66:=AnyO.slot 66 hb (by kernel_rfl) (hP 6 (hp 6 (by decide)))
             rw[if_neg (AnyO.wanted_not (g:=6) (t:=66) (want:=true) rfl rfl s66 (fun e=>by cases e))]
             exact hK undef _ (AnyO.InvG.step (g:=σ) hP rfl hW)
            ·refine AnyO.StepI.mk rfl [6] (by kernel_rfl) ?_;rintro D vs u ⟨σ,hP,hW⟩ h0 hC hp ac hb K hK
             have s4:ac.tmps[4]?.getD undef=.slice (some A) 0 0:=by rw[hb];kernel_rfl
             have s66:=AnyO.slot 66 hb (by kernel_rfl) (hP 6 (hp 6 (by decide)))
             rw[if_neg (AnyO.wanted_not (g:=6) (t:=66) (want:=true) rfl rfl s66 (fun e=>by cases e))]
             exact hK undef _ (AnyO.InvG.step (g:=σ) hP rfl hW)
            ·refine AnyO.StepI.mk rfl [9,6] (by kernel_rfl) ?_;rintro D vs u ⟨σ,hP,hW⟩ h0 hC hp ac hb K hK
             have s69:=AnyO.slot 69 hb (by kernel_rfl) (hP 9 (hp 9 (by decide)))
             have s66:=AnyO.slot 66 hb (by kernel_rfl) (hP 6 (hp 6 (by decide)))
             rw[if_neg (AnyO.wanted_not (g:=6) (t:=66) (want:=true) rfl rfl s66 (fun e=>by cases e))]
             exact hK undef _ (AnyO.InvG.step (g:=σ) hP rfl hW)
            ·refine AnyO.StepI.mk rfl [10,6] (by kernel_rfl) ?_;rintro D vs u ⟨σ,hP,hW⟩ h0 hC hp ac hb K hK
             have s70:=AnyO.slot 70 hb (by kernel_rfl) (hP 10 (hp 10 (by decide)))
             have s66:=AnyO.slot 66 hb (by kernel_rfl) (hP 6 (hp 6 (by decide)))
             rw[if_neg (AnyO.wanted_not (g:=6) (t:=66) (want:=true) rfl rfl s66 (fun e=>by cases e))]
             exact hK undef _ (AnyO.InvG.step (g:=σ) hP rfl hW)
            ·refine AnyO.StepI.mk rfl [8,11,6,6] (by kernel_rfl) ?_;rintro D vs u ⟨σ,hP,hW⟩ h0 hC hp ac hb K hK
             have s68:=AnyO.slot 68 hb (by kernel_rfl) (hP 8 (hp 8 (by decide)))
             have s71:=AnyO.slot 71 hb (by kernel_rfl) (hP 11 (hp 11 (by decide)))
             have s66:=AnyO.slot 66 hb (by kernel_rfl) (hP 6 (hp 6 (by decide)))
             rw[if_neg (AnyO.wanted_not (g:=6) (t:=66) (want:=true) rfl rfl s66 (fun e=>by cases e))]
             exact hK undef _ (AnyO.InvG.step (g:=σ) hP rfl hW)
            all_goals
             refine AnyO.J rfl ?_;rintro D vs u σ Q h0 hC hp ac hb K hK
             try have s7:ac.tmps[7]?.getD undef=.bool true:=by rw[hb.out];kernel_rfl
             try have s60:_=_:=AnyO.sv 60 0 hb hp Q
             try have s61:_=_:=AnyO.sv 61 1 hb hp Q
             try have s64:_=_:=AnyO.sv 64 4 hb hp Q
             try have s65:_=_:=AnyO.sv 65 5 hb hp Q
             try have s66:_=_:=AnyO.sv 66 6 hb hp Q
             try have s72:_=_:=AnyO.sv 72 12 hb hp Q
             try have s73:_=_:=AnyO.sv 73 13 hb hp Q
             go_simp
             exact hK _ _ (AnyO.InvG.step (g:=σ) Q.out.1 rfl Q.out.2)
           ·intro D vs u hI hD
            obtain⟨σ,hP,hW⟩:=hI
            have e0:_=_:=hP 0 (hD 0 (by decide))
            have e1:_=_:=hP 1 (hD 1 (by decide))
            have e2:_=_:=hP 2 (hD 2 (by decide))
            have e3:_=_:=hP 3 (hD 3 (by decide))
            have e4:_=_:=hP 4 (hD 4 (by decide))
            have e5:_=_:=hP 5 (hD 5 (by decide))
            have e6:_=_:=hP 6 (hD 6 (by decide))
            have e7:_=_:=hP 7 (hD 7 (by decide))
            have e8:_=_:=hP 8 (hD 8 (by decide))
            have e9:_=_:=hP 9 (hD 9 (by decide))
            have e10:_=_:=hP 10 (hD 10 (by decide))
            have e11:_=_:=hP 11 (hD 11 (by decide))
            have e12:_=_:=hP 12 (hD 12 (by decide))
            have e13:_=_:=hP 13 (hD 13 (by decide))
            have e14:_=_:=hP 14 (hD 14 (by decide))
            have HW:=Lib.hid hW
            clear hW hP hD
            rw[puts_range [some 60,some 61,some 62,some 63,some 64,some 65,some 66,some 67,some 68,some 69,some 70,some 71,some 72,some 73,some 7] (by kernel_rfl)]
            simp only[putL,Nat.reduceAdd,e0,e1,e2,e3,e4,e5,e6,e7,e8,e9,e10,e11,e12,e13,e14]
            clear e0 e1 e2 e3 e4 e5 e6 e7 e8 e9 e10 e11 e12 e13 e14
            go_simp
            have hru:=HG7.out.keep HW.out
            have hou:=HO7.out.trans (One.of_below HW.out)
            have HU:=Lib.hid (And.intro hru hou)
            clear hru hou
            go_wp2
            go_roundw
            case rel=>exact⟨j+1,0,o,_,false,c,by omega,by go_num,rfl,rfl,by omega,(fun h=>absurd h (by omega)),by rw[HFD.out,HSP.out];(rw[(show ps.drop o=[] from List.drop_eq_nil_of_le (by rw[HN.out.1];omega))];rfl),hcv,HU.out.1,HU.out.2⟩
            case measure=>simp[intOf] <;> omega
          ·have hnp:0<n:=by omega
           obtain rfl:=hA hnp
           have hol:o<ps.length:=by rw[HN.out.1];omega
           obtain⟨x0,hx0⟩:∃ x,ps[o]=x:=⟨_,rfl⟩
           have hdr:ps.drop o=x0 :: ps.drop (o+1):=by rw[List.drop_eq_getElem_cons hol,hx0]
           have hxs:x0.size≤1000000:=HN.out.2.1 x0 (by rw[← hx0];exact List.getElem_mem hol)
           obtain⟨⟨c2,rb⟩,hrf⟩:∃ r,readF a x0 c=r:=⟨_,rfl⟩
           have hc2:c2.verb=(v:Int):=by rw[← hcv,← readF_verb a x0 c,hrf]
           have kx:U.cell? ⟨b2,o,none⟩=some (.string x0):=by rw[← hx0];exact WsAt.cell HW7.out hol
           have HRF:=Lib.hid hrf
           have HX0:=Lib.hid (And.intro kx hdr)
           clear hx0 hrf kx hdr
           go_wp2_with fail
           refine AnyO.wp_anyI (by kernel_rfl) (by kernel_rfl) (AnyO.InvG (σ:=Unit) (fun σ=>AnyO.pvL [some (.bool true),some (.bool true),some (.slice (some ⟨b2,o,none⟩) n n),some (.int .i64 (n:Int)),some (.bool true),some (.bool true),some (.bool true),some (.pointer (some ⟨t9,1,none⟩)),some (.func (.func F) #[] #[.pointer (some ⟨g,0,none⟩)]),some (.slice (some ⟨b2,o,none⟩) n n),some (.pointer (some ⟨b2,o,none⟩)),some (.string x0),some (.bool rb),some (.bool rb),some (.bool rb)]) (fun _ D x=>(D 12=false→Below U.heap.size U x)∧(D 12=true→Row x g (cC c2) 74∧One g U x))) (AnyO.InvG.start (g:=()) (⟨fun _=>(Below.refl _ _).drew,fun h=>by cases h⟩)) ?_ ?_
           ·intro i hi
            have hi2:i=2∨i=3∨i=4∨i=7∨i=8∨i=9∨i=10∨i=11∨i=12∨i=0∨i=1∨i=5∨i=6∨i=13∨i=14:=by simp only[List.size_toArray,List.length_cons,List.length_nil] at hi;omega
            clear hi
            rcases hi2 with rfl|rfl|rfl|rfl|rfl|rfl|rfl|rfl|rfl|rfl|rfl|rfl|rfl|rfl|rfl
            ·refine AnyO.StepI.mk rfl [1] (by kernel_rfl) ?_;rintro D vs u ⟨σ,hP,hW⟩ h0 hC hp ac hb K hK
             have s4:ac.tmps[4]?.getD undef=.slice (some ⟨b2,o,none⟩) n n:=by rw[hb];kernel_rfl
             have s61:=AnyO.slot 61 hb (by kernel_rfl) (hP 1 (hp 1 (by decide)))
             rw[if_pos (AnyO.wanted_some (g:=1) (t:=61) (want:=true) rfl rfl s61)]
             clear hb hp
             clear hC h0;have HPW:=Lib.hid (And.intro hP hW);clear hP hW;go_simp;exact hK _ _ (AnyO.InvG.step (g:=σ) HPW.out.1 rfl HPW.out.2)
            ·refine AnyO.StepI.mk rfl [2,1] (by kernel_rfl) ?_;rintro D vs u ⟨σ,hP,hW⟩ h0 hC hp ac hb K hK
             have s62:=AnyO.slot 62 hb (by kernel_rfl) (hP 2 (hp 2 (by decide)))
             have s61:=AnyO.slot 61 hb (by kernel_rfl) (hP 1 (hp 1 (by decide)))
             rw[if_pos (AnyO.wanted_some (g:=1) (t:=61) (want:=true) rfl rfl s61)]
             clear hb hp
             clear hC h0;have HPW:=Lib.hid (And.intro hP hW);clear hP hW;go_simp;exact hK _ _ (AnyO.InvG.step (g:=σ) HPW.out.1 rfl HPW.out.2)
            ·refine AnyO.StepI.mk rfl [3,1] (by kernel_rfl) ?_;rintro D vs u ⟨σ,hP,hW⟩ h0 hC hp ac hb K hK
             have s63:=AnyO.slot 63 hb (by kernel_rfl) (hP 3 (hp 3 (by decide)))
             have s61:=AnyO.slot 61 hb (by kernel_rfl) (hP 1 (hp 1 (by decide)))
             rw[if_pos (AnyO.wanted_some (g:=1) (t:=61) (want:=true) rfl rfl s61)]
             clear hb hp
             clear hC h0;have HPW:=Lib.hid (And.intro hP hW);clear hP hW;go_simp;exact hK _ _ (AnyO.InvG.step (g:=σ) HPW.out.1 rfl HPW.out.2)
            ·refine AnyO.StepI.mk rfl [6] (by kernel_rfl) ?_;rintro D vs u ⟨σ,hP,hW⟩ h0 hC hp ac hb K hK
             have s9:ac.tmps[9]?.getD undef=.pointer (some ⟨t9,0,none⟩):=by rw[hb];kernel_rfl
             have s66:=AnyO.slot 66 hb (by kernel_rfl) (hP 6 (hp 6 (by decide)))
             rw[if_pos (AnyO.wanted_some (g:=6) (t:=66) (want:=true) rfl rfl s66)]
             clear hb hp
             clear hC h0;have HPW:=Lib.hid (And.intro hP hW);clear hP hW;go_simp;exact hK _ _ (AnyO.InvG.step (g:=σ) HPW.out.1 rfl HPW.out.2)
            ·refine AnyO.StepI.mk rfl [7,6] (by kernel_rfl) ?_;rintro D vs u ⟨σ,hP,hW⟩ h0 hC hp ac hb K hK
             have s67:=AnyO.slot 67 hb (by kernel_rfl) (hP 7 (hp 7 (by decide)))
             have s66:=AnyO.slot 66 hb (by kernel_rfl) (hP 6 (hp 6 (by decide)))
             rw[if_pos (AnyO.wanted_some (g:=6) (t:=66) (want:=true) rfl rfl s66)]
             clear hb hp
             have hf12:=AnyO.fls (hC 12) h0 (by kernel_rfl)
             have hWb:=hW.1 hf12
             have rr:u.cell? ⟨t9,1,none⟩=some (.func (.func F) #[] #[.pointer (some ⟨g,0,none⟩)]):=(HT7.out.keep hWb).cell 1
             clear hC h0;have HPW:=Lib.hid (And.intro hP hW);clear hP hW;go_simp;exact hK _ _ (AnyO.InvG.step (g:=σ) HPW.out.1 rfl HPW.out.2)
            ·refine AnyO.StepI.mk rfl [6] (by kernel_rfl) ?_;rintro D vs u ⟨σ,hP,hW⟩ h0 hC hp ac hb K hK
             have s4:ac.tmps[4]?.getD undef=.slice (some ⟨b2,o,none⟩) n n:=by rw[hb];kernel_rfl
             have s66:=AnyO.slot 66 hb (by kernel_rfl) (hP 6 (hp 6 (by decide)))
             rw[if_pos (AnyO.wanted_some (g:=6) (t:=66) (want:=true) rfl rfl s66)]
             clear hb hp
             clear hC h0;have HPW:=Lib.hid (And.intro hP hW);clear hP hW;go_simp;exact hK _ _ (AnyO.InvG.step (g:=σ) HPW.out.1 rfl HPW.out.2)
            ·refine AnyO.StepI.mk rfl [9,6] (by kernel_rfl) ?_;rintro D vs u ⟨σ,hP,hW⟩ h0 hC hp ac hb K hK
             have s69:=AnyO.slot 69 hb (by kernel_rfl) (hP 9 (hp 9 (by decide)))
             have s66:=AnyO.slot 66 hb (by kernel_rfl) (hP 6 (hp 6 (by decide)))
             rw[if_pos (AnyO.wanted_some (g:=6) (t:=66) (want:=true) rfl rfl s66)]
             clear hb hp
             clear hC h0;have HPW:=Lib.hid (And.intro hP hW);clear hP hW;go_simp;exact hK _ _ (AnyO.InvG.step (g:=σ) HPW.out.1 rfl HPW.out.2)
            ·refine AnyO.StepI.mk rfl [10,6] (by kernel_rfl) ?_;rintro D vs u ⟨σ,hP,hW⟩ h0 hC hp ac hb K hK
             have s70:=AnyO.slot 70 hb (by kernel_rfl) (hP 10 (hp 10 (by decide)))
             have s66:=AnyO.slot 66 hb (by kernel_rfl) (hP 6 (hp 6 (by decide)))
             rw[if_pos (AnyO.wanted_some (g:=6) (t:=66) (want:=true) rfl rfl s66)]
             clear hb hp
             have hf12:=AnyO.fls (hC 12) h0 (by kernel_rfl)
             have hWb:=hW.1 hf12
             have rr:=cell_below HX0.out.1 hWb
             clear hC h0;have HPW:=Lib.hid (And.intro hP hW);clear hP hW;go_simp;exact hK _ _ (AnyO.InvG.step (g:=σ) HPW.out.1 rfl HPW.out.2)
            ·refine AnyO.StepI.mk rfl [8,11,6,6] (by kernel_rfl) ?_;rintro D vs u ⟨σ,hP,hW⟩ h0 hC hp ac hb K hK
             have s68:=AnyO.slot 68 hb (by kernel_rfl) (hP 8 (hp 8 (by decide)))
             have s71:=AnyO.slot 71 hb (by kernel_rfl) (hP 11 (hp 11 (by decide)))
             have s66:=AnyO.slot 66 hb (by kernel_rfl) (hP 6 (hp 6 (by decide)))
             rw[if_pos (AnyO.wanted_some (g:=6) (t:=66) (want:=true) rfl rfl s66)]
             clear hb hp
             clear hC
             have HPW:=Lib.hid (And.intro hP hW);clear hP hW;go_simp;obtain⟨hP,hW⟩:=HPW.out
             have hWb:=hW.1 h0
             have hcall:=HRd.out x0 c g u hxs (HG7.out.keep hWb)
             rw[HRF.out] at hcall
             refine hcall.mono ?_
             rintro e w2 ⟨rfl,hr9,ho9⟩
             exact hK _ _ (AnyO.InvG.step (g:=σ) hP rfl ⟨fun h=>(by cases h),fun _=>⟨hr9,(One.of_below hWb).trans ho9⟩⟩)
            all_goals
             refine AnyO.J rfl ?_;rintro D vs u σ Q h0 hC hp ac hb K hK
             try have s7:ac.tmps[7]?.getD undef=.bool true:=by rw[hb.out];kernel_rfl
             try have s60:_=_:=AnyO.sv 60 0 hb hp Q
             try have s61:_=_:=AnyO.sv 61 1 hb hp Q
             try have s64:_=_:=AnyO.sv 64 4 hb hp Q
             try have s65:_=_:=AnyO.sv 65 5 hb hp Q
             try have s66:_=_:=AnyO.sv 66 6 hb hp Q
             try have s72:_=_:=AnyO.sv 72 12 hb hp Q
             try have s73:_=_:=AnyO.sv 73 13 hb hp Q
             go_simp
             exact hK _ _ (AnyO.InvG.step (g:=σ) Q.out.1 rfl Q.out.2)
           ·intro D vs u hI hD
            obtain⟨σ,hP,hW⟩:=hI
            have e0:_=_:=hP 0 (hD 0 (by decide))
            have e1:_=_:=hP 1 (hD 1 (by decide))
            have e2:_=_:=hP 2 (hD 2 (by decide))
            have e3:_=_:=hP 3 (hD 3 (by decide))
            have e4:_=_:=hP 4 (hD 4 (by decide))
            have e5:_=_:=hP 5 (hD 5 (by decide))
            have e6:_=_:=hP 6 (hD 6 (by decide))
            have e7:_=_:=hP 7 (hD 7 (by decide))
            have e8:_=_:=hP 8 (hD 8 (by decide))
            have e9:_=_:=hP 9 (hD 9 (by decide))
            have e10:_=_:=hP 10 (hD 10 (by decide))
            have e11:_=_:=hP 11 (hD 11 (by decide))
            have e12:_=_:=hP 12 (hD 12 (by decide))
            have e13:_=_:=hP 13 (hD 13 (by decide))
            have e14:_=_:=hP 14 (hD 14 (by decide))
            have hz:=hW.2 (hD 12 (by decide))
            replace hW:=hz
            have HW:=Lib.hid hW
            clear hW hP hD
            rw[puts_range [some 60,some 61,some 62,some 63,some 64,some 65,some 66,some 67,some 68,some 69,some 70,some 71,some 72,some 73,some 7] (by kernel_rfl)]
            simp only[putL,Nat.reduceAdd,e0,e1,e2,e3,e4,e5,e6,e7,e8,e9,e10,e11,e12,e13,e14]
            clear e0 e1 e2 e3 e4 e5 e6 e7 e8 e9 e10 e11 e12 e13 e14
            go_simp
            have HU:=Lib.hid (And.intro HW.out.1 (HO7.out.trans HW.out.2))
            rcases n with _|_|q
            ·exact absurd hnp (by omega)
            ·go_wp2
             go_roundw
             case rel=>exact⟨j+1,0,o+1,_,rb,c2,by omega,by go_num,rfl,rfl,by omega,(fun h=>absurd h (by omega)),by rw[HFD.out,HSP.out];(rw[HX0.out.2];show (((readF a x0 c).2,ps.drop (o+1),(readF a x0 c).1):PSt)=_;rw[HRF.out]),hc2,HU.out.1,HU.out.2⟩
             case measure=>simp[intOf] <;> omega
            ·have hmin:min 1 ((q:Int)+1+1)=1:=by omega
             go_wp2
             go_roundw
             case rel=>exact⟨j+1,q+1,o+1,⟨b2,o+1,none⟩,rb,c2,by omega,by go_num,rfl,rfl,by omega,(fun _=>rfl),by rw[HFD.out,HSP.out];(rw[HX0.out.2];show (((readF a x0 c).2,ps.drop (o+1),(readF a x0 c).1):PSt)=_;rw[HRF.out]),hc2,HU.out.1,HU.out.2⟩
             case measure=>simp[intOf] <;> omega
      ·obtain rfl:j=6:=by omega
       have hrr5:=ho5.row HO4.out (show r0≠g by omega)
       have ro:=hrr5.rowOk (cC_length zC)
       obtain⟨q1,q2⟩:=hr5.okw (cC_length c)
       change rdA _ _ 39=vC c at q2
       have HBF:=Lib.hid (HBX.out.trans (ho5.below (show r0≤g by omega) (show r0≤W4.heap.size by omega)))
       have hpw:parseW ps=if b=true∧ps.drop o=[] then (c,true) else (zC,false):=by
        unfold parseW
        rw[HX.out,if_neg hv0]
        rw[show rdL.take 6=rdL from rfl] at hfold
        rw[hfold]
       have HPW:=Lib.hid hpw
       clear hr5 ho5 hfold hrr5 hpw
       cases b with
       | false =>
        have HE:=Lib.hid (show parseW ps=(zC,false) by rw[HPW.out];simp)
        go_wp2
        exact bodyPost_ret (v:=.tuple #[vC zC,.bool false]) (results_c2 (ad:=⟨r0,0,none⟩) rfl rfl (ld_setRow zC ro) rfl) rfl ⟨by rw[HE.out],Below.setRow HBF.out (Nat.le_refl _) _⟩
       | true =>
        by_cases hn0:n=0
        ·subst hn0
         have HE:=Lib.hid (show parseW ps=(c,true) by rw[HPW.out,if_pos ⟨rfl,List.drop_eq_nil_of_le (by rw[HN.out.1];omega)⟩])
         go_wp2
         exact bodyPost_ret (v:=.tuple #[vC c,.bool true]) (results_c2 (ad:=⟨r0,0,none⟩) rfl rfl (ld_setRow c ro) rfl) rfl ⟨by rw[HE.out],Below.setRow HBF.out (Nat.le_refl _) _⟩
        ·have hnp:0<n:=by omega
         have HE:=Lib.hid (show parseW ps=(zC,false) by
          rw[HPW.out,if_neg]
          rintro⟨_,h⟩
          have h2:=congrArg List.length h
          rw[List.length_drop,HN.out.1] at h2
          simp at h2
          omega)
         go_wp2
         exact bodyPost_ret (v:=.tuple #[vC zC,.bool false]) (results_c2 (ad:=⟨r0,0,none⟩) rfl rfl (ld_setRow zC ro) rfl) rfl ⟨by rw[HE.out],Below.setRow HBF.out (Nat.le_refl _) _⟩
end
section
open Go.RowKit
def decL (l:List UInt8):Cm×Nat×Int :=
 if Lib.indexByte l 10<0 then (if 200<l.length then (zC,0,5) else (zC,0,4))
 else if 201<(Lib.indexByte l 10).toNat then (zC,0,5)
 else if (Lib.indexByte l 10).toNat=0∨l.getD ((Lib.indexByte l 10).toNat - 1) 0≠13 then (zC,0,6)
 else if (parseL (l.take ((Lib.indexByte l 10).toNat - 1))).2=false then (zC,0,29)
 else if bits BinOp.and .i64 (flOf (parseL (l.take ((Lib.indexByte l 10).toNat - 1))).1.verb.toNat) 64==0 then ((parseL (l.take ((Lib.indexByte l 10).toNat - 1))).1,(Lib.indexByte l 10).toNat+1,0)
 else if (unL (l.drop ((Lib.indexByte l 10).toNat+1))).2.2≠0 then (zC,0,(unL (l.drop ((Lib.indexByte l 10).toNat+1))).2.2)
 else if chk { (parseL (l.take ((Lib.indexByte l 10).toNat - 1))).1 with text:=mkB (unL (l.drop ((Lib.indexByte l 10).toNat+1))).1 }≠0 then (zC,0,chk { (parseL (l.take ((Lib.indexByte l 10).toNat - 1))).1 with text:=mkB (unL (l.drop ((Lib.indexByte l 10).toNat+1))).1 })
 else ({ (parseL (l.take ((Lib.indexByte l 10).toNat - 1))).1 with text:=mkB (unL (l.drop ((Lib.indexByte l 10).toNat+1))).1 },(Lib.indexByte l 10).toNat+1+(unL (l.drop ((Lib.indexByte l 10).toNat+1))).2.1,0)
theorem dec_no (l:List UInt8) (h:Lib.indexByte l 10=-1):decL l=if 200<l.length then (zC,0,5) else (zC,0,4):=by
 unfold decL
 rw[h,if_pos (by decide)]
section
variable {l : List UInt8} {k : Nat} (h : Lib.indexByte l 10 = (k : Int))
include h
theorem dec_long (h1:201<k):decL l=(zC,0,5):=by
 unfold decL
 rw[h,if_neg (by omega),Int.toNat_natCast,if_pos h1]
theorem dec_byte (h1:¬ 201<k) (h2:k=0∨l.getD (k - 1) 0≠13):decL l=(zC,0,6):=by
 unfold decL
 rw[h,if_neg (by omega),Int.toNat_natCast,if_neg h1,if_pos h2]
variable (h1 : ¬ 201 < k) (h2 : ¬ (k = 0 ∨ l.getD (k - 1) 0 ≠ 13)) {c : Cm}
include h1 h2
theorem dec_syn {b:Cm} (hp:parseL (l.take (k - 1))=(b,false)):decL l=(zC,0,29):=by
 unfold decL
 rw[h,if_neg (by omega),Int.toNat_natCast,if_neg h1,if_neg h2,hp,if_pos rfl]
variable (hp : parseL (l.take (k - 1)) = (c, true))
include hp
theorem dec_plain (h3:(bits BinOp.and .i64 (flOf c.verb.toNat) 64==0)=true):decL l=(c,k+1,0):=by
 unfold decL
 rw[h,if_neg (by omega),Int.toNat_natCast,if_neg h1,if_neg h2,hp,if_neg (by simp),if_pos h3]
variable (h3 : (bits BinOp.and .i64 (flOf c.verb.toNat) 64 == 0) = false) {t : ByteArray} {n : Nat} {e : Int}
include h3
theorem dec_un (hu:unL (l.drop (k+1))=(bl t,n,e)) (he:e≠0):decL l=(zC,0,e):=by
 unfold decL
 rw[h,if_neg (by omega),Int.toNat_natCast,if_neg h1,if_neg h2,hp,if_neg (by simp),if_neg (by rw[h3];decide),hu,if_pos he]
theorem dec_chk (hu:unL (l.drop (k+1))=(bl t,n,0)) (he:chk { c with text:=t }≠0):decL l=(zC,0,chk { c with text:=t }):=by
 unfold decL
 rw[h,if_neg (by omega),Int.toNat_natCast,if_neg h1,if_neg h2,hp,if_neg (by simp),if_neg (by rw[h3];decide),hu,if_neg (by simp)]
 show (if chk { c with text:=t }≠0 then _ else _)=_
 rw[if_pos he]
 rfl
theorem dec_text (hu:unL (l.drop (k+1))=(bl t,n,0)) (he:chk { c with text:=t }=0):decL l=({ c with text:=t },k+1+n,0):=by
 unfold decL
 rw[h,if_neg (by omega),Int.toNat_natCast,if_neg h1,if_neg h2,hp,if_neg (by simp),if_neg (by rw[h3];decide),hu,if_neg (by simp)]
 show (if chk { c with text:=t }≠0 then _ else _)=_
 rw[if_neg (by rw[he];decide)]
 rfl
end
theorem stepP_verb (fl a:Int) (st:PSt):(stepP fl a st).2.2.verb=st.2.2.verb:=by
 obtain⟨b,ws,c⟩:=st
 unfold stepP
 split
 ·rfl
 ·cases b with
  | false=>rfl
  | true =>
   cases ws with
   | nil=>rfl
   | cons x r=>exact readF_verb a x c
theorem fold_verb (fl:Int):∀ (xs:List (Int×Nat)) (st:PSt),(xs.foldl (fun st p=>stepP fl p.1 st) st).2.2.verb=st.2.2.verb:=by
 intro xs
 induction xs with
 | nil=>intro st;rfl
 | cons p r ih=>intro st;rw[List.foldl_cons,ih,stepP_verb]
theorem parseW_verb (ws:List ByteArray) (c:Cm) (h:parseW ws=(c,true)):∃ v:Nat,1≤v∧v≤11∧c.verb=(v:Int):=by
 unfold parseW at h
 split at h
 ·simp at h
 ·next h0 =>
  simp only at h
  split at h
  ·refine⟨vb (ws.headD ⟨#[]⟩) 11,by omega,vb_le _ _,?_⟩
   rw[← (Prod.mk.inj h).1,fold_verb]
  ·simp at h
def NmOk (B:Nat) (st:PSt):Prop:=st.2.2.name.size≤B∧∀ x∈st.2.1,x.size≤B
theorem readF_name (a:Int) (s:ByteArray) (c:Cm):(readF a s c).1.name=c.name∨(readF a s c).1.name=s:=by
 unfold readF
 repeat' split
 all_goals first|exact Or.inl rfl|exact Or.inr rfl
theorem stepP_name (B:Nat) (fl a:Int) (st:PSt) (h:NmOk B st):NmOk B (stepP fl a st):=by
 obtain⟨b,ws,c⟩:=st
 obtain⟨h1,h2⟩:=h
 unfold stepP
 split
 ·exact⟨h1,h2⟩
 ·cases b with
  | false=>exact⟨h1,fun x hx=>h2 x (List.mem_of_mem_drop hx)⟩
  | true =>
   cases ws with
   | nil=>exact⟨h1,fun x hx=>by cases hx⟩
   | cons x r =>
    refine⟨?_,fun y hy=>h2 y (List.mem_cons_of_mem _ hy)⟩
    show (readF a x c).1.name.size≤B
    rcases readF_name a x c with e|e
    ·rw[e];exact h1
    ·rw[e];exact h2 x List.mem_cons_self
theorem fold_name (B:Nat) (fl:Int):∀ (xs:List (Int×Nat)) (st:PSt),NmOk B st→NmOk B (xs.foldl (fun st p=>stepP fl p.1 st) st):=by
 intro xs
 induction xs with
 | nil=>intro st h;exact h
 | cons p r ih=>intro st h;rw[List.foldl_cons];exact ih _ (stepP_name B fl p.1 st h)
theorem parseL_name (l:List UInt8):(parseL l).1.name.size≤l.length:=by
 unfold parseL parseW
 split
 ·exact Nat.zero_le _
 ·simp only
  split
  ·refine (fold_name l.length _ rdL _ ⟨Nat.zero_le _,fun x hx=>?_⟩).1
   obtain⟨y,hy,rfl⟩:=List.mem_map.1 (List.mem_of_mem_drop hx)
   have h9:=splitGo_mem 32 l [] y hy
   rw[← bl_length]
   show y.length≤l.length
   simpa using h9
  ·exact Nat.zero_le _
theorem Row.setRow {w:World} {b:Nat} {cs:List Value} {t:TypeId} (h:Row w b cs t) (ds:List Value):Row (w.setRow b ds.toArray) b ds t :=
 setRow_heap w b cs.toArray ds.toArray t (0,0) h
theorem setRow_row (c:Cm) {w:World} {b:Nat} {cs:List Value} (h:Row w b cs 74):Row (w.setRow b (aC c)) b (cC c) 74:=Row.setRow h (cC c)
theorem One.setRow {w:World} (b:Nat) (ds:Array Value):One b w (w.setRow b ds):=by
 refine⟨rfl,rfl,rfl,by simp[World.setRow],fun k _ hk=>?_⟩
 show (w.heap.modify b _)[k]? = _
 rw[Array.getElem?_modify,if_neg (fun e=>hk e.symm)]
theorem unGo_le:∀ (f:Nat) (first:Bool) (text:List UInt8) (n:Nat) (s:List UInt8),(unGo f first text n s).2.1≤n+s.length:=by
 intro f
 induction f with
 | zero=>intro first text n s;exact Nat.zero_le _
 | succ f ih =>
  intro first text n s
  obtain⟨e,k,hr⟩:∃ e k,flGo 0 s 0=(e,k):=⟨_,_,rfl⟩
  by_cases he:e=0
  ·subst he
   have hk:=flGo_lt _ _ _ _ hr
   rw[unGo_ok f first text n s k hr]
   by_cases q1:s.take (k - 1)=[46]
   ·rw[if_pos q1]
    cases first
    ·show n+(k+1)≤_
     omega
    ·exact Nat.zero_le _
   ·rw[if_neg q1]
    by_cases q2:(s.take (k - 1)).head? = some 46∧(s.take (k - 1))[1]?≠some 46
    ·rw[if_pos q2]
     exact Nat.zero_le _
    ·rw[if_neg q2]
     generalize preL first text++(if (s.take (k - 1)).head? = some 46 then (s.take (k - 1)).drop 1 else s.take (k - 1))=T
     by_cases q3:262144<T.length
     ·rw[if_pos q3]
      exact Nat.zero_le _
     ·rw[if_neg q3]
      have:=ih false T (n+(k+1)) (s.drop (k+1))
      rw[List.length_drop] at this
      omega
  ·rw[unGo_err f first text n s e k hr he]
   exact Nat.zero_le _
theorem unL_le (s:List UInt8):(unL s).2.1≤s.length:=by
 have:=unGo_le (s.length+1) true [] 0 s
 unfold unL
 omega
theorem index_nat (l:List UInt8) (c:UInt8) (h:Lib.indexByte l c≠-1):∃ k:Nat,Lib.indexByte l c=(k:Int)∧k<l.length:=by
 have hge:=Lib.indexByte_ge l c
 obtain⟨k,hk⟩:∃ k:Nat,Lib.indexByte l c=k:=⟨(Lib.indexByte l c).toNat,by omega⟩
 exact⟨k,hk,(List.getElem?_eq_some_iff.1 (Lib.indexByte_some hk).1).1⟩
set_option maxRecDepth 100000 in
set_option maxHeartbeats 6400000 in
theorem decode12 (s:ByteArray) (w:World) (hs:s.size≤1000000) (hL:Laid w):Calls Tryz.prog 28 #[.string s] w fun e w'=>e=.returned (.tuple #[vC (decL (bl s)).1,.int .i64 (decL (bl s)).2.1,.int .i64 (decL (bl s)).2.2])∧Below w.heap.size w w':=by
 obtain⟨r0,hr0⟩:∃ r0,w.heap.size=r0:=⟨_,rfl⟩
 have HB0:=Lib.hid (below_alloc w (.cells (aC zC) 74))
 have HR0:=Lib.hid (show Row (w.alloc (.cells (aC zC) 74)) r0 (cC zC) 74 by rw[← hr0];exact Row.new w (cC zC) 74)
 obtain⟨W1,hW1⟩:∃ W1,w.alloc (.cells (aC zC) 74)=W1:=⟨_,rfl⟩
 rw[hW1] at HB0 HR0
 have HL1:=Lib.hid (hL.keep HB0.out)
 have ro:=HR0.out.rowOk (cC_length zC)
 have HBR:=Lib.hid (show Below r0 w W1 by rw[← hr0];exact HB0.out)
 have H29:=Lib.hid (fun w1=>Tryz.strings_IndexByte s 10 w1)
 have HBL:=Lib.hid (bl_length s)
 by_cases hi:Lib.indexByte (bl s) 10=-1
 ·have HI:=Lib.hid (dec_no (bl s) hi)
  have hi2:Lib.indexByte s.data.toList (10:Int).toNat.toUInt8=-1:=hi
  rw[hi2] at H29
  by_cases hl:200<s.size
  ·have HX:=Lib.hid (show decL (bl s)=(zC,0,5) by rw[HI.out,if_pos (by rw[bl_length];exact hl)])
   clear hi hi2
   go_enter Tryz.func28,Tryz.ntmps28
   go_wp2_with (go_at_call 57;refine (H29.out _).mono ?_;rintro e w1 ⟨rfl,rfl⟩)
   exact bodyPost_ret (v:=.tuple #[vC zC,.int .i64 0,.int .i64 5]) (results_c3 (ad:=⟨r0,0,none⟩) rfl rfl (ld_setRow zC ro) rfl rfl) rfl ⟨by rw[HX.out];rfl,by first|exact Below.setRow HB0.out (Nat.le_of_eq hr0) _|exact Below.setRow HBR.out (Nat.le_refl _) _⟩
  ·have HX:=Lib.hid (show decL (bl s)=(zC,0,4) by rw[HI.out,if_neg (by rw[bl_length];exact hl)])
   clear hi hi2
   go_enter Tryz.func28,Tryz.ntmps28
   go_wp2_with (go_at_call 57;refine (H29.out _).mono ?_;rintro e w1 ⟨rfl,rfl⟩)
   exact bodyPost_ret (v:=.tuple #[vC zC,.int .i64 0,.int .i64 4]) (results_c3 (ad:=⟨r0,0,none⟩) rfl rfl (ld_setRow zC ro) rfl rfl) rfl ⟨by rw[HX.out];rfl,by first|exact Below.setRow HB0.out (Nat.le_of_eq hr0) _|exact Below.setRow HBR.out (Nat.le_refl _) _⟩
 obtain⟨k,hk,hks⟩:=index_nat (bl s) 10 hi
 rw[bl_length] at hks
 have hi2:Lib.indexByte s.data.toList (10:Int).toNat.toUInt8=(k:Int):=hk
 rw[hi2] at H29
 have HKI:=Lib.hid hk
 clear hi hi2 hk
 by_cases h201:201<k
 ·have HX:=Lib.hid (dec_long HKI.out h201)
  have hki:201<(k:Int):=by omega
  go_enter Tryz.func28,Tryz.ntmps28
  go_wp2_with (go_at_call 57;refine (H29.out _).mono ?_;rintro e w1 ⟨rfl,rfl⟩)
  exact bodyPost_ret (v:=.tuple #[vC zC,.int .i64 0,.int .i64 5]) (results_c3 (ad:=⟨r0,0,none⟩) rfl rfl (ld_setRow zC ro) rfl rfl) rfl ⟨by rw[HX.out];rfl,by first|exact Below.setRow HB0.out (Nat.le_of_eq hr0) _|exact Below.setRow HBR.out (Nat.le_refl _) _⟩
 have hki:¬ 201<(k:Int):=by omega
 cases k with
 | zero =>
  have HX:=Lib.hid (dec_byte HKI.out h201 (Or.inl rfl))
  go_enter Tryz.func28,Tryz.ntmps28
  go_wp2_with (go_at_call 57;refine (H29.out _).mono ?_;rintro e w1 ⟨rfl,rfl⟩)
  exact bodyPost_ret (v:=.tuple #[vC zC,.int .i64 0,.int .i64 6]) (results_c3 (ad:=⟨r0,0,none⟩) rfl rfl (ld_setRow zC ro) rfl rfl) rfl ⟨by rw[HX.out];rfl,by first|exact Below.setRow HB0.out (Nat.le_of_eq hr0) _|exact Below.setRow HBR.out (Nat.le_refl _) _⟩
 | succ j =>
  have hj:j<s.size:=by omega
  have hgd:(bl s).getD (j+1 - 1) 0=s[j]:=by rw[Nat.add_sub_cancel];exact getD_at s j hj
  by_cases h13:s[j]=13
  case neg =>
   have e13:(((s[j].toNat:Nat):Int) != 13)=true:=by
    unfold bne
    rw[show (13:Int)=(((13:UInt8).toNat:Nat):Int) from rfl,byte_is]
    simpa using h13
   have HX:=Lib.hid (dec_byte HKI.out h201 (Or.inr (by rw[hgd];exact h13)))
   clear h13 hgd
   go_enter Tryz.func28,Tryz.ntmps28
   go_wp2_with (go_at_call 57;refine (H29.out _).mono ?_;rintro e w1 ⟨rfl,rfl⟩)
   exact bodyPost_ret (v:=.tuple #[vC zC,.int .i64 0,.int .i64 6]) (results_c3 (ad:=⟨r0,0,none⟩) rfl rfl (ld_setRow zC ro) rfl rfl) rfl ⟨by rw[HX.out];rfl,by first|exact Below.setRow HB0.out (Nat.le_of_eq hr0) _|exact Below.setRow HBR.out (Nat.le_refl _) _⟩
  have e13:(((s[j].toNat:Nat):Int) != 13)=false:=by
   unfold bne
   rw[show (13:Int)=(((13:UInt8).toNat:Nat):Int) from rfl,byte_is]
   simpa using h13
  have HN2:=Lib.hid (show ¬ (j+1=0∨(bl s).getD (j+1 - 1) 0≠13) by rw[hgd,h13];simp)
  have hbl:bl (s.extract 0 j)=(bl s).take (j+1 - 1):=by
   rw[bl_seg s 0 j (by omega)]
   unfold seg
   rw[List.drop_zero,Nat.sub_zero,Nat.add_sub_cancel]
  obtain⟨⟨c1,ok⟩,hpp⟩:∃ r,parseL ((bl s).take (j+1 - 1))=r:=⟨_,rfl⟩
  have H30:=Lib.hid (fun w1 (hl:Laid w1)=>parse30 (s.extract 0 j) w1 (by rw[ByteArray.size_extract];omega) hl)
  rw[hbl,hpp] at H30
  have HPP:=Lib.hid hpp
  clear hgd h13 hbl hpp
  cases ok with
  | false =>
   have HX:=Lib.hid (dec_syn HKI.out h201 HN2.out HPP.out)
   go_enter Tryz.func28,Tryz.ntmps28
   go_wp2_with (first
    | (go_at_call 57;refine (H29.out _).mono ?_;rintro e w1 ⟨rfl,rfl⟩)
    | (go_at_call 58;refine (H30.out _ HL1.out).mono ?_;rintro e w2 ⟨rfl,hb2⟩;have hrow:=HR0.out.keep hb2;have ro1:=hrow.rowOk (cC_length zC);have ro2:=(setRow_row c1 hrow).rowOk (cC_length c1);have H2:=Lib.hid hb2;clear hb2 hrow))
   exact bodyPost_ret (v:=.tuple #[vC zC,.int .i64 0,.int .i64 29]) (results_c3 (ad:=⟨r0,0,none⟩) rfl rfl (ld_setRow zC ro2) rfl rfl) rfl ⟨by rw[HX.out];rfl,Below.setRow (Below.setRow (HB0.out.trans (H2.out.mono HB0.out.size)) (Nat.le_of_eq hr0) _) (Nat.le_of_eq hr0) _⟩
  | true =>
   obtain⟨v,hv1,hv11,hcv⟩:=parseW_verb _ c1 HPP.out
   have hvf:v<formsL.length:=by show v<12;omega
   obtain⟨fl,hfl⟩:∃ fl,formsL[v].2.1=fl:=⟨_,rfl⟩
   have hflv:flOf c1.verb.toNat=fl:=by rw[hcv,Int.toNat_natCast];unfold flOf;rw[List.getElem?_eq_getElem hvf];exact hfl
   have HV:=Lib.hid (And.intro hcv (And.intro hfl hflv))
   have hvL:(v:Int)<12:=by omega
   have hr0f:r0≠0:=by have:=hL.forms.lt0;omega
   have hnm:c1.name.size≤1000000:=by
    have h1:=parseL_name ((bl s).take (j+1 - 1))
    rw[HPP.out,List.length_take,bl_length] at h1
    have h2:c1.name.size≤min (j+1 - 1) s.size:=h1
    omega
   have HNM:=Lib.hid hnm
   clear hcv hfl hflv hnm
   obtain⟨z,hz⟩:∃ z,(bits BinOp.and .i64 fl 64==0)=z:=⟨_,rfl⟩
   have HZ:=Lib.hid (show (bits BinOp.and .i64 (flOf c1.verb.toNat) 64==0)=z by rw[HV.out.2.2];exact hz)
   cases z with
   | true =>
    have HX:=Lib.hid (dec_plain HKI.out h201 HN2.out HPP.out HZ.out)
    go_enter Tryz.func28,Tryz.ntmps28
    go_wp2_with (first
     | (go_at_call 57;refine (H29.out _).mono ?_;rintro e w1 ⟨rfl,rfl⟩)
     | (go_at_call 58;refine (H30.out _ HL1.out).mono ?_;rintro e w2 ⟨rfl,hb2⟩;have hrow:=HR0.out.keep hb2;have ro1:=hrow.rowOk (cC_length zC);have hrow3:=setRow_row c1 hrow;have ro3:=hrow3.rowOk (cC_length c1);have c0:(w2.setRow r0 (aC c1)).cell? ⟨r0,0,none⟩=some (.int .i64 (v:Int)):=(by rw[← HV.out.1];exact hrow3.cell 0);have hf2:=(HL1.out.keep hb2).forms;have hf3:=hf2.keep1 (One.setRow r0 (aC c1)) hr0f hf2.lt0;have cf:=hf3.w1 hvf;rw[HV.out.2.1] at cf;obtain⟨q1,q2⟩:=hrow3.okw (cC_length c1);change rdA _ _ 39=vC c1 at q2;have H3:=Lib.hid (And.intro hb2 (And.intro hrow3 hf3));clear hb2 hrow hrow3 hf2 hf3))
    exact bodyPost_ret (v:=.tuple #[vC c1,.int .i64 ((j:Int)+1+1),.int .i64 0]) (results_c3 (ad:=⟨r0,0,none⟩) rfl rfl (ld_setRow c1 ro3) rfl rfl) rfl ⟨by rw[HX.out];rfl,(Below.setRow (Below.setRow (HB0.out.trans (H3.out.1.mono HB0.out.size)) (Nat.le_of_eq hr0) _) (Nat.le_of_eq hr0) _)⟩
   | false =>
    have hbu:bl (s.extract (j+1+1) s.size)=(bl s).drop (j+1+1):=bl_from s _
    obtain⟨⟨ul,un,ue⟩,hu⟩:∃ r,unL ((bl s).drop (j+1+1))=r:=⟨_,rfl⟩
    obtain⟨t0,rfl⟩:∃ t0:ByteArray,bl t0=ul:=⟨mkB ul,rfl⟩
    have H19:=Lib.hid (fun w1=>unstuff19 (s.extract (j+1+1) s.size) w1 (by rw[ByteArray.size_extract];omega))
    rw[hbu,hu] at H19
    have HU:=Lib.hid hu
    clear hbu hu
    by_cases hue:ue=0
    case neg =>
     have hueb:(ue != 0)=true:=by simpa using hue
     have HX:=Lib.hid (dec_un HKI.out h201 HN2.out HPP.out HZ.out HU.out hue)
     clear hue
     go_enter Tryz.func28,Tryz.ntmps28
     go_wp2_with (first
      | (go_at_call 57;refine (H29.out _).mono ?_;rintro e w1 ⟨rfl,rfl⟩)
      | (go_at_call 58;refine (H30.out _ HL1.out).mono ?_;rintro e w2 ⟨rfl,hb2⟩;have hrow:=HR0.out.keep hb2;have ro1:=hrow.rowOk (cC_length zC);have hrow3:=setRow_row c1 hrow;have ro3:=hrow3.rowOk (cC_length c1);have c0:(w2.setRow r0 (aC c1)).cell? ⟨r0,0,none⟩=some (.int .i64 (v:Int)):=(by rw[← HV.out.1];exact hrow3.cell 0);have hf2:=(HL1.out.keep hb2).forms;have hf3:=hf2.keep1 (One.setRow r0 (aC c1)) hr0f hf2.lt0;have cf:=hf3.w1 hvf;rw[HV.out.2.1] at cf;obtain⟨q1,q2⟩:=hrow3.okw (cC_length c1);change rdA _ _ 39=vC c1 at q2;have H3:=Lib.hid (And.intro hb2 (And.intro hrow3 hf3));clear hb2 hrow hrow3 hf2 hf3)
      | (go_at_call 59;refine (H19.out _).mono ?_;rintro e w3 ⟨t,rfl,ht,hb3⟩;obtain rfl:t=t0:=bl_inj ht;have hrow4:=H3.out.2.1.keep hb3;have ro4:=hrow4.rowOk (cC_length c1);have c38:w3.cell? ⟨r0,38,none⟩=some (.string c1.text):=(hrow4.cell 38).trans (cC_at (aC_38 c1));have f38:=hrow4.fz 38;have hrow5:=hrow4.set 38 (.string t);rw[cC_set38] at hrow5;obtain⟨q3,q4⟩:=hrow5.okw (cC_length _);change rdA _ _ 39=vC _ at q4;have H4:=Lib.hid (And.intro hb3 (And.intro hrow5 ((H3.out.2.2.keep hb3).keep1 (One.set (g:=r0) 38 (.string t)) hr0f (H3.out.2.2.keep hb3).lt0)));clear hb3 hrow4 hrow5 ht))
     exact bodyPost_ret (v:=.tuple #[vC zC,.int .i64 0,.int .i64 ue]) (results_c3 (ad:=⟨r0,0,none⟩) rfl rfl (ld_setRow zC ro4) rfl rfl) rfl ⟨by rw[HX.out];rfl,(Below.setRow (Below.trans (Below.setRow (HB0.out.trans (H3.out.1.mono HB0.out.size)) (Nat.le_of_eq hr0) _) (H4.out.1.mono (show w.heap.size≤(w2.setRow r0 (aC c1)).heap.size from (Below.setRow (HB0.out.trans (H3.out.1.mono HB0.out.size)) (Nat.le_of_eq hr0) _).size))) (Nat.le_of_eq hr0) _)⟩
    subst hue
    have H16:=Lib.hid (fun w1 (hf:FormsAt w1)=>check16 { c1 with text:=t0 } w1 hf HNM.out)
    obtain⟨ce,hce⟩:∃ ce,chk { c1 with text:=t0 }=ce:=⟨_,rfl⟩
    rw[hce] at H16
    by_cases hc0:ce=0
    case neg =>
     have hceb:(ce != 0)=true:=by simpa using hc0
     have HX:=Lib.hid (dec_chk HKI.out h201 HN2.out HPP.out HZ.out HU.out (by rw[hce];exact hc0))
     rw[hce] at HX
     clear hce hc0
     go_enter Tryz.func28,Tryz.ntmps28
     go_wp2_with (first
      | (go_at_call 57;refine (H29.out _).mono ?_;rintro e w1 ⟨rfl,rfl⟩)
      | (go_at_call 58;refine (H30.out _ HL1.out).mono ?_;rintro e w2 ⟨rfl,hb2⟩;have hrow:=HR0.out.keep hb2;have ro1:=hrow.rowOk (cC_length zC);have hrow3:=setRow_row c1 hrow;have ro3:=hrow3.rowOk (cC_length c1);have c0:(w2.setRow r0 (aC c1)).cell? ⟨r0,0,none⟩=some (.int .i64 (v:Int)):=(by rw[← HV.out.1];exact hrow3.cell 0);have hf2:=(HL1.out.keep hb2).forms;have hf3:=hf2.keep1 (One.setRow r0 (aC c1)) hr0f hf2.lt0;have cf:=hf3.w1 hvf;rw[HV.out.2.1] at cf;obtain⟨q1,q2⟩:=hrow3.okw (cC_length c1);change rdA _ _ 39=vC c1 at q2;have H3:=Lib.hid (And.intro hb2 (And.intro hrow3 hf3));clear hb2 hrow hrow3 hf2 hf3)
      | (go_at_call 59;refine (H19.out _).mono ?_;rintro e w3 ⟨t,rfl,ht,hb3⟩;obtain rfl:t=t0:=bl_inj ht;have hrow4:=H3.out.2.1.keep hb3;have ro4:=hrow4.rowOk (cC_length c1);have c38:w3.cell? ⟨r0,38,none⟩=some (.string c1.text):=(hrow4.cell 38).trans (cC_at (aC_38 c1));have f38:=hrow4.fz 38;have hrow5:=hrow4.set 38 (.string t);rw[cC_set38] at hrow5;obtain⟨q3,q4⟩:=hrow5.okw (cC_length _);change rdA _ _ 39=vC _ at q4;have H4:=Lib.hid (And.intro hb3 (And.intro hrow5 ((H3.out.2.2.keep hb3).keep1 (One.set (g:=r0) 38 (.string t)) hr0f (H3.out.2.2.keep hb3).lt0)));clear hb3 hrow4 hrow5 ht)
      | (go_at_call 53;refine (H16.out _ H4.out.2.2).mono ?_;rintro e w5 ⟨rfl,hb5⟩;have hrow6:=H4.out.2.1.keep hb5;have ro6:=hrow6.rowOk (cC_length _);obtain⟨q5,q6⟩:=hrow6.okw (cC_length _);change rdA _ _ 39=vC _ at q6;have H5:=Lib.hid hb5;clear hb5 hrow6))
     exact bodyPost_ret (v:=.tuple #[vC zC,.int .i64 0,.int .i64 ce]) (results_c3 (ad:=⟨r0,0,none⟩) rfl rfl (ld_setRow zC ro6) rfl rfl) rfl ⟨by rw[HX.out];rfl,(Below.setRow (Below.trans (Below.setCell (p:=⟨r0,38,none⟩) (Below.trans (Below.setRow (HB0.out.trans (H3.out.1.mono HB0.out.size)) (Nat.le_of_eq hr0) _) (H4.out.1.mono (show w.heap.size≤(w2.setRow r0 (aC c1)).heap.size from (Below.setRow (HB0.out.trans (H3.out.1.mono HB0.out.size)) (Nat.le_of_eq hr0) _).size))) (Nat.le_of_eq hr0) _) (H5.out.mono (Below.setCell (p:=⟨r0,38,none⟩) (Below.trans (Below.setRow (HB0.out.trans (H3.out.1.mono HB0.out.size)) (Nat.le_of_eq hr0) _) (H4.out.1.mono (show w.heap.size≤(w2.setRow r0 (aC c1)).heap.size from (Below.setRow (HB0.out.trans (H3.out.1.mono HB0.out.size)) (Nat.le_of_eq hr0) _).size))) (Nat.le_of_eq hr0) _).size)) (Nat.le_of_eq hr0) _)⟩
    subst hc0
    have HX:=Lib.hid (dec_text HKI.out h201 HN2.out HPP.out HZ.out HU.out hce)
    clear hce
    have hun:(un:Int)≤10000000:=by
     have h1:=unL_le ((bl s).drop (j+1+1))
     rw[HU.out,List.length_drop,bl_length] at h1
     simp only at h1
     omega
    go_enter Tryz.func28,Tryz.ntmps28
    go_wp2_with (first
     | (go_at_call 57;refine (H29.out _).mono ?_;rintro e w1 ⟨rfl,rfl⟩)
     | (go_at_call 58;refine (H30.out _ HL1.out).mono ?_;rintro e w2 ⟨rfl,hb2⟩;have hrow:=HR0.out.keep hb2;have ro1:=hrow.rowOk (cC_length zC);have hrow3:=setRow_row c1 hrow;have ro3:=hrow3.rowOk (cC_length c1);have c0:(w2.setRow r0 (aC c1)).cell? ⟨r0,0,none⟩=some (.int .i64 (v:Int)):=(by rw[← HV.out.1];exact hrow3.cell 0);have hf2:=(HL1.out.keep hb2).forms;have hf3:=hf2.keep1 (One.setRow r0 (aC c1)) hr0f hf2.lt0;have cf:=hf3.w1 hvf;rw[HV.out.2.1] at cf;obtain⟨q1,q2⟩:=hrow3.okw (cC_length c1);change rdA _ _ 39=vC c1 at q2;have H3:=Lib.hid (And.intro hb2 (And.intro hrow3 hf3));clear hb2 hrow hrow3 hf2 hf3)
     | (go_at_call 59;refine (H19.out _).mono ?_;rintro e w3 ⟨t,rfl,ht,hb3⟩;obtain rfl:t=t0:=bl_inj ht;have hrow4:=H3.out.2.1.keep hb3;have ro4:=hrow4.rowOk (cC_length c1);have c38:w3.cell? ⟨r0,38,none⟩=some (.string c1.text):=(hrow4.cell 38).trans (cC_at (aC_38 c1));have f38:=hrow4.fz 38;have hrow5:=hrow4.set 38 (.string t);rw[cC_set38] at hrow5;obtain⟨q3,q4⟩:=hrow5.okw (cC_length _);change rdA _ _ 39=vC _ at q4;have H4:=Lib.hid (And.intro hb3 (And.intro hrow5 ((H3.out.2.2.keep hb3).keep1 (One.set (g:=r0) 38 (.string t)) hr0f (H3.out.2.2.keep hb3).lt0)));clear hb3 hrow4 hrow5 ht)
     | (go_at_call 53;refine (H16.out _ H4.out.2.2).mono ?_;rintro e w5 ⟨rfl,hb5⟩;have hrow6:=H4.out.2.1.keep hb5;have ro6:=hrow6.rowOk (cC_length _);obtain⟨q5,q6⟩:=hrow6.okw (cC_length _);change rdA _ _ 39=vC _ at q6;have H5:=Lib.hid hb5;clear hb5 hrow6))
    refine bodyPost_ret (v:=.tuple #[vC _,.int .i64 ((j:Int)+1+1+un),.int .i64 0]) (results_c3 (ad:=⟨r0,0,none⟩) rfl rfl (ld_setRow _ ro6) rfl rfl) rfl ⟨by rw[HX.out];rfl,(Below.setRow (Below.trans (Below.setCell (p:=⟨r0,38,none⟩) (Below.trans (Below.setRow (HB0.out.trans (H3.out.1.mono HB0.out.size)) (Nat.le_of_eq hr0) _) (H4.out.1.mono (show w.heap.size≤(w2.setRow r0 (aC c1)).heap.size from (Below.setRow (HB0.out.trans (H3.out.1.mono HB0.out.size)) (Nat.le_of_eq hr0) _).size))) (Nat.le_of_eq hr0) _) (H5.out.mono (Below.setCell (p:=⟨r0,38,none⟩) (Below.trans (Below.setRow (HB0.out.trans (H3.out.1.mono HB0.out.size)) (Nat.le_of_eq hr0) _) (H4.out.1.mono (show w.heap.size≤(w2.setRow r0 (aC c1)).heap.size from (Below.setRow (HB0.out.trans (H3.out.1.mono HB0.out.size)) (Nat.le_of_eq hr0) _).size))) (Nat.le_of_eq hr0) _).size)) (Nat.le_of_eq hr0) _)⟩
end
end Go.Proofs.YtdkjgcfhepplbaaGreatDoor
