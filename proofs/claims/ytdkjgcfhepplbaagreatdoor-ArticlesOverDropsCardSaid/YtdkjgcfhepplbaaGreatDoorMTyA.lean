/- The types of the commands at this translation: identities, commands, and the small structs; loaded, stored, boxed, built as whole values. command: the fields that are present. -/
import Derived.Test.YtdkjgcfhepplbaaGreatDoorMRow
import Derived.Test.YtdkjgcfhepplbaaGreatDoorProg
import Derived.Deep.CutBlock
import Derived.BigQuiet
namespace Go.Proofs.YtdkjgcfhepplbaaGreatDoor
section
open Go.RowKit
theorem cons_of {n:Nat} (l:List UInt8) (h:l.length=n+1):∃ a r,l=a :: r∧r.length=n:=by
 cases l with
 | nil=>cases h
 | cons a r=>exact⟨a,r,rfl,by simpa using h⟩
theorem Id.cases {P:Id→Prop} (h:∀ a0 a1 a2 a3 a4 a5 a6 a7 a8 a9 a10 a11 a12 a13 a14 a15 a16 a17 a18 a19 a20 a21 a22 a23 a24 a25 a26 a27 a28 a29 a30 a31:UInt8,P ⟨[a0,a1,a2,a3,a4,a5,a6,a7,a8,a9,a10,a11,a12,a13,a14,a15,a16,a17,a18,a19,a20,a21,a22,a23,a24,a25,a26,a27,a28,a29,a30,a31],rfl⟩) (x:Id):P x:=by
 obtain⟨l0,hl⟩:=x
 obtain⟨a0,l1,rfl,h0⟩:=cons_of l0 hl
 obtain⟨a1,l2,rfl,h1⟩:=cons_of l1 h0
 obtain⟨a2,l3,rfl,h2⟩:=cons_of l2 h1
 obtain⟨a3,l4,rfl,h3⟩:=cons_of l3 h2
 obtain⟨a4,l5,rfl,h4⟩:=cons_of l4 h3
 obtain⟨a5,l6,rfl,h5⟩:=cons_of l5 h4
 obtain⟨a6,l7,rfl,h6⟩:=cons_of l6 h5
 obtain⟨a7,l8,rfl,h7⟩:=cons_of l7 h6
 obtain⟨a8,l9,rfl,h8⟩:=cons_of l8 h7
 obtain⟨a9,l10,rfl,h9⟩:=cons_of l9 h8
 obtain⟨a10,l11,rfl,h10⟩:=cons_of l10 h9
 obtain⟨a11,l12,rfl,h11⟩:=cons_of l11 h10
 obtain⟨a12,l13,rfl,h12⟩:=cons_of l12 h11
 obtain⟨a13,l14,rfl,h13⟩:=cons_of l13 h12
 obtain⟨a14,l15,rfl,h14⟩:=cons_of l14 h13
 obtain⟨a15,l16,rfl,h15⟩:=cons_of l15 h14
 obtain⟨a16,l17,rfl,h16⟩:=cons_of l16 h15
 obtain⟨a17,l18,rfl,h17⟩:=cons_of l17 h16
 obtain⟨a18,l19,rfl,h18⟩:=cons_of l18 h17
 obtain⟨a19,l20,rfl,h19⟩:=cons_of l19 h18
 obtain⟨a20,l21,rfl,h20⟩:=cons_of l20 h19
 obtain⟨a21,l22,rfl,h21⟩:=cons_of l21 h20
 obtain⟨a22,l23,rfl,h22⟩:=cons_of l22 h21
 obtain⟨a23,l24,rfl,h23⟩:=cons_of l23 h22
 obtain⟨a24,l25,rfl,h24⟩:=cons_of l24 h23
 obtain⟨a25,l26,rfl,h25⟩:=cons_of l25 h24
 obtain⟨a26,l27,rfl,h26⟩:=cons_of l26 h25
 obtain⟨a27,l28,rfl,h27⟩:=cons_of l27 h26
 obtain⟨a28,l29,rfl,h28⟩:=cons_of l28 h27
 obtain⟨a29,l30,rfl,h29⟩:=cons_of l29 h28
 obtain⟨a30,l31,rfl,h30⟩:=cons_of l30 h29
 obtain⟨a31,l32,rfl,h31⟩:=cons_of l31 h30
 obtain rfl:l32=[]:=List.eq_nil_of_length_eq_zero h31
 exact h a0 a1 a2 a3 a4 a5 a6 a7 a8 a9 a10 a11 a12 a13 a14 a15 a16 a17 a18 a19 a20 a21 a22 a23 a24 a25 a26 a27 a28 a29 a30 a31
def zI:Id:=⟨List.replicate 32 0,by simp⟩
structure Cm where
 verb:Int
 name:ByteArray
 id:Id
 size:Int
 from_:Int
 count:Int
 code:Int
 text:ByteArray
def cC (c:Cm):List Value:=.int .i64 c.verb :: .string c.name :: (cI c.id++[.int .i64 c.size,.int .i64 c.from_,.int .i64 c.count,.int .i64 c.code,.string c.text])
def zC:Cm:=⟨0,⟨#[]⟩,zI,0,0,0,0,⟨#[]⟩⟩
def vC (c:Cm):Value:=.agg (cC c).toArray
def aI (x:Id):Array Value:=(cI x).toArray
def aC (c:Cm):Array Value:=(cC c).toArray
theorem cC_length (c:Cm):(cC c).length=39:=by simp[cC,cI_length]
theorem cC_one (c:Cm):∀ u∈cC c,u.oneCell'=true:=by
 intro u hu
 simp only[cC,List.mem_cons,List.mem_append,List.not_mem_nil,or_false] at hu
 rcases hu with rfl|rfl|h|rfl|rfl|rfl|rfl|rfl
 ·rfl
 ·rfl
 ·exact cI_one _ u h
 all_goals rfl
abbrev Pr:=Bool×Int
abbrev Fm:=ByteArray×Int×Int
abbrev Rg:=Int×Int×Int×Int
abbrev Wd:=Int×ByteArray
def cP (x:Pr):List Value:=[.bool x.1,.int .i64 x.2]
def cF (x:Fm):List Value:=[.string x.1,.int .i64 x.2.1,.int .i64 x.2.2]
def cG (x:Rg):List Value:=[.int .i64 x.1,.int .i64 x.2.1,.int .i64 x.2.2.1,.int .i64 x.2.2.2]
def cW (x:Wd):List Value:=[.int .i64 x.1,.string x.2]
def vP (x:Pr):Value:=.agg (cP x).toArray
def vF (x:Fm):Value:=.agg (cF x).toArray
def vG (x:Rg):Value:=.agg (cG x).toArray
def vW (x:Wd):Value:=.agg (cW x).toArray
def aP (x:Pr):Array Value:=(cP x).toArray
def aF (x:Fm):Array Value:=(cF x).toArray
def aG (x:Rg):Array Value:=(cG x).toArray
def aW (x:Wd):Array Value:=(cW x).toArray
section
variable (w : World) (v : Value)
theorem size39:(Tryz.prog.info? 39).map (·.size)=some 32:=by kernel_rfl
@[go_sem ↓] theorem load39:Instr.loadAt 39 v=ldA 39 v:=rfl
@[go_sem] theorem run_ld39 (ad:Addr):(ldA 39 (.pointer (some ad))).run Tryz.prog w=if okA w ad 32=true then .ok (rdA w ad 32) w else (ldB 39 (.pointer (some ad))).run Tryz.prog w:=run_ldA_if w 39 ad 32 _ Tryz.underlying39 rfl size39
@[go_sem ↓] theorem blt39 (parts:Array (Nat×Value)):Instr.build 39 parts=blA 39 parts:=rfl
@[go_sem ↓] theorem box39:Instr.box 39 v=bxA 39 v:=rfl
@[go_sem] theorem run_bx39 (x:Id):(bxA 39 (vI x)).run Tryz.prog w=.ok (.pointer (some ⟨w.heap.size,0,none⟩)) (w.alloc (.cells (aI x) 39)):=run_bxA w 39 _
@[go_sem ↓] theorem alloc39 (h:Bool):Instr.alloc 39 h v=alA 39 h v:=rfl
@[go_sem ↓] theorem store39 (u:Value):Instr.storeAt 39 v u=stA 39 v u:=rfl
@[go_sem] theorem run_st39 (g:Nat) (x:Id):(stA 39 (.pointer (some ⟨g,0,none⟩)) (vI x)).run Tryz.prog w=if rowOk w g 32=true then .ok () (w.setRow g (aI x)) else (stB 39 (.pointer (some ⟨g,0,none⟩)) (vI x)).run Tryz.prog w:=run_stA_if w 39 g _ 32 size39 (by simp[cI_length]) (by simpa using cI_one x)
@[go_sem] theorem run_al39:(alA 39 true (.tuple #[])).run Tryz.prog w=.ok (.pointer (some ⟨w.heap.size,0,none⟩)) (w.alloc (.cells (aI zI) 39)):=by kernel_rfl
@[go_sem] theorem bl39_0:(blA 39 #[]).run Tryz.prog w=.ok (vI zI) w:=by kernel_rfl
theorem size38:(Tryz.prog.info? 38).map (·.size)=some 32:=by kernel_rfl
@[go_sem ↓] theorem load38:Instr.loadAt 38 v=ldA 38 v:=rfl
@[go_sem] theorem run_ld38 (ad:Addr):(ldA 38 (.pointer (some ad))).run Tryz.prog w=if okA w ad 32=true then .ok (rdA w ad 32) w else (ldB 38 (.pointer (some ad))).run Tryz.prog w:=run_ldA_if w 38 ad 32 _ Tryz.underlying38 rfl size38
@[go_sem ↓] theorem blt38 (parts:Array (Nat×Value)):Instr.build 38 parts=blA 38 parts:=rfl
@[go_sem ↓] theorem box38:Instr.box 38 v=bxA 38 v:=rfl
@[go_sem] theorem run_bx38 (x:Id):(bxA 38 (vI x)).run Tryz.prog w=.ok (.pointer (some ⟨w.heap.size,0,none⟩)) (w.alloc (.cells (aI x) 38)):=run_bxA w 38 _
@[go_sem ↓] theorem alloc38 (h:Bool):Instr.alloc 38 h v=alA 38 h v:=rfl
@[go_sem ↓] theorem store38 (u:Value):Instr.storeAt 38 v u=stA 38 v u:=rfl
@[go_sem] theorem run_st38 (g:Nat) (x:Id):(stA 38 (.pointer (some ⟨g,0,none⟩)) (vI x)).run Tryz.prog w=if rowOk w g 32=true then .ok () (w.setRow g (aI x)) else (stB 38 (.pointer (some ⟨g,0,none⟩)) (vI x)).run Tryz.prog w:=run_stA_if w 38 g _ 32 size38 (by simp[cI_length]) (by simpa using cI_one x)
@[go_sem] theorem run_al38:(alA 38 true (.tuple #[])).run Tryz.prog w=.ok (.pointer (some ⟨w.heap.size,0,none⟩)) (w.alloc (.cells (aI zI) 38)):=by kernel_rfl
@[go_sem] theorem bl38_0:(blA 38 #[]).run Tryz.prog w=.ok (vI zI) w:=by kernel_rfl
theorem size74:(Tryz.prog.info? 74).map (·.size)=some 39:=by kernel_rfl
@[go_sem ↓] theorem load74:Instr.loadAt 74 v=ldA 74 v:=rfl
@[go_sem] theorem run_ld74 (ad:Addr):(ldA 74 (.pointer (some ad))).run Tryz.prog w=if okA w ad 39=true then .ok (rdA w ad 39) w else (ldB 74 (.pointer (some ad))).run Tryz.prog w:=run_ldA_if w 74 ad 39 _ Tryz.underlying74 rfl size74
@[go_sem ↓] theorem blt74 (parts:Array (Nat×Value)):Instr.build 74 parts=blA 74 parts:=rfl
@[go_sem ↓] theorem box74:Instr.box 74 v=bxA 74 v:=rfl
@[go_sem] theorem run_bx74 (c:Cm):(bxA 74 (vC c)).run Tryz.prog w=.ok (.pointer (some ⟨w.heap.size,0,none⟩)) (w.alloc (.cells (aC c) 74)):=run_bxA w 74 _
@[go_sem ↓] theorem alloc74 (h:Bool):Instr.alloc 74 h v=alA 74 h v:=rfl
@[go_sem ↓] theorem store74 (u:Value):Instr.storeAt 74 v u=stA 74 v u:=rfl
@[go_sem] theorem run_st74 (g:Nat) (c:Cm):(stA 74 (.pointer (some ⟨g,0,none⟩)) (vC c)).run Tryz.prog w=if rowOk w g 39=true then .ok () (w.setRow g (aC c)) else (stB 74 (.pointer (some ⟨g,0,none⟩)) (vC c)).run Tryz.prog w:=run_stA_if w 74 g _ 39 size74 (by simp[cC_length]) (by simpa using cC_one c)
@[go_sem] theorem run_al74:(alA 74 true (.tuple #[])).run Tryz.prog w=.ok (.pointer (some ⟨w.heap.size,0,none⟩)) (w.alloc (.cells (aC zC) 74)):=by kernel_rfl
@[go_sem] theorem bl74_0:(blA 74 #[]).run Tryz.prog w=.ok (vC zC) w:=by kernel_rfl
@[go_sem] theorem rowOk_nC (c:Cm) (ty:TypeId) (g:Nat) (hg:g=w.heap.size):rowOk (w.alloc (.cells (aC c) ty)) g 39=true:=rowOk_new w _ ty g 39 hg (by simp[aC,cC_length])
@[go_sem] theorem okA_nC (c:Cm) (ty:TypeId) (g:Nat) (hg:g=w.heap.size):okA (w.alloc (.cells (aC c) ty)) ⟨g,0,none⟩ 39=true:=okA_new w _ ty g 39 hg (cC_length c)
@[go_sem] theorem rdA_nC (c:Cm) (ty:TypeId) (g:Nat) (hg:g=w.heap.size):rdA (w.alloc (.cells (aC c) ty)) ⟨g,0,none⟩ 39=vC c:=rdA_new w _ ty g 39 hg (cC_length c)
@[go_sem] theorem rowOk_nI (x:Id) (ty:TypeId) (g:Nat) (hg:g=w.heap.size):rowOk (w.alloc (.cells (aI x) ty)) g 32=true:=rowOk_new w _ ty g 32 hg (by simp[aI,cI_length])
@[go_sem] theorem okA_nI (x:Id) (ty:TypeId) (g:Nat) (hg:g=w.heap.size):okA (w.alloc (.cells (aI x) ty)) ⟨g,0,none⟩ 32=true:=okA_new w _ ty g 32 hg (cI_length x)
@[go_sem] theorem rdA_nI (x:Id) (ty:TypeId) (g:Nat) (hg:g=w.heap.size):rdA (w.alloc (.cells (aI x) ty)) ⟨g,0,none⟩ 32=vI x:=rdA_new w _ ty g 32 hg (cI_length x)
@[go_sem] theorem blC_hello (n m:Int) (s:ByteArray):(blA 74 #[(0,.int .i64 n),(1,.string s),(5,.int .i64 m)]).run Tryz.prog w=.ok (vC ⟨n,s,zI,0,0,m,0,⟨#[]⟩⟩) w:=by kernel_rfl
@[go_sem] theorem blC_all (n a b d e:Int) (s t:ByteArray) (x:Id):(blA 74 #[(0,.int .i64 n),(1,.string s),(2,vI x),(3,.int .i64 a),(4,.int .i64 b),(5,.int .i64 d),(6,.int .i64 e),(7,.string t)]).run Tryz.prog w=.ok (vC ⟨n,s,x,a,b,d,e,t⟩) w:=by
 revert x
 refine Id.cases fun a0 a1 a2 a3 a4 a5 a6 a7 a8 a9 a10 a11 a12 a13 a14 a15 a16 a17 a18 a19 a20 a21 a22 a23 a24 a25 a26 a27 a28 a29 a30 a31=>?_
 kernel_rfl
@[go_sem] theorem blC_data (n:Int) (t:ByteArray) (x:Id):(blA 74 #[(0,.int .i64 n),(2,vI x),(7,.string t)]).run Tryz.prog w=.ok (vC ⟨n,⟨#[]⟩,x,0,0,0,0,t⟩) w:=by
 revert x
 refine Id.cases fun a0 a1 a2 a3 a4 a5 a6 a7 a8 a9 a10 a11 a12 a13 a14 a15 a16 a17 a18 a19 a20 a21 a22 a23 a24 a25 a26 a27 a28 a29 a30 a31=>?_
 kernel_rfl
theorem cP_length (x:Pr):(cP x).length=2:=rfl
theorem cP_one (x:Pr):∀ u∈cP x,u.oneCell'=true:=by
 intro u hu
 simp only[cP,List.mem_cons,List.not_mem_nil,or_false] at hu
 rcases hu with rfl|rfl <;> rfl
theorem size188:(Tryz.prog.info? 188).map (·.size)=some 2:=by kernel_rfl
@[go_sem ↓] theorem load188:Instr.loadAt 188 v=ldA 188 v:=rfl
@[go_sem] theorem run_ld188 (ad:Addr):(ldA 188 (.pointer (some ad))).run Tryz.prog w=if okA w ad 2=true then .ok (rdA w ad 2) w else (ldB 188 (.pointer (some ad))).run Tryz.prog w:=run_ldA_if w 188 ad 2 _ Tryz.underlying188 rfl size188
@[go_sem ↓] theorem blt188 (parts:Array (Nat×Value)):Instr.build 188 parts=blA 188 parts:=rfl
@[go_sem ↓] theorem alloc188 (h:Bool):Instr.alloc 188 h v=alA 188 h v:=rfl
@[go_sem ↓] theorem store188 (u:Value):Instr.storeAt 188 v u=stA 188 v u:=rfl
@[go_sem] theorem run_st188 (g:Nat) (x:Pr):(stA 188 (.pointer (some ⟨g,0,none⟩)) (vP x)).run Tryz.prog w=if rowOk w g 2=true then .ok () (w.setRow g (aP x)) else (stB 188 (.pointer (some ⟨g,0,none⟩)) (vP x)).run Tryz.prog w:=run_stA_if w 188 g _ 2 size188 rfl (by simpa using cP_one x)
@[go_sem] theorem rowOk_n188 (x:Pr) (ty:TypeId) (g:Nat) (hg:g=w.heap.size):rowOk (w.alloc (.cells (aP x) ty)) g 2=true:=rowOk_new w _ ty g 2 hg rfl
@[go_sem] theorem okA_n188 (x:Pr) (ty:TypeId) (g:Nat) (hg:g=w.heap.size):okA (w.alloc (.cells (aP x) ty)) ⟨g,0,none⟩ 2=true:=okA_new w _ ty g 2 hg rfl
@[go_sem] theorem rdA_n188 (x:Pr) (ty:TypeId) (g:Nat) (hg:g=w.heap.size):rdA (w.alloc (.cells (aP x) ty)) ⟨g,0,none⟩ 2=vP x:=rdA_new w _ ty g 2 hg rfl
@[go_sem] theorem run_al188:(alA 188 true (.tuple #[])).run Tryz.prog w=.ok (.pointer (some ⟨w.heap.size,0,none⟩)) (w.alloc (.cells (aP (false,0)) 188)):=by kernel_rfl
def aPs (xs:List Pr):Array Value:=(xs.flatMap cP).toArray
@[go_sem ↓] theorem bs189 (n:Nat) (parts:Array (Nat×Value)):Instr.buildSlice 189 n parts=bsA 189 n parts:=rfl
theorem run_bs189 (xs:List Pr) (h:xs.length≤100):(bsA 189 xs.length (xs.zipIdx.map fun x=>(x.2,vP x.1)).toArray).run Tryz.prog w=.ok (.slice (some ⟨w.heap.size,0,none⟩) xs.length xs.length) (w.alloc (.cells (aPs xs) 188)):=by
 obtain⟨i,z,h1,h2,h3⟩:=info_of (show (Tryz.prog.info? 188).map (fun i=>(i.zero.map (·.cells.size),i.size,i.bytes))=some (some 2,2,16) by kernel_rfl)
 exact run_bsA w vP 189 188 i z 2 Tryz.underlying189 h1 h2 h3 (fun _=>rfl) xs (by omega)
theorem cF_length (x:Fm):(cF x).length=3:=rfl
theorem cF_one (x:Fm):∀ u∈cF x,u.oneCell'=true:=by
 intro u hu
 simp only[cF,List.mem_cons,List.not_mem_nil,or_false] at hu
 rcases hu with rfl|rfl|rfl <;> rfl
theorem size119:(Tryz.prog.info? 119).map (·.size)=some 3:=by kernel_rfl
@[go_sem ↓] theorem load119:Instr.loadAt 119 v=ldA 119 v:=rfl
@[go_sem] theorem run_ld119 (ad:Addr):(ldA 119 (.pointer (some ad))).run Tryz.prog w=if okA w ad 3=true then .ok (rdA w ad 3) w else (ldB 119 (.pointer (some ad))).run Tryz.prog w:=run_ldA_if w 119 ad 3 _ Tryz.underlying119 rfl size119
@[go_sem ↓] theorem blt119 (parts:Array (Nat×Value)):Instr.build 119 parts=blA 119 parts:=rfl
@[go_sem ↓] theorem alloc119 (h:Bool):Instr.alloc 119 h v=alA 119 h v:=rfl
@[go_sem ↓] theorem store119 (u:Value):Instr.storeAt 119 v u=stA 119 v u:=rfl
@[go_sem] theorem run_st119 (g:Nat) (x:Fm):(stA 119 (.pointer (some ⟨g,0,none⟩)) (vF x)).run Tryz.prog w=if rowOk w g 3=true then .ok () (w.setRow g (aF x)) else (stB 119 (.pointer (some ⟨g,0,none⟩)) (vF x)).run Tryz.prog w:=run_stA_if w 119 g _ 3 size119 rfl (by simpa using cF_one x)
@[go_sem] theorem rowOk_n119 (x:Fm) (ty:TypeId) (g:Nat) (hg:g=w.heap.size):rowOk (w.alloc (.cells (aF x) ty)) g 3=true:=rowOk_new w _ ty g 3 hg rfl
@[go_sem] theorem okA_n119 (x:Fm) (ty:TypeId) (g:Nat) (hg:g=w.heap.size):okA (w.alloc (.cells (aF x) ty)) ⟨g,0,none⟩ 3=true:=okA_new w _ ty g 3 hg rfl
@[go_sem] theorem rdA_n119 (x:Fm) (ty:TypeId) (g:Nat) (hg:g=w.heap.size):rdA (w.alloc (.cells (aF x) ty)) ⟨g,0,none⟩ 3=vF x:=rdA_new w _ ty g 3 hg rfl
@[go_sem] theorem run_al119:(alA 119 true (.tuple #[])).run Tryz.prog w=.ok (.pointer (some ⟨w.heap.size,0,none⟩)) (w.alloc (.cells (aF (⟨#[]⟩,0,0)) 119)):=by kernel_rfl
theorem cG_length (x:Rg):(cG x).length=4:=rfl
theorem cG_one (x:Rg):∀ u∈cG x,u.oneCell'=true:=by
 intro u hu
 simp only[cG,List.mem_cons,List.not_mem_nil,or_false] at hu
 rcases hu with rfl|rfl|rfl|rfl <;> rfl
theorem size165:(Tryz.prog.info? 165).map (·.size)=some 4:=by kernel_rfl
@[go_sem ↓] theorem load165:Instr.loadAt 165 v=ldA 165 v:=rfl
@[go_sem] theorem run_ld165 (ad:Addr):(ldA 165 (.pointer (some ad))).run Tryz.prog w=if okA w ad 4=true then .ok (rdA w ad 4) w else (ldB 165 (.pointer (some ad))).run Tryz.prog w:=run_ldA_if w 165 ad 4 _ Tryz.underlying165 rfl size165
@[go_sem ↓] theorem blt165 (parts:Array (Nat×Value)):Instr.build 165 parts=blA 165 parts:=rfl
@[go_sem ↓] theorem alloc165 (h:Bool):Instr.alloc 165 h v=alA 165 h v:=rfl
@[go_sem ↓] theorem store165 (u:Value):Instr.storeAt 165 v u=stA 165 v u:=rfl
@[go_sem] theorem run_st165 (g:Nat) (x:Rg):(stA 165 (.pointer (some ⟨g,0,none⟩)) (vG x)).run Tryz.prog w=if rowOk w g 4=true then .ok () (w.setRow g (aG x)) else (stB 165 (.pointer (some ⟨g,0,none⟩)) (vG x)).run Tryz.prog w:=run_stA_if w 165 g _ 4 size165 rfl (by simpa using cG_one x)
@[go_sem] theorem rowOk_n165 (x:Rg) (ty:TypeId) (g:Nat) (hg:g=w.heap.size):rowOk (w.alloc (.cells (aG x) ty)) g 4=true:=rowOk_new w _ ty g 4 hg rfl
@[go_sem] theorem okA_n165 (x:Rg) (ty:TypeId) (g:Nat) (hg:g=w.heap.size):okA (w.alloc (.cells (aG x) ty)) ⟨g,0,none⟩ 4=true:=okA_new w _ ty g 4 hg rfl
@[go_sem] theorem rdA_n165 (x:Rg) (ty:TypeId) (g:Nat) (hg:g=w.heap.size):rdA (w.alloc (.cells (aG x) ty)) ⟨g,0,none⟩ 4=vG x:=rdA_new w _ ty g 4 hg rfl
@[go_sem] theorem run_al165:(alA 165 true (.tuple #[])).run Tryz.prog w=.ok (.pointer (some ⟨w.heap.size,0,none⟩)) (w.alloc (.cells (aG (0,0,0,0)) 165)):=by kernel_rfl
def aGs (xs:List Rg):Array Value:=(xs.flatMap cG).toArray
@[go_sem ↓] theorem bs166 (n:Nat) (parts:Array (Nat×Value)):Instr.buildSlice 166 n parts=bsA 166 n parts:=rfl
theorem run_bs166 (xs:List Rg) (h:xs.length≤100):(bsA 166 xs.length (xs.zipIdx.map fun x=>(x.2,vG x.1)).toArray).run Tryz.prog w=.ok (.slice (some ⟨w.heap.size,0,none⟩) xs.length xs.length) (w.alloc (.cells (aGs xs) 165)):=by
 obtain⟨i,z,h1,h2,h3⟩:=info_of (show (Tryz.prog.info? 165).map (fun i=>(i.zero.map (·.cells.size),i.size,i.bytes))=some (some 4,4,32) by kernel_rfl)
 exact run_bsA w vG 166 165 i z 4 Tryz.underlying166 h1 h2 h3 (fun _=>rfl) xs (by omega)
theorem cW_length (x:Wd):(cW x).length=2:=rfl
theorem cW_one (x:Wd):∀ u∈cW x,u.oneCell'=true:=by
 intro u hu
 simp only[cW,List.mem_cons,List.not_mem_nil,or_false] at hu
 rcases hu with rfl|rfl <;> rfl
theorem size121:(Tryz.prog.info? 121).map (·.size)=some 2:=by kernel_rfl
@[go_sem ↓] theorem load121:Instr.loadAt 121 v=ldA 121 v:=rfl
@[go_sem] theorem run_ld121 (ad:Addr):(ldA 121 (.pointer (some ad))).run Tryz.prog w=if okA w ad 2=true then .ok (rdA w ad 2) w else (ldB 121 (.pointer (some ad))).run Tryz.prog w:=run_ldA_if w 121 ad 2 _ Tryz.underlying121 rfl size121
@[go_sem ↓] theorem blt121 (parts:Array (Nat×Value)):Instr.build 121 parts=blA 121 parts:=rfl
@[go_sem ↓] theorem alloc121 (h:Bool):Instr.alloc 121 h v=alA 121 h v:=rfl
@[go_sem ↓] theorem store121 (u:Value):Instr.storeAt 121 v u=stA 121 v u:=rfl
@[go_sem] theorem run_st121 (g:Nat) (x:Wd):(stA 121 (.pointer (some ⟨g,0,none⟩)) (vW x)).run Tryz.prog w=if rowOk w g 2=true then .ok () (w.setRow g (aW x)) else (stB 121 (.pointer (some ⟨g,0,none⟩)) (vW x)).run Tryz.prog w:=run_stA_if w 121 g _ 2 size121 rfl (by simpa using cW_one x)
@[go_sem] theorem rowOk_n121 (x:Wd) (ty:TypeId) (g:Nat) (hg:g=w.heap.size):rowOk (w.alloc (.cells (aW x) ty)) g 2=true:=rowOk_new w _ ty g 2 hg rfl
@[go_sem] theorem okA_n121 (x:Wd) (ty:TypeId) (g:Nat) (hg:g=w.heap.size):okA (w.alloc (.cells (aW x) ty)) ⟨g,0,none⟩ 2=true:=okA_new w _ ty g 2 hg rfl
@[go_sem] theorem rdA_n121 (x:Wd) (ty:TypeId) (g:Nat) (hg:g=w.heap.size):rdA (w.alloc (.cells (aW x) ty)) ⟨g,0,none⟩ 2=vW x:=rdA_new w _ ty g 2 hg rfl
@[go_sem] theorem run_al121:(alA 121 true (.tuple #[])).run Tryz.prog w=.ok (.pointer (some ⟨w.heap.size,0,none⟩)) (w.alloc (.cells (aW (0,⟨#[]⟩)) 121)):=by kernel_rfl
def aWs (xs:List Wd):Array Value:=(xs.flatMap cW).toArray
@[go_sem ↓] theorem bs124 (n:Nat) (parts:Array (Nat×Value)):Instr.buildSlice 124 n parts=bsA 124 n parts:=rfl
theorem run_bs124 (xs:List Wd) (h:xs.length≤100):(bsA 124 xs.length (xs.zipIdx.map fun x=>(x.2,vW x.1)).toArray).run Tryz.prog w=.ok (.slice (some ⟨w.heap.size,0,none⟩) xs.length xs.length) (w.alloc (.cells (aWs xs) 121)):=by
 obtain⟨i,z,h1,h2,h3⟩:=info_of (show (Tryz.prog.info? 121).map (fun i=>(i.zero.map (·.cells.size),i.size,i.bytes))=some (some 2,2,24) by kernel_rfl)
 exact run_bsA w vW 124 121 i z 2 Tryz.underlying124 h1 h2 h3 (fun _=>rfl) xs (by omega)
@[go_sem] theorem aP_0 (x:Pr):(aP x)[0]? = some (.bool x.1):=rfl
@[go_sem] theorem aP_1 (x:Pr):(aP x)[1]? = some (.int .i64 x.2):=rfl
@[go_sem] theorem aF_0 (x:Fm):(aF x)[0]? = some (.string x.1):=rfl
@[go_sem] theorem aF_1 (x:Fm):(aF x)[1]? = some (.int .i64 x.2.1):=rfl
@[go_sem] theorem aF_2 (x:Fm):(aF x)[2]? = some (.int .i64 x.2.2):=rfl
@[go_sem] theorem aG_0 (x:Rg):(aG x)[0]? = some (.int .i64 x.1):=rfl
@[go_sem] theorem aG_1 (x:Rg):(aG x)[1]? = some (.int .i64 x.2.1):=rfl
@[go_sem] theorem aG_2 (x:Rg):(aG x)[2]? = some (.int .i64 x.2.2.1):=rfl
@[go_sem] theorem aG_3 (x:Rg):(aG x)[3]? = some (.int .i64 x.2.2.2):=rfl
@[go_sem] theorem aW_0 (x:Wd):(aW x)[0]? = some (.int .i64 x.1):=rfl
@[go_sem] theorem aW_1 (x:Wd):(aW x)[1]? = some (.string x.2):=rfl
@[go_sem] theorem blP (b:Bool) (n:Int):(blA 188 #[(0,.bool b),(1,.int .i64 n)]).run Tryz.prog w=.ok (vP (b,n)) w:=by kernel_rfl
@[go_sem] theorem blG (a b c d:Int):(blA 165 #[(0,.int .i64 a),(1,.int .i64 b),(2,.int .i64 c),(3,.int .i64 d)]).run Tryz.prog w=.ok (vG (a,b,c,d)) w:=by kernel_rfl
@[go_sem] theorem blW (a:Int) (s:ByteArray):(blA 121 #[(0,.int .i64 a),(1,.string s)]).run Tryz.prog w=.ok (vW (a,s)) w:=by kernel_rfl
@[go_sem] theorem run_bsP_7 (a b c d e f g:Pr):(bsA 189 7 #[(0,vP a),(1,vP b),(2,vP c),(3,vP d),(4,vP e),(5,vP f),(6,vP g)]).run Tryz.prog w=.ok (.slice (some ⟨w.heap.size,0,none⟩) 7 7) (w.alloc (.cells (aPs [a,b,c,d,e,f,g]) 188)):=run_bs189 w [a,b,c,d,e,f,g] (by simp)
@[go_sem] theorem run_bsG_4 (a b c d:Rg):(bsA 166 4 #[(0,vG a),(1,vG b),(2,vG c),(3,vG d)]).run Tryz.prog w=.ok (.slice (some ⟨w.heap.size,0,none⟩) 4 4) (w.alloc (.cells (aGs [a,b,c,d]) 165)):=run_bs166 w [a,b,c,d] (by simp)
@[go_sem] theorem run_bsW_6 (a b c d e f:Wd):(bsA 124 6 #[(0,vW a),(1,vW b),(2,vW c),(3,vW d),(4,vW e),(5,vW f)]).run Tryz.prog w=.ok (.slice (some ⟨w.heap.size,0,none⟩) 6 6) (w.alloc (.cells (aWs [a,b,c,d,e,f]) 121)):=run_bs124 w [a,b,c,d,e,f] (by simp)
end
attribute [go_sem] okA_drew rdA_drew okA_drewN rdA_drewN okA_alloc rdA_alloc rowOk_drew rowOk_drewN rowOk_alloc setRow_new setRow_alloc setRow_drew setRow_drewN
theorem info5:∃ i,Tryz.prog.info? 5=some i∧i.size=1:=by
 have h:(Tryz.prog.info? 5).map (·.size)=some 1:=by kernel_rfl
 cases hq:Tryz.prog.info? 5 with
 | none=>rw[hq] at h;cases h
 | some i=>exact⟨i,rfl,by simpa[hq] using h⟩
section
variable (w : World)
@[go_sem] theorem eql39 (a b:Id):(binOp .eql 39 (vI a) (vI b)).run Tryz.prog w=.ok (.bool (decide (a=b))) w:=by
 obtain⟨i,h1,h2⟩:=info5
 unfold vI cI
 rw[run_eql_bytes w 32 39 5 i a.1 b.1 Tryz.underlying39 Tryz.underlying5 h1 h2 a.2 b.2]
 simp[Subtype.ext_iff]
@[go_sem] theorem neq39 (a b:Id):(binOp .neq 39 (vI a) (vI b)).run Tryz.prog w=.ok (.bool (!decide (a=b))) w:=by
 obtain⟨i,h1,h2⟩:=info5
 unfold vI cI
 rw[run_neq_bytes w 32 39 5 i a.1 b.1 Tryz.underlying39 Tryz.underlying5 h1 h2 a.2 b.2]
 simp[Subtype.ext_iff]
theorem guard39:Tryz.prog.eqGuardType Tryz.prog.depth 39=false:=by kernel_rfl
@[go_sem] theorem eqGuard39 (op:BinOp) (x y:Operand) (a b:Id):(eqGuard op 39 x y (vI a) (vI b)).run Tryz.prog w=.ok () w:=run_eqGuard_agg w op 39 x y _ _ guard39
@[go_sem] theorem eql38 (a b:Id):(binOp .eql 38 (vI a) (vI b)).run Tryz.prog w=.ok (.bool (decide (a=b))) w:=by
 obtain⟨i,h1,h2⟩:=info5
 unfold vI cI
 rw[run_eql_bytes w 32 38 5 i a.1 b.1 Tryz.underlying38 Tryz.underlying5 h1 h2 a.2 b.2]
 simp[Subtype.ext_iff]
@[go_sem] theorem neq38 (a b:Id):(binOp .neq 38 (vI a) (vI b)).run Tryz.prog w=.ok (.bool (!decide (a=b))) w:=by
 obtain⟨i,h1,h2⟩:=info5
 unfold vI cI
 rw[run_neq_bytes w 32 38 5 i a.1 b.1 Tryz.underlying38 Tryz.underlying5 h1 h2 a.2 b.2]
 simp[Subtype.ext_iff]
theorem guard38:Tryz.prog.eqGuardType Tryz.prog.depth 38=false:=by kernel_rfl
@[go_sem] theorem eqGuard38 (op:BinOp) (x y:Operand) (a b:Id):(eqGuard op 38 x y (vI a) (vI b)).run Tryz.prog w=.ok () w:=run_eqGuard_agg w op 38 x y _ _ guard38
@[go_sem] theorem aC_0 (c:Cm):(aC c)[0]? = some (.int .i64 c.verb):=rfl
@[go_sem] theorem aC_1 (c:Cm):(aC c)[1]? = some (.string c.name):=rfl
theorem aC_hi (c:Cm) (k:Nat):(aC c)[34+k]? = [Value.int .i64 c.size,.int .i64 c.from_,.int .i64 c.count,.int .i64 c.code,.string c.text][k]?:=by
 unfold aC cC
 rw[List.getElem?_toArray,show 34+k=(32+k)+1+1 by omega,List.getElem?_cons_succ,List.getElem?_cons_succ,List.getElem?_append_right (by rw[cI_length];omega),cI_length,show 32+k - 32=k by omega]
@[go_sem] theorem aC_34 (c:Cm):(aC c)[34]? = some (.int .i64 c.size):=aC_hi c 0
@[go_sem] theorem aC_35 (c:Cm):(aC c)[35]? = some (.int .i64 c.from_):=aC_hi c 1
@[go_sem] theorem aC_36 (c:Cm):(aC c)[36]? = some (.int .i64 c.count):=aC_hi c 2
@[go_sem] theorem aC_37 (c:Cm):(aC c)[37]? = some (.int .i64 c.code):=aC_hi c 3
@[go_sem] theorem aC_38 (c:Cm):(aC c)[38]? = some (.string c.text):=aC_hi c 4
theorem at_off {w:World} {g k n:Nat} {cs ds:List Value} {ty:TypeId} (hg:g=w.heap.size) (hd:(cs.drop k).take n=ds):At (w.alloc (.cells cs.toArray ty)) ⟨g,k,none⟩ ds:=by
 subst hg
 exact (Row.new w cs ty).at_ hd
theorem cC_id (c:Cm):((cC c).drop 2).take 32=cI c.id:=by
 unfold cC
 rw[List.drop_succ_cons,List.drop_succ_cons,List.drop_zero,List.take_append_of_le_length (by rw[cI_length];omega),List.take_of_length_le (by rw[cI_length];omega)]
@[go_sem] theorem okA_Cid (c:Cm) (ty:TypeId) (g:Nat) (hg:g=w.heap.size):okA (w.alloc (.cells (aC c) ty)) ⟨g,2,none⟩ 32=true:=by
 have h:=(at_off (w:=w) (ty:=ty) hg (cC_id c)).ok
 rwa[cI_length] at h
@[go_sem] theorem rdA_Cid (c:Cm) (ty:TypeId) (g:Nat) (hg:g=w.heap.size):rdA (w.alloc (.cells (aC c) ty)) ⟨g,2,none⟩ 32=vI c.id:=by
 have h:=(at_off (w:=w) (ty:=ty) hg (cC_id c)).rd
 rwa[cI_length] at h
end
theorem cC_at {c:Cm} {k:Nat} {v:Value} (h:(aC c)[k]? = some v):(cC c)[k]? = some v:=by
 unfold aC at h
 rwa[List.getElem?_toArray] at h
theorem okA_below {w w':World} {ad:Addr} {n:Nat} (h:okA w ad n=true) (hlt:ad.block<w.heap.size) (hb:Below w.heap.size w w'):okA w' ad n=true∧rdA w' ad n=rdA w ad n:=by
 have hc:∀ j,w'.cell? (ad.add j)=w.cell? (ad.add j):=fun j=>hb.cell (by rw[block_of_add];exact hlt)
 have hp:okA w' ad n=okA w ad n:=by
  unfold okA
  simp only[hc]
 refine⟨hp.trans h,?_⟩
 unfold rdA
 simp only[hc]
theorem cell_below {w w':World} {a:Addr} {v:Value} (h:w.cell? a=some v) (hb:Below w.heap.size w w'):w'.cell? a=some v:=by
 refine (World.cell?_of_block (hb.block _ ?_)).trans h
 unfold World.cell? at h
 split at h
 ·rename_i hh
  exact (Array.getElem?_eq_some_iff.1 hh).1
 ·cases h
theorem Row.okw {w:World} {b n:Nat} {cs:List Value} {t:TypeId} (h:Row w b cs t) (hn:cs.length=n):okA w ⟨b,0,none⟩ n=true∧rdA w ⟨b,0,none⟩ n=.agg cs.toArray:=by
 have h1:=h.at_ (k:=0) (n:=n) (ds:=cs) (by rw[List.drop_zero,List.take_of_length_le (by omega)])
 have h2:=h1.ok
 have h3:=h1.rd
 rw[hn] at h2 h3
 exact⟨h2,h3⟩
theorem Row.idC {w:World} {b:Nat} {c:Cm} {t:TypeId} (h:Row w b (cC c) t):okA w ⟨b,2,none⟩ 32=true∧rdA w ⟨b,2,none⟩ 32=vI c.id:=by
 have:=h.at_ (cC_id c)
 have h1:=this.ok
 have h2:=this.rd
 rw[cI_length] at h1 h2
 exact⟨h1,h2⟩
end
section
open Go.RowKit
section
set_option maxRecDepth 100000
set_option maxHeartbeats 400000
theorem isZero38 (x:Id) (w:World):Calls Tryz.prog 82 #[vI x] w fun e w'=>e=.returned (.bool (decide (x=zI)))∧Below w.heap.size w w':=by
 go_enter Tryz.func82,Tryz.ntmps82
 go_wp2
 go_ret
 exact⟨rfl,below_alloc _ _⟩
theorem isVerb35 (n:Int) (w:World) (h1:1≤n) (h2:n≤11):Calls Tryz.prog 79 #[.int .i64 n] w fun e w'=>e=.returned (.bool true)∧w'=w:=by
 go_enter Tryz.func79,Tryz.ntmps79
 go_wp2
 go_ret
 exact⟨congrArg (fun b=>Ending.returned (.bool b)) (by simp),rfl⟩
theorem isVerb35_no (n:Int) (w:World) (h:n<1∨11<n):Calls Tryz.prog 79 #[.int .i64 n] w fun e w'=>e=.returned (.bool false)∧w'=w:=by
 rcases h with h|h
 ·go_enter Tryz.func79,Tryz.ntmps79
  go_wp2
  go_ret
  exact⟨congrArg (fun b=>Ending.returned (.bool b)) (by simp <;> omega),rfl⟩
 ·have h1:1≤n:=by omega
  go_enter Tryz.func79,Tryz.ntmps79
  go_wp2
  go_ret
  exact⟨congrArg (fun b=>Ending.returned (.bool b)) (by simp <;> omega),rfl⟩
end
def psL (b1 b2 b3 b4 b5 b6 b7:Bool):List Pr:=[(b1,1),(b2,2),(b3,4),(b4,8),(b5,16),(b6,32),(b7,64)]
def isSlP (xs:List Pr):Value→World→Prop:=fun v w=>∃ A c,v=.slice A 7 c∧7≤c∧Sl w cP A xs
theorem Mono.slP (xs:List Pr):Mono (isSlP xs):=fun _ _ _ hb ⟨A,c,h1,h2,h3⟩=>⟨A,c,h1,h2,h3.keep hb⟩
theorem isSlP.mk (u:World) (b1 b2 b3 b4 b5 b6 b7:Bool):isSlP (psL b1 b2 b3 b4 b5 b6 b7) (.slice (some ⟨u.heap.size,0,none⟩) 7 7) (u.alloc (.cells (aPs [(b1,1),(b2,2),(b3,4),(b4,8),(b5,16),(b6,32),(b7,64)]) 188)) :=
 ⟨_,_,rfl,Nat.le_refl _,fun _=>⟨_,rfl,at_new u _ 188 _ rfl⟩⟩
def orL (l:List Pr):Int:=l.foldl (fun n p=>if p.1=true then bits BinOp.or .i64 n p.2 else n) 0
theorem orL_snoc (l:List Pr) (p:Pr):orL (l++[p])=if p.1=true then bits BinOp.or .i64 (orL l) p.2 else orL l:=by unfold orL;rw[List.foldl_append];rfl
theorem Sl.pr {w:World} {A:Option Addr} {xs:List Pr} (h:Sl w cP A xs) {k:Nat} (hk:k<xs.length):∃ ad,A=some ad∧okA w (ad.add (k * 2)) 2=true∧rdA w (ad.add (k * 2)) 2=vP xs[k]:=by
 obtain⟨ad,rfl,hat⟩:=Sl.at_ cP_length h hk
 have h1:=hat.ok
 have h2:=hat.rd
 rw[cP_length] at h1 h2
 exact⟨ad,rfl,h1,h2⟩
set_option maxRecDepth 100000 in
set_option maxHeartbeats 3200000 in
theorem present36 (c:Cm) (w:World) (b1 b2 b3 b4 b5 b6 b7:Bool) (hb:(c.name.toList.isEmpty = !b1)∧(decide (c.id=zI) = !b2)∧((c.size != 0)=b3)∧((c.from_ != 0)=b4)∧((c.count != 0)=b5)∧((c.code != 0)=b6)∧(c.text.toList.isEmpty = !b7)) :
  Calls Tryz.prog 80 #[vC c] w fun e w'=>e=.returned (.int .i64 (orL (psL b1 b2 b3 b4 b5 b6 b7)))∧Below w.heap.size w w':=by
 have HB:=Lib.hid hb
 clear hb
 have hR:=Row.new w (cC c) 74
 have k1:(w.alloc (.cells (aC c) 74)).cell? ⟨w.heap.size,1,none⟩=some (.string c.name):=hR.cell 1
 have k34:(w.alloc (.cells (aC c) 74)).cell? ⟨w.heap.size,34,none⟩=_:=(hR.cell 34).trans (cC_at (aC_34 c))
 have k35:(w.alloc (.cells (aC c) 74)).cell? ⟨w.heap.size,35,none⟩=_:=(hR.cell 35).trans (cC_at (aC_35 c))
 have k36:(w.alloc (.cells (aC c) 74)).cell? ⟨w.heap.size,36,none⟩=_:=(hR.cell 36).trans (cC_at (aC_36 c))
 have k37:(w.alloc (.cells (aC c) 74)).cell? ⟨w.heap.size,37,none⟩=_:=(hR.cell 37).trans (cC_at (aC_37 c))
 have k38:(w.alloc (.cells (aC c) 74)).cell? ⟨w.heap.size,38,none⟩=_:=(hR.cell 38).trans (cC_at (aC_38 c))
 have k2:=okA_Cid w c 74 w.heap.size rfl
 have k2':=rdA_Cid w c 74 w.heap.size rfl
 have hsz:w.heap.size<(w.alloc (.cells (aC c) 74)).heap.size:=by simp
 have hB1:=below_alloc w (.cells (aC c) 74)
 clear hR
 go_enter Tryz.func80,Tryz.ntmps80
 go_wp2
 change Code.wp _ _ _ _ (w.alloc (.cells (aC c) 74))
 generalize hW1:w.alloc (.cells (aC c) 74)=W1 at k1 k34 k35 k36 k37 k38 k2 k2' hsz hB1 ⊢
 refine AnyO.wp_any (by kernel_rfl) (by kernel_rfl) (pstP [isV (.pointer (some ⟨w.heap.size,1,none⟩)),isV (.string c.name),isV (.bool b1),isV (vP (b1,1)),isV (.pointer (some ⟨w.heap.size,2,none⟩)),isV (vI c.id),isV (.bool (!b2)),isV (.bool b2),isV (vP (b2,2)),isV (.pointer (some ⟨w.heap.size,34,none⟩)),isV (.int .i64 c.size),isV (.bool b3),isV (vP (b3,4)),isV (.pointer (some ⟨w.heap.size,35,none⟩)),isV (.int .i64 c.from_),isV (.bool b4),isV (vP (b4,8)),isV (.pointer (some ⟨w.heap.size,36,none⟩)),isV (.int .i64 c.count),isV (.bool b5),isV (vP (b5,16)),isV (.pointer (some ⟨w.heap.size,37,none⟩)),isV (.int .i64 c.code),isV (.bool b6),isV (vP (b6,32)),isV (.pointer (some ⟨w.heap.size,38,none⟩)),isV (.string c.text),isV (.bool b7),isV (vP (b7,64)),isSlP (psL b1 b2 b3 b4 b5 b6 b7),isV (.int .i64 7),isV (Value.int IntKind.i64 0)]) (MonoL.cons (Mono.v _) (MonoL.cons (Mono.v _) (MonoL.cons (Mono.v _) (MonoL.cons (Mono.v _) (MonoL.cons (Mono.v _) (MonoL.cons (Mono.v _) (MonoL.cons (Mono.v _) (MonoL.cons (Mono.v _) (MonoL.cons (Mono.v _) (MonoL.cons (Mono.v _) (MonoL.cons (Mono.v _) (MonoL.cons (Mono.v _) (MonoL.cons (Mono.v _) (MonoL.cons (Mono.v _) (MonoL.cons (Mono.v _) (MonoL.cons (Mono.v _) (MonoL.cons (Mono.v _) (MonoL.cons (Mono.v _) (MonoL.cons (Mono.v _) (MonoL.cons (Mono.v _) (MonoL.cons (Mono.v _) (MonoL.cons (Mono.v _) (MonoL.cons (Mono.v _) (MonoL.cons (Mono.v _) (MonoL.cons (Mono.v _) (MonoL.cons (Mono.v _) (MonoL.cons (Mono.v _) (MonoL.cons (Mono.v _) (MonoL.cons (Mono.v _) (MonoL.cons (Mono.slP _) (MonoL.cons (Mono.v _) (MonoL.cons (Mono.v _) MonoL.nil)))))))))))))))))))))))))))))))) ?_ ?_
 ·intro i hi
  have hi2:i=6∨i=30∨i=0∨i=1∨i=2∨i=3∨i=4∨i=5∨i=7∨i=8∨i=9∨i=10∨i=11∨i=12∨i=13∨i=14∨i=15∨i=16∨i=17∨i=18∨i=19∨i=20∨i=21∨i=22∨i=23∨i=24∨i=25∨i=26∨i=27∨i=28∨i=29∨i=31:=by simp only[List.size_toArray,List.length_cons,List.length_nil] at hi;omega
  clear hi
  rcases hi2 with rfl|rfl|rfl|rfl|rfl|rfl|rfl|rfl|rfl|rfl|rfl|rfl|rfl|rfl|rfl|rfl|rfl|rfl|rfl|rfl|rfl|rfl|rfl|rfl|rfl|rfl|rfl|rfl|rfl|rfl|rfl|rfl
  ·refine AnyO.S rfl [5] ?_;intro vs u hE hp ac hb K hK
   have s11:_=_:=AnyO.sw 11 5 hb hp
   go_simp
   go_at_call 82
   refine (isZero38 c.id u).mono ?_
   rintro e w2 ⟨rfl,hb2⟩
   rw[HB.out.2.1]
   exact hK _ _ hb2 rfl
  ·refine AnyO.S rfl [29] ?_;intro vs u hE hp ac hb K hK
   obtain⟨A35,c35,e35,h35⟩:=hp.out 29 (by decide)
   have s35:ac.tmps[35]?.getD undef=.slice A35 7 c35:=by rw[hb.out];exact (show _=vs 29 by kernel_rfl).trans e35
   clear e35
   go_simp;exact hK _ _ (Below.refl _ _) rfl
  all_goals
   refine AnyO.T rfl ?_;intro vs u hE hp ac hb K hK
   try have s1:ac.tmps[1]?.getD undef=.pointer (some ⟨w.heap.size,0,none⟩):=by rw[hb.out];kernel_rfl
   try have s6:_=_:=AnyO.sw 6 0 hb hp
   try have s7:_=_:=AnyO.sw 7 1 hb hp
   try have s8:_=_:=AnyO.sw 8 2 hb hp
   try have s10:_=_:=AnyO.sw 10 4 hb hp
   try have s12:_=_:=AnyO.sw 12 6 hb hp
   try have s13:_=_:=AnyO.sw 13 7 hb hp
   try have s15:_=_:=AnyO.sw 15 9 hb hp
   try have s16:_=_:=AnyO.sw 16 10 hb hp
   try have s17:_=_:=AnyO.sw 17 11 hb hp
   try have s19:_=_:=AnyO.sw 19 13 hb hp
   try have s20:_=_:=AnyO.sw 20 14 hb hp
   try have s21:_=_:=AnyO.sw 21 15 hb hp
   try have s23:_=_:=AnyO.sw 23 17 hb hp
   try have s24:_=_:=AnyO.sw 24 18 hb hp
   try have s25:_=_:=AnyO.sw 25 19 hb hp
   try have s27:_=_:=AnyO.sw 27 21 hb hp
   try have s28:_=_:=AnyO.sw 28 22 hb hp
   try have s29:_=_:=AnyO.sw 29 23 hb hp
   try have s31:_=_:=AnyO.sw 31 25 hb hp
   try have s32:_=_:=AnyO.sw 32 26 hb hp
   try have s33:_=_:=AnyO.sw 33 27 hb hp
   try have s9:_=_:=AnyO.sw 9 3 hb hp
   try have s14:_=_:=AnyO.sw 14 8 hb hp
   try have s18:_=_:=AnyO.sw 18 12 hb hp
   try have s22:_=_:=AnyO.sw 22 16 hb hp
   try have s26:_=_:=AnyO.sw 26 20 hb hp
   try have s30:_=_:=AnyO.sw 30 24 hb hp
   try have s34:_=_:=AnyO.sw 34 28 hb hp
   have rr_0:=cell_below k1 (Below.step (below_drew _) hE)
   have rr_1:=HB.out.1
   have rr_2:=okA_below k2 hsz (Below.step (below_drew _) hE)
   rw[k2'] at rr_2
   obtain⟨rr1_2,rr2_2⟩:=rr_2
   have rr_3:=cell_below k34 (Below.step (below_drew _) hE)
   have rr_4:=HB.out.2.2.1
   have rr_5:=cell_below k35 (Below.step (below_drew _) hE)
   have rr_6:=HB.out.2.2.2.1
   have rr_7:=cell_below k36 (Below.step (below_drew _) hE)
   have rr_8:=HB.out.2.2.2.2.1
   have rr_9:=cell_below k37 (Below.step (below_drew _) hE)
   have rr_10:=HB.out.2.2.2.2.2.1
   have rr_11:=cell_below k38 (Below.step (below_drew _) hE)
   have rr_12:=HB.out.2.2.2.2.2.2
   go_simp
   first|exact hK _ _ (Below.refl _ _) rfl|exact hK _ _ (below_alloc _ _) (isSlP.mk u _ _ _ _ _ _ _)
 ·intro vs u hE hp
  have e0:_=_:=hp 0 (by decide)
  have e1:_=_:=hp 1 (by decide)
  have e2:_=_:=hp 2 (by decide)
  have e3:_=_:=hp 3 (by decide)
  have e4:_=_:=hp 4 (by decide)
  have e5:_=_:=hp 5 (by decide)
  have e6:_=_:=hp 6 (by decide)
  have e7:_=_:=hp 7 (by decide)
  have e8:_=_:=hp 8 (by decide)
  have e9:_=_:=hp 9 (by decide)
  have e10:_=_:=hp 10 (by decide)
  have e11:_=_:=hp 11 (by decide)
  have e12:_=_:=hp 12 (by decide)
  have e13:_=_:=hp 13 (by decide)
  have e14:_=_:=hp 14 (by decide)
  have e15:_=_:=hp 15 (by decide)
  have e16:_=_:=hp 16 (by decide)
  have e17:_=_:=hp 17 (by decide)
  have e18:_=_:=hp 18 (by decide)
  have e19:_=_:=hp 19 (by decide)
  have e20:_=_:=hp 20 (by decide)
  have e21:_=_:=hp 21 (by decide)
  have e22:_=_:=hp 22 (by decide)
  have e23:_=_:=hp 23 (by decide)
  have e24:_=_:=hp 24 (by decide)
  have e25:_=_:=hp 25 (by decide)
  have e26:_=_:=hp 26 (by decide)
  have e27:_=_:=hp 27 (by decide)
  have e28:_=_:=hp 28 (by decide)
  obtain⟨A_29,c_29,e29,h_29⟩:=show isSlP (psL b1 b2 b3 b4 b5 b6 b7) (vs 29) u from hp 29 (by decide)
  have e30:_=_:=hp 30 (by decide)
  have e31:_=_:=hp 31 (by decide)
  clear hp
  have HE:=Lib.hid (And.intro hE h_29)
  clear hE h_29
  rw[puts_range [some 6,some 7,some 8,some 9,some 10,some 11,some 12,some 13,some 14,some 15,some 16,some 17,some 18,some 19,some 20,some 21,some 22,some 23,some 24,some 25,some 26,some 27,some 28,some 29,some 30,some 31,some 32,some 33,some 34,some 35,some 36,some 37] (by kernel_rfl)]
  simp only[putL,Nat.reduceAdd,e0,e1,e2,e3,e4,e5,e6,e7,e8,e9,e10,e11,e12,e13,e14,e15,e16,e17,e18,e19,e20,e21,e22,e23,e24,e25,e26,e27,e28,e29,e30,e31]
  clear e0 e1 e2 e3 e4 e5 e6 e7 e8 e9 e10 e11 e12 e13 e14 e15 e16 e17 e18 e19 e20 e21 e22 e23 e24 e25 e26 e27 e28 e29 e30 e31
  go_simp
  generalize hxs:psL b1 b2 b3 b4 b5 b6 b7=xs at HE ⊢
  have hl7:xs.length=7:=by rw[← hxs];rfl
  have HL:=Lib.hid hxs
  clear hxs
  go_wp2
  go_loopw [3,37] (fun v i wr=>∃ k:Nat,k≤7∧i=.int .i64 k∧v=.int .i64 (orL (xs.take k))∧Below u.heap.size u wr) (fun _ i _=>7 - (intOf i).toNat)
  case atStart=>exact⟨0,by omega,rfl,rfl,Below.refl _ _⟩
  case round =>
   obtain⟨k,hk,rfl,rfl,hb⟩:=hrel
   have HB2:=Lib.hid hb
   by_cases hlt:k<7
   ·obtain⟨ad,rfl,hok,hrd⟩:=Sl.pr (HE.out.2.2.keep hb) (show k<xs.length by omega)
    have HT:=Lib.hid (show orL (xs.take (k+1))=_ by rw[List.take_succ_eq_append_getElem (show k<xs.length by omega),orL_snoc])
    have hlk:(k:Int)<7:=by omega
    generalize xs[k]=p at hok hrd HT
    obtain⟨b,n⟩:=p
    clear hb
    cases b with
    | true =>
     go_wp2
     go_roundw
     case rel=>exact⟨k+1,hlt,by go_num,by rw[HT.out];rfl,Below.step HB2.out (below_alloc _ _)⟩
     case measure=>simp[intOf] <;> omega
    | false =>
     go_wp2
     go_roundw
     case rel=>exact⟨k+1,hlt,by go_num,by rw[HT.out];rfl,Below.step HB2.out (below_alloc _ _)⟩
     case measure=>simp[intOf] <;> omega
   ·have hk7:k=7:=by omega
    subst hk7
    go_wp2
    go_ret
    exact⟨by rw[List.take_of_length_le (by omega),HL.out];rfl,Below.step hB1 (Below.step HE.out.1 HB2.out)⟩
end
end Go.Proofs.YtdkjgcfhepplbaaGreatDoor
