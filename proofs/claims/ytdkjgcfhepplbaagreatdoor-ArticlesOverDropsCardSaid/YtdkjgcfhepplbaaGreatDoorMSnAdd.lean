/- The types of offer at this translation: identities, articles, deliveries, outcomes, commands, senders; loaded, stored, boxed, built as whole values. -/
import Derived.Test.YtdkjgcfhepplbaaGreatDoorMTkB
import Derived.Deep.CutBlock
import Derived.BigQuiet
import Derived.Maps.AppendAt
namespace Go.Proofs.YtdkjgcfhepplbaaGreatDoor.Sn
open Go.RowKit
abbrev Art:=Id×ByteArray
abbrev Out:=Id×Int×Int
def cA (a:Art):List Value:=cI a.1++[.string a.2]
def cD (a:Art) (q:Option Addr):List Value:=cA a++[.pointer q]
def cO (x:Out):List Value:=cI x.1++[.int .i64 x.2.1,.int .i64 x.2.2]
def cT (a:Art) (ch sent:Int) (ended:Bool):List Value:=cA a++[.int .i64 ch,.int .i64 sent,.bool ended]
def cSn (ch:Int) (vw:Value) (st:Int) (a:Art) (q:Option Addr) (vo:Value):List Value:=.int .i64 ch :: vw :: .int .i64 st :: (cD a q++[vo])
def zA:Art:=(zI,⟨#[]⟩)
def vA (a:Art):Value:=.agg (cA a).toArray
def vD (a:Art) (q:Option Addr):Value:=.agg (cD a q).toArray
def vO (x:Out):Value:=.agg (cO x).toArray
def vT (a:Art) (ch sent:Int) (ended:Bool):Value:=.agg (cT a ch sent ended).toArray
def vSn (ch:Int) (vw:Value) (st:Int) (a:Art) (q:Option Addr) (vo:Value):Value:=.agg (cSn ch vw st a q vo).toArray
def aA (a:Art):Array Value:=(cA a).toArray
def aT (a:Art) (ch sent:Int) (ended:Bool):Array Value:=(cT a ch sent ended).toArray
def aSn (ch:Int) (vw:Value) (st:Int) (a:Art) (q:Option Addr) (vo:Value):Array Value:=(cSn ch vw st a q vo).toArray
theorem cA_length (a:Art):(cA a).length=33:=by simp[cA,cI_length]
theorem cO_length (x:Out):(cO x).length=34:=by simp[cO,cI_length]
theorem cD_length (a:Art) (q:Option Addr):(cD a q).length=34:=by simp[cD,cA_length]
theorem cT_length (a:Art) (ch sent:Int) (ended:Bool):(cT a ch sent ended).length=36:=by simp[cT,cA_length]
theorem cSn_length (ch:Int) (vw:Value) (st:Int) (a:Art) (q:Option Addr) (vo:Value):(cSn ch vw st a q vo).length=38:=by simp[cSn,cD_length]
theorem cA_one (a:Art):∀ u∈cA a,u.oneCell'=true:=by
 intro u hu
 rcases List.mem_append.1 hu with h|h
 ·exact cI_one _ u h
 ·obtain rfl:u=.string a.2:=by simpa using h
  rfl
theorem cO_one (x:Out):∀ u∈cO x,u.oneCell'=true:=by
 intro u hu
 rcases List.mem_append.1 hu with h|h
 ·exact cI_one _ u h
 ·simp at h
  rcases h with rfl|rfl <;> rfl
theorem cD_one (a:Art) (q:Option Addr):∀ u∈cD a q,u.oneCell'=true:=by
 intro u hu
 rcases List.mem_append.1 hu with h|h
 ·exact cA_one _ u h
 ·obtain rfl:u=.pointer q:=by simpa using h
  rfl
section
variable (w : World) (v : Value)
theorem size40:(Tryz.prog.info? 39).map (·.size)=some 32:=by kernel_rfl
@[go_sem ↓] theorem load40:Instr.loadAt 39 v=ldA 39 v:=rfl
@[go_sem] theorem run_ld40 (ad:Addr):(ldA 39 (.pointer (some ad))).run Tryz.prog w=if okA w ad 32=true then .ok (rdA w ad 32) w else (ldB 39 (.pointer (some ad))).run Tryz.prog w:=run_ldA_if w 39 ad 32 _ Tryz.underlying39 rfl size40
@[go_sem ↓] theorem blt40 (parts:Array (Nat×Value)):Instr.build 39 parts=blA 39 parts:=rfl
@[go_sem ↓] theorem box40:Instr.box 39 v=bxA 39 v:=rfl
@[go_sem] theorem run_bx40 (x:Id):(bxA 39 (vI x)).run Tryz.prog w=.ok (.pointer (some ⟨w.heap.size,0,none⟩)) (w.alloc (.cells (aI x) 39)):=run_bxA w 39 _
@[go_sem ↓] theorem alloc40 (h:Bool):Instr.alloc 39 h v=alA 39 h v:=rfl
@[go_sem ↓] theorem store40 (u:Value):Instr.storeAt 39 v u=stA 39 v u:=rfl
@[go_sem] theorem run_st40 (g:Nat) (x:Id):(stA 39 (.pointer (some ⟨g,0,none⟩)) (vI x)).run Tryz.prog w=if rowOk w g 32=true then .ok () (w.setRow g (aI x)) else (stB 39 (.pointer (some ⟨g,0,none⟩)) (vI x)).run Tryz.prog w:=run_stA_if w 39 g _ 32 size40 (by simp[cI_length]) (by simpa using cI_one x)
@[go_sem] theorem rowOk_n40 (x:Id) (ty:TypeId) (g:Nat) (hg:g=w.heap.size):rowOk (w.alloc (.cells (aI x) ty)) g 32=true:=rowOk_new w _ ty g 32 hg (by simp[aI,cI_length])
@[go_sem] theorem okA_n40 (x:Id) (ty:TypeId) (g:Nat) (hg:g=w.heap.size):okA (w.alloc (.cells (aI x) ty)) ⟨g,0,none⟩ 32=true:=okA_new w _ ty g 32 hg (cI_length x)
@[go_sem] theorem rdA_n40 (x:Id) (ty:TypeId) (g:Nat) (hg:g=w.heap.size):rdA (w.alloc (.cells (aI x) ty)) ⟨g,0,none⟩ 32=vI x:=rdA_new w _ ty g 32 hg (cI_length x)
theorem size22:(Tryz.prog.info? 38).map (·.size)=some 32:=by kernel_rfl
@[go_sem ↓] theorem load22:Instr.loadAt 38 v=ldA 38 v:=rfl
@[go_sem] theorem run_ld22 (ad:Addr):(ldA 38 (.pointer (some ad))).run Tryz.prog w=if okA w ad 32=true then .ok (rdA w ad 32) w else (ldB 38 (.pointer (some ad))).run Tryz.prog w:=run_ldA_if w 38 ad 32 _ Tryz.underlying38 rfl size22
@[go_sem ↓] theorem blt22 (parts:Array (Nat×Value)):Instr.build 38 parts=blA 38 parts:=rfl
theorem size86:(Tryz.prog.info? 67).map (·.size)=some 33:=by kernel_rfl
@[go_sem ↓] theorem load86:Instr.loadAt 67 v=ldA 67 v:=rfl
@[go_sem] theorem run_ld86 (ad:Addr):(ldA 67 (.pointer (some ad))).run Tryz.prog w=if okA w ad 33=true then .ok (rdA w ad 33) w else (ldB 67 (.pointer (some ad))).run Tryz.prog w:=run_ldA_if w 67 ad 33 _ Tryz.underlying67 rfl size86
@[go_sem ↓] theorem blt86 (parts:Array (Nat×Value)):Instr.build 67 parts=blA 67 parts:=rfl
@[go_sem ↓] theorem box86:Instr.box 67 v=bxA 67 v:=rfl
@[go_sem] theorem run_bx86 (a:Art):(bxA 67 (vA a)).run Tryz.prog w=.ok (.pointer (some ⟨w.heap.size,0,none⟩)) (w.alloc (.cells (aA a) 67)):=run_bxA w 67 _
@[go_sem ↓] theorem alloc86 (h:Bool):Instr.alloc 67 h v=alA 67 h v:=rfl
@[go_sem ↓] theorem store86 (u:Value):Instr.storeAt 67 v u=stA 67 v u:=rfl
@[go_sem] theorem run_st86 (g:Nat) (a:Art):(stA 67 (.pointer (some ⟨g,0,none⟩)) (vA a)).run Tryz.prog w=if rowOk w g 33=true then .ok () (w.setRow g (aA a)) else (stB 67 (.pointer (some ⟨g,0,none⟩)) (vA a)).run Tryz.prog w:=run_stA_if w 67 g _ 33 size86 (by simp[cA_length]) (by simpa using cA_one a)
@[go_sem] theorem rowOk_n86 (a:Art) (ty:TypeId) (g:Nat) (hg:g=w.heap.size):rowOk (w.alloc (.cells (aA a) ty)) g 33=true:=rowOk_new w _ ty g 33 hg (by simp[aA,cA_length])
@[go_sem] theorem okA_n86 (a:Art) (ty:TypeId) (g:Nat) (hg:g=w.heap.size):okA (w.alloc (.cells (aA a) ty)) ⟨g,0,none⟩ 33=true:=okA_new w _ ty g 33 hg (cA_length a)
@[go_sem] theorem rdA_n86 (a:Art) (ty:TypeId) (g:Nat) (hg:g=w.heap.size):rdA (w.alloc (.cells (aA a) ty)) ⟨g,0,none⟩ 33=vA a:=rdA_new w _ ty g 33 hg (cA_length a)
theorem size45:(Tryz.prog.info? 74).map (·.size)=some 39:=by kernel_rfl
@[go_sem ↓] theorem load45:Instr.loadAt 74 v=ldA 74 v:=rfl
@[go_sem] theorem run_ld45 (ad:Addr):(ldA 74 (.pointer (some ad))).run Tryz.prog w=if okA w ad 39=true then .ok (rdA w ad 39) w else (ldB 74 (.pointer (some ad))).run Tryz.prog w:=run_ldA_if w 74 ad 39 _ Tryz.underlying74 rfl size45
@[go_sem ↓] theorem blt45 (parts:Array (Nat×Value)):Instr.build 74 parts=blA 74 parts:=rfl
@[go_sem ↓] theorem box45:Instr.box 74 v=bxA 74 v:=rfl
@[go_sem] theorem run_bx45 (c:Cm):(bxA 74 (vC c)).run Tryz.prog w=.ok (.pointer (some ⟨w.heap.size,0,none⟩)) (w.alloc (.cells (aC c) 74)):=run_bxA w 74 _
@[go_sem ↓] theorem alloc45 (h:Bool):Instr.alloc 74 h v=alA 74 h v:=rfl
@[go_sem ↓] theorem store45 (u:Value):Instr.storeAt 74 v u=stA 74 v u:=rfl
@[go_sem] theorem run_st45 (g:Nat) (c:Cm):(stA 74 (.pointer (some ⟨g,0,none⟩)) (vC c)).run Tryz.prog w=if rowOk w g 39=true then .ok () (w.setRow g (aC c)) else (stB 74 (.pointer (some ⟨g,0,none⟩)) (vC c)).run Tryz.prog w:=run_stA_if w 74 g _ 39 size45 (by simp[cC_length]) (by simpa using cC_one c)
@[go_sem] theorem rowOk_n45 (c:Cm) (ty:TypeId) (g:Nat) (hg:g=w.heap.size):rowOk (w.alloc (.cells (aC c) ty)) g 39=true:=rowOk_new w _ ty g 39 hg (by simp[aC,cC_length])
@[go_sem] theorem okA_n45 (c:Cm) (ty:TypeId) (g:Nat) (hg:g=w.heap.size):okA (w.alloc (.cells (aC c) ty)) ⟨g,0,none⟩ 39=true:=okA_new w _ ty g 39 hg (cC_length c)
@[go_sem] theorem rdA_n45 (c:Cm) (ty:TypeId) (g:Nat) (hg:g=w.heap.size):rdA (w.alloc (.cells (aC c) ty)) ⟨g,0,none⟩ 39=vC c:=rdA_new w _ ty g 39 hg (cC_length c)
theorem size68:(Tryz.prog.info? 49).map (·.size)=some 34:=by kernel_rfl
@[go_sem ↓] theorem load68:Instr.loadAt 49 v=ldA 49 v:=rfl
@[go_sem] theorem run_ld68 (ad:Addr):(ldA 49 (.pointer (some ad))).run Tryz.prog w=if okA w ad 34=true then .ok (rdA w ad 34) w else (ldB 49 (.pointer (some ad))).run Tryz.prog w:=run_ldA_if w 49 ad 34 _ Tryz.underlying49 rfl size68
@[go_sem ↓] theorem blt68 (parts:Array (Nat×Value)):Instr.build 49 parts=blA 49 parts:=rfl
theorem size89:(Tryz.prog.info? 70).map (·.size)=some 34:=by kernel_rfl
@[go_sem ↓] theorem blt89 (parts:Array (Nat×Value)):Instr.build 70 parts=blA 70 parts:=rfl
@[go_sem ↓] theorem blt120 (parts:Array (Nat×Value)):Instr.build 159 parts=blA 159 parts:=rfl
@[go_sem ↓] theorem box120:Instr.box 159 v=bxA 159 v:=rfl
@[go_sem ↓] theorem blt91 (parts:Array (Nat×Value)):Instr.build 72 parts=blA 72 parts:=rfl
@[go_sem ↓] theorem box91:Instr.box 72 v=bxA 72 v:=rfl
@[go_sem] theorem run_al40:(alA 39 true (.tuple #[])).run Tryz.prog w=.ok (.pointer (some ⟨w.heap.size,0,none⟩)) (w.alloc (.cells (aI zI) 39)):=by kernel_rfl
@[go_sem] theorem run_al45:(alA 74 true (.tuple #[])).run Tryz.prog w=.ok (.pointer (some ⟨w.heap.size,0,none⟩)) (w.alloc (.cells (aC zC) 74)):=by kernel_rfl
@[go_sem] theorem run_al86:(alA 67 true (.tuple #[])).run Tryz.prog w=.ok (.pointer (some ⟨w.heap.size,0,none⟩)) (w.alloc (.cells (aA zA) 67)):=by kernel_rfl
@[go_sem] theorem run_bx91 (ch:Int) (vw:Value) (st:Int) (a:Art) (q:Option Addr) (vo:Value):(bxA 72 (vSn ch vw st a q vo)).run Tryz.prog w=.ok (.pointer (some ⟨w.heap.size,0,none⟩)) (w.alloc (.cells (aSn ch vw st a q vo) 72)):=run_bxA w 72 _
@[go_sem] theorem run_bx120 (a:Art) (ch sent:Int) (e:Bool):(bxA 159 (vT a ch sent e)).run Tryz.prog w=.ok (.pointer (some ⟨w.heap.size,0,none⟩)) (w.alloc (.cells (aT a ch sent e) 159)):=run_bxA w 159 _
@[go_sem ↓] theorem store89 (u:Value):Instr.storeAt 70 v u=stA 70 v u:=rfl
@[go_sem] theorem run_st89 (g k:Nat) (a:Art) (q:Option Addr):(stA 70 (.pointer (some ⟨g,k,none⟩)) (vD a q)).run Tryz.prog w=if stOk w g k 34=true then .ok () (stD w g k (cD a q)) else (stB 70 (.pointer (some ⟨g,k,none⟩)) (vD a q)).run Tryz.prog w:=by
 split
 ·rename_i h
  exact run_stA_off w 70 g k (cD a q) 34 h size89 (cD_length a q) (cD_one a q)
 ·rfl
@[go_sem] theorem bl40_0  : (blA 39 #[]).run Tryz.prog w=.ok (vI zI) w:=by kernel_rfl
@[go_sem] theorem bl22_0  : (blA 38 #[]).run Tryz.prog w=.ok (vI zI) w:=by kernel_rfl
@[go_sem] theorem bl86_2 (s:ByteArray) (x:Id):(blA 67 #[(0,vI x),(1,.string s)]).run Tryz.prog w=.ok (vA (x,s)) w:=by
 revert x
 refine Id.cases fun a0 a1 a2 a3 a4 a5 a6 a7 a8 a9 a10 a11 a12 a13 a14 a15 a16 a17 a18 a19 a20 a21 a22 a23 a24 a25 a26 a27 a28 a29 a30 a31=>?_
 kernel_rfl
@[go_sem] theorem bl89_0  : (blA 70 #[]).run Tryz.prog w=.ok (vD zA none) w:=by kernel_rfl
@[go_sem] theorem bl91_1 (n:Int):(blA 72 #[(0,.int .i64 n)]).run Tryz.prog w=.ok (vSn n (.slice none 0 0) 0 zA none (.slice none 0 0)) w:=by kernel_rfl
@[go_sem] theorem bl45_0  : (blA 74 #[]).run Tryz.prog w=.ok (vC zC) w:=by kernel_rfl
@[go_sem] theorem bl45_2 (n:Int) (x:Id):(blA 74 #[(0,.int .i64 n),(2,vI x)]).run Tryz.prog w=.ok (vC ⟨n,⟨#[]⟩,x,0,0,0,0,⟨#[]⟩⟩) w:=by
 revert x
 refine Id.cases fun a0 a1 a2 a3 a4 a5 a6 a7 a8 a9 a10 a11 a12 a13 a14 a15 a16 a17 a18 a19 a20 a21 a22 a23 a24 a25 a26 a27 a28 a29 a30 a31=>?_
 kernel_rfl
@[go_sem] theorem bl45_3 (n m:Int) (x:Id):(blA 74 #[(0,.int .i64 n),(2,vI x),(3,.int .i64 m)]).run Tryz.prog w=.ok (vC ⟨n,⟨#[]⟩,x,m,0,0,0,⟨#[]⟩⟩) w:=by
 revert x
 refine Id.cases fun a0 a1 a2 a3 a4 a5 a6 a7 a8 a9 a10 a11 a12 a13 a14 a15 a16 a17 a18 a19 a20 a21 a22 a23 a24 a25 a26 a27 a28 a29 a30 a31=>?_
 kernel_rfl
@[go_sem] theorem bl45_4 (n m:Int) (x:Id):(blA 74 #[(0,.int .i64 n),(2,vI x),(4,.int .i64 m)]).run Tryz.prog w=.ok (vC ⟨n,⟨#[]⟩,x,0,m,0,0,⟨#[]⟩⟩) w:=by
 revert x
 refine Id.cases fun a0 a1 a2 a3 a4 a5 a6 a7 a8 a9 a10 a11 a12 a13 a14 a15 a16 a17 a18 a19 a20 a21 a22 a23 a24 a25 a26 a27 a28 a29 a30 a31=>?_
 kernel_rfl
@[go_sem] theorem bl45_7 (n m:Int) (s:ByteArray) (x:Id):(blA 74 #[(0,.int .i64 n),(2,vI x),(4,.int .i64 m),(7,.string s)]).run Tryz.prog w=.ok (vC ⟨n,⟨#[]⟩,x,0,m,0,0,s⟩) w:=by
 revert x
 refine Id.cases fun a0 a1 a2 a3 a4 a5 a6 a7 a8 a9 a10 a11 a12 a13 a14 a15 a16 a17 a18 a19 a20 a21 a22 a23 a24 a25 a26 a27 a28 a29 a30 a31=>?_
 kernel_rfl
@[go_sem] theorem bl68_1  (x:Id):(blA 49 #[(0,vI x)]).run Tryz.prog w=.ok (vO (x,0,0)) w:=by
 revert x
 refine Id.cases fun a0 a1 a2 a3 a4 a5 a6 a7 a8 a9 a10 a11 a12 a13 a14 a15 a16 a17 a18 a19 a20 a21 a22 a23 a24 a25 a26 a27 a28 a29 a30 a31=>?_
 kernel_rfl
@[go_sem] theorem bl68_3 (n m:Int) (x:Id):(blA 49 #[(0,vI x),(1,.int .i64 n),(2,.int .i64 m)]).run Tryz.prog w=.ok (vO (x,n,m)) w:=by
 revert x
 refine Id.cases fun a0 a1 a2 a3 a4 a5 a6 a7 a8 a9 a10 a11 a12 a13 a14 a15 a16 a17 a18 a19 a20 a21 a22 a23 a24 a25 a26 a27 a28 a29 a30 a31=>?_
 kernel_rfl
@[go_sem] theorem bl120_4 (n m:Int) (s:ByteArray) (x:Id):(blA 159 #[(0,vI x),(1,.string s),(2,.int .i64 n),(3,.int .i64 m)]).run Tryz.prog w=.ok (vT (x,s) n m false) w:=by
 revert x
 refine Id.cases fun a0 a1 a2 a3 a4 a5 a6 a7 a8 a9 a10 a11 a12 a13 a14 a15 a16 a17 a18 a19 a20 a21 a22 a23 a24 a25 a26 a27 a28 a29 a30 a31=>?_
 kernel_rfl
@[go_sem] theorem bl89_1 (s:ByteArray) (x:Id):(blA 70 #[(0,vA (x,s))]).run Tryz.prog w=.ok (vD (x,s) none) w:=by
 revert x
 refine Id.cases fun a0 a1 a2 a3 a4 a5 a6 a7 a8 a9 a10 a11 a12 a13 a14 a15 a16 a17 a18 a19 a20 a21 a22 a23 a24 a25 a26 a27 a28 a29 a30 a31=>?_
 kernel_rfl
def aAs (xs:List Art):Array Value:=(xs.flatMap cA).toArray
def aOs (xs:List Out):Array Value:=(xs.flatMap cO).toArray
@[go_sem ↓] theorem bs84 (n:Nat) (parts:Array (Nat×Value)):Instr.buildSlice 65 n parts=bsA 65 n parts:=rfl
@[go_sem ↓] theorem bs65 (n:Nat) (parts:Array (Nat×Value)):Instr.buildSlice 44 n parts=bsA 44 n parts:=rfl
theorem vA_cells (a:Art):(vA a).cells.size=33:=by simp[vA,Value.cells,cA_length]
theorem vO_cells (x:Out):(vO x).cells.size=34:=by simp[vO,Value.cells,cO_length]
theorem run_bs84 (xs:List Art) (h:xs.length≤100):(bsA 65 xs.length (xs.zipIdx.map fun x=>(x.2,vA x.1)).toArray).run Tryz.prog w=.ok (.slice (some ⟨w.heap.size,0,none⟩) xs.length xs.length) (w.alloc (.cells (aAs xs) 67)):=by
 obtain⟨i,z,h1,h2,h3⟩:=info_of (show (Tryz.prog.info? 67).map (fun i=>(i.zero.map (·.cells.size),i.size,i.bytes))=some (some 33,33,48) by kernel_rfl)
 have:=run_bsA w vA 65 67 i z 33 Tryz.underlying65 h1 h2 h3 vA_cells xs (by omega)
 exact this
theorem run_bs65 (xs:List Out) (h:xs.length≤100):(bsA 44 xs.length (xs.zipIdx.map fun x=>(x.2,vO x.1)).toArray).run Tryz.prog w=.ok (.slice (some ⟨w.heap.size,0,none⟩) xs.length xs.length) (w.alloc (.cells (aOs xs) 49)):=by
 obtain⟨i,z,h1,h2,h3⟩:=info_of (show (Tryz.prog.info? 49).map (fun i=>(i.zero.map (·.cells.size),i.size,i.bytes))=some (some 34,34,48) by kernel_rfl)
 have:=run_bsA w vO 44 49 i z 34 Tryz.underlying44 h1 h2 h3 vO_cells xs (by omega)
 exact this
@[go_sem] theorem run_bs84_0:(bsA 65 0 #[]).run Tryz.prog w=.ok (.slice (some ⟨w.heap.size,0,none⟩) 0 0) (w.alloc (.cells (aAs []) 67)):=run_bs84 w [] (by simp)
@[go_sem] theorem run_bs84_1 (a:Art):(bsA 65 1 #[(0,vA a)]).run Tryz.prog w=.ok (.slice (some ⟨w.heap.size,0,none⟩) 1 1) (w.alloc (.cells (aAs [a]) 67)):=run_bs84 w [a] (by simp)
@[go_sem] theorem run_bs65_1 (x:Out):(bsA 44 1 #[(0,vO x)]).run Tryz.prog w=.ok (.slice (some ⟨w.heap.size,0,none⟩) 1 1) (w.alloc (.cells (aOs [x]) 49)):=run_bs65 w [x] (by simp)
end
end Go.Proofs.YtdkjgcfhepplbaaGreatDoor.Sn
namespace Go.Proofs.YtdkjgcfhepplbaaGreatDoor.Sn
open Go.RowKit
attribute [go_sem] okA_drew rdA_drew okA_drewN rdA_drewN okA_alloc rdA_alloc rowOk_drew rowOk_drewN rowOk_alloc setRow_new setRow_alloc setRow_drew setRow_drewN
section
variable (w : World)
@[go_sem] theorem eql40 (a b:Id):(binOp .eql 39 (vI a) (vI b)).run Tryz.prog w=.ok (.bool (decide (a=b))) w:=by
 obtain⟨i,h1,h2⟩:=info5
 unfold vI cI
 rw[run_eql_bytes w 32 39 5 i a.1 b.1 Tryz.underlying39 Tryz.underlying5 h1 h2 a.2 b.2]
 simp[Subtype.ext_iff]
@[go_sem] theorem neq40 (a b:Id):(binOp .neq 39 (vI a) (vI b)).run Tryz.prog w=.ok (.bool (!decide (a=b))) w:=by
 obtain⟨i,h1,h2⟩:=info5
 unfold vI cI
 rw[run_neq_bytes w 32 39 5 i a.1 b.1 Tryz.underlying39 Tryz.underlying5 h1 h2 a.2 b.2]
 simp[Subtype.ext_iff]
@[go_sem] theorem eql22 (a b:Id):(binOp .eql 38 (vI a) (vI b)).run Tryz.prog w=.ok (.bool (decide (a=b))) w:=by
 obtain⟨i,h1,h2⟩:=info5
 unfold vI cI
 rw[run_eql_bytes w 32 38 5 i a.1 b.1 Tryz.underlying38 Tryz.underlying5 h1 h2 a.2 b.2]
 simp[Subtype.ext_iff]
theorem guard40:Tryz.prog.eqGuardType Tryz.prog.depth 39=false:=by kernel_rfl
theorem guard22:Tryz.prog.eqGuardType Tryz.prog.depth 38=false:=by kernel_rfl
@[go_sem] theorem eqGuard40 (op:BinOp) (x y:Operand) (a b:Id):(eqGuard op 39 x y (vI a) (vI b)).run Tryz.prog w=.ok () w:=run_eqGuard_agg w op 39 x y _ _ guard40
@[go_sem] theorem eqGuard22 (op:BinOp) (x y:Operand) (a b:Id):(eqGuard op 38 x y (vI a) (vI b)).run Tryz.prog w=.ok () w:=run_eqGuard_agg w op 38 x y _ _ guard22
end
/-! ### fields of new variables -/
section
variable (w : World)
@[go_sem] theorem aA_32 (a:Art):(aA a)[32]? = some (.string a.2):=by
 unfold aA cA
 rw[List.getElem?_toArray,List.getElem?_append_right (by rw[cI_length];omega),cI_length]
 rfl
theorem cA_id (a:Art):((cA a).drop 0).take 32=cI a.1:=by
 unfold cA
 rw[List.drop_zero,List.take_append_of_le_length (by rw[cI_length];omega),List.take_of_length_le (by rw[cI_length];omega)]
@[go_sem] theorem okA_Aid (a:Art) (ty:TypeId) (g:Nat) (hg:g=w.heap.size):okA (w.alloc (.cells (aA a) ty)) ⟨g,0,none⟩ 32=true:=by
 have:=(at_off (ty:=ty) hg (cA_id a)).ok
 rwa[cI_length] at this
@[go_sem] theorem rdA_Aid (a:Art) (ty:TypeId) (g:Nat) (hg:g=w.heap.size):rdA (w.alloc (.cells (aA a) ty)) ⟨g,0,none⟩ 32=vI a.1:=by
 have:=(at_off (ty:=ty) hg (cA_id a)).rd
 rwa[cI_length] at this
end
/-! ### the object -/
structure St where
 wait:List Art
 state:Int
 cur:Art
 outs:List Out
 snd:Option (Int×Bool)
def St.zero:St:=⟨[],0,zA,[],none⟩
structure Rp (b:Nat) (ch:Int) (s:St) (F:List Nat) (vw vo:Value) (q:Option Addr) (w:World):Prop where
 row:Row w b (cSn ch vw s.state s.cur q vo) 72
 ow:Own w 0 67 33 cA vw s.wait
 oo:Own w 0 49 34 cO vo s.outs
 none_:s.snd=none→q=none
 some_:∀ t,s.snd=some t→∃ g,q=some ⟨g,0,none⟩∧g≠b∧g∈F∧Row w g (cT s.cur ch t.1 t.2) 159∧vw.ownBlock≠some g∧vo.ownBlock≠some g
 bF:b∈F
 wF:∀ k,vw.ownBlock=some k→k∈F∧k≠b∧vo.ownBlock≠some k
 oF:∀ k,vo.ownBlock=some k→k∈F∧k≠b
def Rep (b:Nat) (ch:Int) (s:St) (F:List Nat) (w:World):Prop:=∃ vw vo q,Rp b ch s F vw vo q w
theorem Rp.same {b:Nat} {ch:Int} {s:St} {F:List Nat} {vw vo:Value} {q:Option Addr} {w w':World} (h:Rp b ch s F vw vo q w) (hk:∀ k∈F,w'.heap[k]? = w.heap[k]?):Rp b ch s F vw vo q w' :=
 ⟨h.row.same (hk b h.bF),h.ow.same fun k e=>hk k (h.wF k e).1,h.oo.same fun k e=>hk k (h.oF k e).1,h.none_,fun t ht=>by
  obtain⟨g,e1,e2,e3,e4,e5⟩:=h.some_ t ht
  exact⟨g,e1,e2,e3,e4.same (hk g e3),e5⟩,h.bF,h.wF,h.oF⟩
theorem Rp.keep {b:Nat} {ch:Int} {s:St} {F:List Nat} {vw vo:Value} {q:Option Addr} {w w':World} (h:Rp b ch s F vw vo q w) (hb:Below w.heap.size w w'):Rp b ch s F vw vo q w':=by
 refine⟨h.row.keep hb,h.ow.keep hb,h.oo.keep hb,h.none_,fun t ht=>?_,h.bF,h.wF,h.oF⟩
 obtain⟨g,e1,e2,e3,e4,e5⟩:=h.some_ t ht
 exact⟨g,e1,e2,e3,e4.keep hb,e5⟩
theorem Rep.keep {b:Nat} {ch:Int} {s:St} {F:List Nat} {w w':World} (h:Rep b ch s F w) (hb:Below w.heap.size w w'):Rep b ch s F w':=by
 obtain⟨vw,vo,q,h⟩:=h
 exact⟨vw,vo,q,h.keep hb⟩
theorem Rp.c0 {b:Nat} {ch:Int} {s:St} {F:List Nat} {vw vo:Value} {q:Option Addr} {w:World} (h:Rp b ch s F vw vo q w):w.cell? ⟨b,0,none⟩=some (.int .i64 ch):=h.row.cell 0
theorem Rp.c1 {b:Nat} {ch:Int} {s:St} {F:List Nat} {vw vo:Value} {q:Option Addr} {w:World} (h:Rp b ch s F vw vo q w):w.cell? ⟨b,1,none⟩=some vw:=h.row.cell 1
theorem Rp.c2 {b:Nat} {ch:Int} {s:St} {F:List Nat} {vw vo:Value} {q:Option Addr} {w:World} (h:Rp b ch s F vw vo q w):w.cell? ⟨b,2,none⟩=some (.int .i64 s.state):=h.row.cell 2
theorem cSn_hi (ch:Int) (vw:Value) (st:Int) (a:Art) (q:Option Addr) (vo:Value) (k:Nat):(cSn ch vw st a q vo)[35+k]? = [Value.string a.2,.pointer q,vo][k]?:=by
 unfold cSn cD cA
 rw[show 35+k=(32+k)+1+1+1 by omega,List.getElem?_cons_succ,List.getElem?_cons_succ,List.getElem?_cons_succ,List.append_assoc,List.append_assoc,List.getElem?_append_right (by rw[cI_length];omega),cI_length,show 32+k - 32=k by omega]
 rfl
theorem Rp.c35 {b:Nat} {ch:Int} {s:St} {F:List Nat} {vw vo:Value} {q:Option Addr} {w:World} (h:Rp b ch s F vw vo q w):w.cell? ⟨b,35,none⟩=some (.string s.cur.2):=(h.row.cell 35).trans (cSn_hi _ _ _ _ _ _ 0)
theorem Rp.c36 {b:Nat} {ch:Int} {s:St} {F:List Nat} {vw vo:Value} {q:Option Addr} {w:World} (h:Rp b ch s F vw vo q w):w.cell? ⟨b,36,none⟩=some (.pointer q):=(h.row.cell 36).trans (cSn_hi _ _ _ _ _ _ 1)
theorem Rp.c37 {b:Nat} {ch:Int} {s:St} {F:List Nat} {vw vo:Value} {q:Option Addr} {w:World} (h:Rp b ch s F vw vo q w):w.cell? ⟨b,37,none⟩=some vo:=(h.row.cell 37).trans (cSn_hi _ _ _ _ _ _ 2)
theorem cSn_cur (ch:Int) (vw:Value) (st:Int) (a:Art) (q:Option Addr) (vo:Value):((cSn ch vw st a q vo).drop 3).take 33=cA a:=by
 unfold cSn cD
 rw[List.drop_succ_cons,List.drop_succ_cons,List.drop_succ_cons,List.drop_zero,List.append_assoc,List.take_append_of_le_length (by rw[cA_length];omega),List.take_of_length_le (by rw[cA_length];omega)]
theorem cSn_id (ch:Int) (vw:Value) (st:Int) (a:Art) (q:Option Addr) (vo:Value):((cSn ch vw st a q vo).drop 3).take 32=cI a.1:=by
 have h:=congrArg (List.take 32) (cSn_cur ch vw st a q vo)
 rw[List.take_take,show min 32 33=32 from rfl] at h
 rw[h]
 exact cA_id a
theorem Rp.id {b:Nat} {ch:Int} {s:St} {F:List Nat} {vw vo:Value} {q:Option Addr} {w:World} (h:Rp b ch s F vw vo q w):okA w ⟨b,3,none⟩ 32=true∧rdA w ⟨b,3,none⟩ 32=vI s.cur.1:=by
 have:=h.row.at_ (cSn_id ch vw s.state s.cur q vo)
 have h1:=this.ok
 have h2:=this.rd
 rw[cI_length] at h1 h2
 exact⟨h1,h2⟩
theorem Rp.art {b:Nat} {ch:Int} {s:St} {F:List Nat} {vw vo:Value} {q:Option Addr} {w:World} (h:Rp b ch s F vw vo q w):okA w ⟨b,3,none⟩ 33=true∧rdA w ⟨b,3,none⟩ 33=vA s.cur:=by
 have:=h.row.at_ (cSn_cur ch vw s.state s.cur q vo)
 have h1:=this.ok
 have h2:=this.rd
 rw[cA_length] at h1 h2
 exact⟨h1,h2⟩
set_option maxRecDepth 100000 in
set_option maxHeartbeats 400000 in
theorem state20 (b:Nat) (ch:Int) (s:St) (F:List Nat) (w:World) (h:Rep b ch s F w):Calls Tryz.prog 9 #[.pointer (some ⟨b,0,none⟩)] w fun e w'=>e=.returned (.int .i64 s.state)∧w'=w:=by
 obtain⟨vw,vo,q,h⟩:=h
 have r1:=h.c2
 clear h
 go_enter Tryz.func9,Tryz.ntmps9
 go_wp2
 go_ret
 exact⟨rfl,rfl⟩
theorem new_rep (w:World) (ch:Int):Rep w.heap.size ch St.zero [w.heap.size] (w.alloc (.cells (aSn ch (.slice none 0 0) 0 zA none (.slice none 0 0)) 72)) :=
 ⟨_,_,_,Row.new w _ 72,Own.nil _ _ _ _ _,Own.nil _ _ _ _ _,fun _=>rfl,fun t h=>(by cases h),by simp,fun k h=>(by cases h),fun k h=>(by cases h)⟩
set_option maxRecDepth 100000 in
set_option maxHeartbeats 400000 in
theorem new11_ok (ch:Int) (h1:1≤ch) (h2:ch≤4096) (w:World):Calls Tryz.prog 15 #[.int .i64 ch] w fun e w'=>e=.returned (.tuple #[.pointer (some ⟨w.heap.size,0,none⟩),.int .i64 0])∧Rep w.heap.size ch St.zero [w.heap.size] w'∧Below w.heap.size w w':=by
 go_enter Tryz.func15,Tryz.ntmps15
 go_wp2
 go_ret2
 exact⟨rfl,new_rep w ch,below_alloc _ _⟩
end Go.Proofs.YtdkjgcfhepplbaaGreatDoor.Sn
namespace Go.Proofs.YtdkjgcfhepplbaaGreatDoor.Sn
open Go.RowKit
theorem _root_.Go.Proofs.YtdkjgcfhepplbaaGreatDoor.Sl.art {w:World} {A:Option Addr} {xs:List Art} (h:Sl w cA A xs) {k:Nat} (hk:k<xs.length):∃ ad,A=some ad∧okA w (ad.add (k * 33)) 33=true∧rdA w (ad.add (k * 33)) 33=vA xs[k]:=by
 obtain⟨ad,rfl,hat⟩:=Sl.at_ cA_length h hk
 have h1:=hat.ok
 have h2:=hat.rd
 rw[cA_length] at h1 h2
 exact⟨ad,rfl,h1,h2⟩
def hasL (x:Id) (l:List Art):Bool:=l.any fun a=>decide (a.1=x)
set_option maxRecDepth 100000 in
set_option maxHeartbeats 400000 in
theorem has59 (a:Art) (x:Id) (g:Nat) (w:World) (hg:g<w.heap.size) (h:okA w ⟨g,0,none⟩ 32=true∧rdA w ⟨g,0,none⟩ 32=vI x) :
  Calls Tryz.prog 38 #[vA a,.pointer (some ⟨g,0,none⟩)] w fun e w'=>e=.returned (.bool (decide (a.1=x)))∧Below w.heap.size w w':=by
 obtain⟨h1,h2⟩:=h
 go_enter Tryz.func38,Tryz.ntmps38
 go_wp2
 go_ret
 exact⟨rfl,below_alloc _ _⟩
set_option maxRecDepth 100000 in
set_option maxHeartbeats 800000 in
theorem index66 (A:Option Addr) (n c:Nat) (xs:List Art) (x:Id) (g:Nat) (w:World) (hn:xs.length=n) (hx:Sl w cA A xs) (hm:n≤4294967296) (hg:g<w.heap.size) (h:okA w ⟨g,0,none⟩ 32=true∧rdA w ⟨g,0,none⟩ 32=vI x) :
  Calls Tryz.prog 73 #[.slice A n c,.func (.func 38) #[] #[.pointer (some ⟨g,0,none⟩)]] w fun e w'=>(∃ r,e=.returned (.int .i64 r)∧decide (0≤r)=hasL x xs)∧Below w.heap.size w w':=by
 subst hn
 have HX:=Lib.hid (And.intro hx (And.intro hg h))
 clear hx hg h
 go_enter Tryz.func73,Tryz.ntmps73
 go_wp2
 go_loopw [8] (fun i wr=>∃ k:Nat,k≤xs.length∧i=.int .i64 k∧hasL x (xs.take k)=false∧Below w.heap.size w wr) (fun i _=>xs.length - (intOf i).toNat)
 case atStart=>exact⟨0,Nat.zero_le _,rfl,rfl,Below.refl _ _⟩
 case round =>
  obtain⟨k,hk,rfl,hno,hb⟩:=hrel
  have HB:=Lib.hid (And.intro hno hb)
  by_cases hlt:k<xs.length
  ·obtain⟨ad,rfl,hok,hrd⟩:=Sl.art (HX.out.1.keep hb) hlt
   have HT:=Lib.hid (show hasL x (xs.take (k+1))=(hasL x (xs.take k) || decide (xs[k].1=x)) by
    unfold hasL
    rw[List.take_succ_eq_append_getElem hlt,List.any_append,List.any_cons,List.any_nil,Bool.or_false])
   have HI:=Lib.hid (show decide (xs[k].1=x)=true→hasL x xs=true from fun e=>List.any_eq_true.2 ⟨xs[k],List.getElem_mem _,e⟩)
   have hlk:(k:Int)<(xs.length:Int):=by omega
   generalize xs[k]=a at hok hrd HT HI
   clear hno hb
   cases he:decide (a.1=x) with
   | true =>
    go_wp2_with (go_at_call 38;refine (has59 a x g _ (Nat.lt_of_lt_of_le HX.out.2.1 HB.out.2.size) ?_).mono ?_;(have hh:=okA_below HX.out.2.2.1 HX.out.2.1 HB.out.2;exact⟨hh.1,hh.2.trans HX.out.2.2.2⟩);rintro e w1 ⟨rfl,hb1⟩;rw[he];have H1:=Lib.hid (Below.step HB.out.2 hb1);clear hb1)
    go_ret
    exact⟨⟨_,rfl,by rw[HI.out he];simp⟩,H1.out⟩
   | false =>
    go_wp2_with (go_at_call 38;refine (has59 a x g _ (Nat.lt_of_lt_of_le HX.out.2.1 HB.out.2.size) ?_).mono ?_;(have hh:=okA_below HX.out.2.2.1 HX.out.2.1 HB.out.2;exact⟨hh.1,hh.2.trans HX.out.2.2.2⟩);rintro e w1 ⟨rfl,hb1⟩;rw[he];have H1:=Lib.hid (Below.step HB.out.2 hb1);clear hb1)
    go_roundw
    case rel=>exact⟨k+1,hlt,by go_num,by rw[HT.out,HB.out.1,he];rfl,H1.out⟩
    case measure=>simp[intOf] <;> omega
  ·have hkn:k=xs.length:=by omega
   subst hkn
   rw[List.take_length] at hno
   clear hb
   go_wp2
   go_ret
   exact⟨⟨_,rfl,by rw[hno];rfl⟩,HB.out.2⟩
set_option maxRecDepth 100000 in
set_option maxHeartbeats 400000 in
theorem contains58 (A:Option Addr) (n c:Nat) (xs:List Art) (x:Id) (g:Nat) (w:World) (hn:xs.length=n) (hx:Sl w cA A xs) (hm:n≤4294967296) (hg:g<w.heap.size) (h:okA w ⟨g,0,none⟩ 32=true∧rdA w ⟨g,0,none⟩ 32=vI x) :
  Calls Tryz.prog 37 #[.slice A n c,.func (.func 38) #[] #[.pointer (some ⟨g,0,none⟩)]] w fun e w'=>e=.returned (.bool (hasL x xs))∧Below w.heap.size w w':=by
 have HX:=Lib.hid (index66 A n c xs x g w hn hx hm hg h)
 clear hx hg h hn
 go_enter Tryz.func37,Tryz.ntmps37
 go_wp2_with (go_at_call 73;refine HX.out.mono ?_;rintro e w1 ⟨⟨r,rfl,hr⟩,hb⟩;have H1:=Lib.hid (And.intro hr hb);clear hr hb)
 go_ret
 exact⟨by rw[← H1.out.1];rfl,H1.out.2⟩
def hasS (s:St) (x:Id):Bool:=(decide (s.state≠0) && decide (s.cur.1=x)) || hasL x s.wait
set_option maxRecDepth 100000 in
set_option maxHeartbeats 800000 in
theorem has38 (b:Nat) (ch:Int) (s:St) (F:List Nat) (x:Id) (w:World) (h:Rep b ch s F w) (hm:s.wait.length≤4294967296) :
  Calls Tryz.prog 19 #[.pointer (some ⟨b,0,none⟩),vI x] w fun e w'=>e=.returned (.bool (hasS s x))∧Below w.heap.size w w':=by
 obtain⟨vw,vo,q,h⟩:=h
 have r1:=h.c1
 have r2:=h.c2
 obtain⟨r3,r4⟩:=h.id
 obtain⟨A,c,hvw,hc,hsl⟩:=h.ow.sl
 have hlt:=h.row.lt
 have HX:=Lib.hid (And.intro hsl (And.intro hm h))
 subst hvw
 clear hsl h hm
 obtain⟨st,hst⟩:∃ st,s.state=st:=⟨_,rfl⟩
 obtain⟨ci,hci⟩:∃ ci,s.cur.1=ci:=⟨_,rfl⟩
 have HS:=Lib.hid (show hasS s x=((decide (st≠0) && decide (ci=x)) || hasL x s.wait) by rw[← hst,← hci];rfl)
 rw[hst] at r2
 rw[hci] at r4
 clear hst hci
 generalize hn:s.wait.length=n at *
 by_cases h0:st=0
 ·subst h0
  go_enter Tryz.func19,Tryz.ntmps19
  go_wp2
  go_quiet (fail)
  go_wp2_with (go_at_call 37;refine (contains58 A n c s.wait x w.heap.size _ hn (HX.out.1.keep (Below.step (below_alloc w (.cells (aI x) 39)) (below_drewN _ nq))) HX.out.2.1 (by simp) ?_).mono ?_;(exact⟨okA_n40 w x 39 _ rfl,rdA_n40 w x 39 _ rfl⟩);rintro e w1 ⟨rfl,hb⟩;have H1:=Lib.hid (Below.step (below_alloc w (.cells (aI x) 39)) (Below.step (below_drewN _ nq) hb));clear hb)
  go_ret
  exact⟨by rw[HS.out];simp,H1.out⟩
 ·by_cases hx:ci=x
  ·go_enter Tryz.func19,Tryz.ntmps19
   go_wp2
   go_quiet (fail)
   go_wp2
   go_ret
   exact⟨by rw[HS.out];simp[h0,hx],Below.step (below_alloc _ _) (below_drewN _ _)⟩
  ·go_enter Tryz.func19,Tryz.ntmps19
   go_wp2
   go_quiet (fail)
   go_wp2_with (go_at_call 37;refine (contains58 A n c s.wait x w.heap.size _ hn (HX.out.1.keep (Below.step (below_alloc w (.cells (aI x) 39)) (below_drewN _ nq))) HX.out.2.1 (by simp) ?_).mono ?_;(exact⟨okA_n40 w x 39 _ rfl,rdA_n40 w x 39 _ rfl⟩);rintro e w1 ⟨rfl,hb⟩;have H1:=Lib.hid (Below.step (below_alloc w (.cells (aI x) 39)) (Below.step (below_drewN _ nq) hb));clear hb)
   go_ret
   exact⟨by rw[HS.out];simp[h0,hx],H1.out⟩
end Go.Proofs.YtdkjgcfhepplbaaGreatDoor.Sn
namespace Go.Proofs.YtdkjgcfhepplbaaGreatDoor.Sn
open Go.RowKit
theorem row86:(Tryz.prog.info? 67).map (fun i=>(i.zero.map (·.cells.size),i.size,i.bytes))=some (some 33,33,48):=by kernel_rfl
theorem row68:(Tryz.prog.info? 49).map (fun i=>(i.zero.map (·.cells.size),i.size,i.bytes))=some (some 34,34,48):=by kernel_rfl
theorem wp_append_at {P:Program} (w:World) {α:Type} {o:Oper} {a:Act} {K:Act→World→Prop} {Q:Exit→Act→World→Prop} (sx x:Operand) (t:TypeId)
  (ho:o.op=.call { callee:=.builtin .append,args:=#[sx,x],argTypes:=#[t,t] })
  (base:Nat) (e:TypeId) (s bytes:Nat) (enc:α→List Value) (ht:P.underlying t=some (.slice e)) (hi:(P.info? e).map (fun i=>(i.zero.map (·.cells.size),i.size,i.bytes))=some (some s,s,bytes)) (hsz:0<s)
  (hs:∀ x,(enc x).length=s) (h1:∀ x,∀ u∈enc x,u.oneCell'=true)
  (v:Value) (xs:List α) (hv:a.eval sx=v) (hown:Own w base e s enc v xs)
  (ad:Addr) (m c:Nat) (ys:List α) (hm:ys.length=m) (hx:a.eval x=.slice (some ad) m c) (hat:At w ad (ys.flatMap enc))
  (hlen:(xs.length+m) * bytes≤140737488355328) (hl2:xs.length+m≤9223372036854775807) (hbase:base≤w.heap.size)
  (h:∀ v' w',Own w' base e s enc v' (xs++ys)→w.grownBy w' v.ownBlock→(v'.ownBlock=v.ownBlock∨v'.ownBlock=some w.heap.size)→K (a.put o.dst v') w'):o.wp P a w K Q:=by
 subst hm
 cases hq:P.info? e with
 | none=>rw[hq] at hi;cases hi
 | some i =>
  simp only[hq,Option.map_some,Option.some.injEq,Prod.mk.injEq] at hi
  obtain⟨hz,hsi,hby⟩:=hi
  cases hz0:i.zero with
  | none=>rw[hz0] at hz;cases hz
  | some z =>
   simp only[hz0,Option.map_some,Option.some.injEq] at hz
   obtain⟨v',w',hr,h2,h3,_,h5⟩:=run_append_own_at (P:=P) w base t o.type e i z s bytes ht hq hz0 hsi hby hz hsz v xs.length (xs.flatMap enc) hown ad ys.length c (ys.flatMap enc) (flatMap_length enc s hs ys) hat.2 (by
    intro u hu
    obtain⟨y,_,hy⟩:=List.mem_flatMap.1 hu
    exact h1 y u hy) (by unfold maxLen;omega) hlen hbase
   unfold Oper.wp execOp
   simp only[ho,resolve,invoke,builtin,Sem.run_bind,Sem.run_pure,Result.andThen_ok,List.map_toArray,List.map_cons,List.map_nil,hv,hx,hr]
   refine h v' w' ?_ h3 h5
   unfold Own
   rw[List.length_append,List.flatMap_append]
   exact h2
def newA (w1:World) (ys:List Art) (v:Value) (u:World):Prop:=∃ g,v=.slice (some ⟨g,0,none⟩) 1 1∧w1.heap.size≤g∧Row u g (ys.flatMap cA) 67
theorem newA.mk {w1:World} (u:World) {a:Art} (h:w1.heap.size≤u.heap.size):newA w1 [a] (.slice (some ⟨u.heap.size,0,none⟩) 1 1) (u.alloc (.cells (aAs [a]) 67)):=⟨_,rfl,h,Row.new u _ 67⟩
def ApA (vw:Value) (w1:World) (l:List Art) (v:Value) (u:World):Prop :=
 Own u 0 67 33 cA v l∧(v.ownBlock=vw.ownBlock∨∃ g,v.ownBlock=some g∧w1.heap.size≤g)∧w1.heap.size≤u.heap.size∧(u.os=w1.os∧u.tape=w1.tape∧u.output=w1.output)∧∀ k,k<w1.heap.size→vw.ownBlock≠some k→u.heap[k]? = w1.heap[k]?
theorem ApA.mk {vw v2:Value} {w1 u u2:World} {l:List Art} (hB:Below w1.heap.size w1 u) (ho:Own u2 0 67 33 cA v2 l) (hg:u.grownBy u2 vw.ownBlock) (hb:v2.ownBlock=vw.ownBlock∨v2.ownBlock=some u.heap.size):ApA vw w1 l v2 u2 :=
 ⟨ho,hb.imp id fun e=>⟨_,e,hB.size⟩,Nat.le_trans hB.size hg.size,⟨hg.os.trans hB.os,hg.tape.trans hB.tape,hg.output.trans hB.output⟩,fun k hk hne=>(hg.block k (Nat.lt_of_lt_of_le hk hB.size) (fun e=>hne e.symm)).trans (hB.block k hk)⟩
theorem setCell_os (w:World) (a:Addr) (v:Value):(w.setCell a v).os=w.os∧(w.setCell a v).tape=w.tape∧(w.setCell a v).output=w.output∧(w.setCell a v).heap.size=w.heap.size:=⟨rfl,rfl,rfl,by simp[World.setCell]⟩
theorem ApA.far {vw v:Value} {w1 u:World} {l:List Art} (ha:ApA vw w1 l v u) {k:Nat} (hk:k<w1.heap.size) (hne:vw.ownBlock≠some k):v.ownBlock≠some k:=by
 rcases ha.2.1 with e|⟨g,e,hg⟩
 ·rw[e];exact hne
 ·rw[e];intro e2;injection e2 with e2;omega
theorem Rp.setWait {b:Nat} {ch:Int} {s:St} {F:List Nat} {vw vo v:Value} {q:Option Addr} {w1 u:World} {l:List Art} (h:Rp b ch s F vw vo q w1) (ha:ApA vw w1 l v u) :
  ∃ F',Rep b ch { s with wait:=l } F' (u.setCell ⟨b,1,none⟩ v)∧Kp F F' w1 (u.setCell ⟨b,1,none⟩ v):=by
 have hbw:vw.ownBlock≠some b:=fun e=>(h.wF b e).2.1 rfl
 have hbv:=ha.far h.row.lt hbw
 obtain⟨ho,hor,hsz,hos,hk⟩:=ha
 have far:∀ k,k<w1.heap.size→vw.ownBlock≠some k→v.ownBlock≠some k:=fun k h1 h2=>ApA.far ⟨ho,hor,hsz,hos,hk⟩ h1 h2
 have hset:∀ k,k≠b→(u.setCell ⟨b,1,none⟩ v).heap[k]? = u.heap[k]?:=fun k hkb=>heap_set_other u b 1 v k hkb
 obtain⟨F',hF1,hF2,hF3⟩:∃ F':List Nat,(∀ k∈F,k∈F')∧(∀ k,v.ownBlock=some k→k∈F')∧(∀ k,k<w1.heap.size→k∉F→k∉F'):=by
  cases hv:v.ownBlock with
  | none=>exact⟨F,fun _ h=>h,fun _ e=>(by cases e),fun _ _ h=>h⟩
  | some g =>
   refine⟨g :: F,fun _ h=>List.mem_cons_of_mem _ h,fun k e=>by injection e with e;subst e;simp,fun k hk1 hk2 hm=>?_⟩
   rcases List.mem_cons.1 hm with e|hm
   ·subst e
    rcases hor with e|⟨g',e,hg'⟩
    ·exact hk2 (h.wF k (by rw[← e,hv])).1
    ·rw[hv] at e;injection e with e;omega
   ·exact hk2 hm
 refine⟨F',⟨v,vo,q,⟨?_,?_,?_,h.none_,fun t ht=>?_,hF1 b h.bF,fun k e=>⟨hF2 k e,fun e2=>hbv (e2▸e),fun e2=>?_⟩,fun k e=>⟨hF1 k (h.oF k e).1,(h.oF k e).2⟩⟩⟩,⟨hos.1,hos.2.1,hos.2.2,?_,fun k hk1 hk2=>⟨hF3 k hk1 hk2,?_⟩⟩⟩
 ·exact (h.row.same (hk b h.row.lt hbw)).set 1 v
 ·exact ho.same fun k e=>hset k (fun e2=>hbv (e2▸e))
 ·refine h.oo.same fun k e=>(hset k (h.oF k e).2).trans (hk k (h.oo.lt k e).2 fun e2=>(h.wF k e2).2.2 e)
 ·obtain⟨g,e1,e2,e3,e4,e5,e6⟩:=h.some_ t ht
  exact⟨g,e1,e2,hF1 g e3,e4.same ((hset g e2).trans (hk g e4.lt e5)),far g e4.lt e5,e6⟩
 ·exact far k (h.oo.lt k e2).2 (fun e3=>(h.wF k e3).2.2 e2) e
 ·rw[(setCell_os u _ v).2.2.2];exact hsz
 ·exact (hset k (fun e=>hk2 (e▸h.bF))).trans (hk k hk1 fun e=>hk2 (h.wF k e).1)
set_option maxRecDepth 100000 in
set_option maxHeartbeats 1600000 in
theorem add15_ok (b:Nat) (ch:Int) (s:St) (F:List Nat) (x:Id) (t:ByteArray) (w:World) (h:Rep b ch s F w) (hx:x≠zI) (ht:t.toList.isEmpty=false) (hts:t.size≤65536) (hcr:crL t=false) (hh:hasS s x=false) (hl:s.wait.length<1024) :
  Calls Tryz.prog 7 #[.pointer (some ⟨b,0,none⟩),vI x,.string t] w fun e w'=>e=.returned (.int .i64 0)∧∃ F',Rep b ch { s with wait:=s.wait++[(x,t)] } F' w'∧Kp F F' w w':=by
 obtain⟨vw,vo,q,h⟩:=h
 have r1:=h.c1
 obtain⟨A,c,hvw,hc,hsl⟩:=h.ow.sl
 have hlt:=h.row.lt
 have hdx:decide (x=zI)=false:=decide_eq_false hx
 have HX:=Lib.hid (And.intro h (And.intro hh hcr))
 subst hvw
 clear hsl h hh hcr hx
 generalize hn:s.wait.length=n at *
 go_enter Tryz.func7,Tryz.ntmps7
 go_wp2_with (first
  | (go_at_call 18;refine (Tryz.strings_Contains_one t 13 _).mono ?_;rintro e w1 ⟨rfl,rfl⟩;rw[show decide (0≤Lib.indexByte t.data.toList 13)=false from HX.out.2.2])
  | (go_at_call 19;refine (has38 b ch s F x _ (Rep.keep ⟨_,_,_,HX.out.1⟩ (below_alloc w (.cells (aI x) 39))) (by omega)).mono ?_;rintro e w1 ⟨rfl,hb⟩;rw[HX.out.2.1];have rx:=okA_below (okA_n40 w x 39 w.heap.size rfl) (by simp) hb;rw[rdA_n40 w x 39 w.heap.size rfl] at rx;obtain⟨rx1,rx2⟩:=rx;have H1:=Lib.hid (And.intro hb (show w.heap.size<w1.heap.size by have:=hb.size;simp at this;omega));have HR:=Lib.hid (And.intro ((HX.out.1.keep (below_alloc w (.cells (aI x) 39))).keep hb) (show s.wait.length≤4294967296 by omega));replace r1:=cell_below r1 (Below.step (below_alloc w (.cells (aI x) 39)) hb);clear hb))
 refine AnyO.wp_any_tailI 10 (by kernel_rfl) (by kernel_rfl) (by kernel_rfl) (by kernel_rfl) (by kernel_rfl) (by kernel_rfl) (AnyO.InvA 9 8 (AnyO.pvL [some (.pointer (some ⟨b,0,none⟩)),some (.pointer (some ⟨b,0,none⟩)),some (.pointer (some ⟨b,0,none⟩)),some (.pointer (some ⟨b,1,none⟩)),some (.slice A n c),some (vI x),some (.string t),some (vA (x,t)),none,none]) (w1) (newA w1 [(x,t)]) (ApA (.slice A n c) w1 (s.wait++[(x,t)]))) (AnyO.InvA.start (by decide)) ?_ ?_
 ·intro i hi
  have hi2:i=0∨i=1∨i=2∨i=3∨i=4∨i=5∨i=6∨i=7∨i=8∨i=9:=by omega
  clear hi
  rcases hi2 with rfl|rfl|rfl|rfl|rfl|rfl|rfl|rfl|rfl|rfl
  ·refine AnyO.StepI.mk rfl [] (by kernel_rfl) ?_
   intro D vs u hI h0 hC hp ac hb K hK
   have s0:ac.tmps[0]?.getD undef=.pointer (some ⟨b,0,none⟩):=by rw[hb];kernel_rfl
   rw[if_pos (AnyO.wanted_none rfl)]
   clear hb
   go_simp
   exact hK _ _ (AnyO.InvA.pure hI (by decide) (by decide) rfl)
  ·refine AnyO.StepI.mk rfl [] (by kernel_rfl) ?_
   intro D vs u hI h0 hC hp ac hb K hK
   have s0:ac.tmps[0]?.getD undef=.pointer (some ⟨b,0,none⟩):=by rw[hb];kernel_rfl
   rw[if_pos (AnyO.wanted_none rfl)]
   clear hb
   go_simp
   exact hK _ _ (AnyO.InvA.pure hI (by decide) (by decide) rfl)
  ·refine AnyO.StepI.mk rfl [1] (by kernel_rfl) ?_
   intro D vs u hI h0 hC hp ac hb K hK
   have s38:ac.tmps[38]?.getD undef=.pointer (some ⟨b,0,none⟩):=by rw[hb];exact (show _=vs 1 by kernel_rfl).trans (show vs 1=.pointer (some ⟨b,0,none⟩) from hI.1 1 (hp 1 (by decide)))
   rw[if_pos (AnyO.wanted_none rfl)]
   clear hb
   go_simp
   exact hK _ _ (AnyO.InvA.pure hI (by decide) (by decide) rfl)
  ·refine AnyO.StepI.mk rfl [2] (by kernel_rfl) ?_
   intro D vs u hI h0 hC hp ac hb K hK
   have s39:ac.tmps[39]?.getD undef=.pointer (some ⟨b,0,none⟩):=by rw[hb];exact (show _=vs 2 by kernel_rfl).trans (show vs 2=.pointer (some ⟨b,0,none⟩) from hI.1 2 (hp 2 (by decide)))
   rw[if_pos (AnyO.wanted_none rfl)]
   clear hb
   go_simp
   exact hK _ _ (AnyO.InvA.pure hI (by decide) (by decide) rfl)
  ·refine AnyO.StepI.mk rfl [3] (by kernel_rfl) ?_
   intro D vs u hI h0 hC hp ac hb K hK
   have s40:ac.tmps[40]?.getD undef=.pointer (some ⟨b,1,none⟩):=by rw[hb];exact (show _=vs 3 by kernel_rfl).trans (show vs 3=.pointer (some ⟨b,1,none⟩) from hI.1 3 (hp 3 (by decide)))
   rw[if_pos (AnyO.wanted_none rfl)]
   have hnm:D 9=false:=by
    rcases hd:D 9 with _|_
    ·rfl
    ·have q4:=hC 9 hd 4 (by rw[show AnyO.pre _ 9=[4,8] from by kernel_rfl];decide)
     rw[h0] at q4
     cases q4
   have hB:=(hI.2.1 hnm).1
   clear hb
   have rr:=cell_below r1 hB
   go_simp
   exact hK _ _ (AnyO.InvA.pure hI (by decide) (by decide) rfl)
  ·refine AnyO.StepI.mk rfl [] (by kernel_rfl) ?_
   intro D vs u hI h0 hC hp ac hb K hK
   have s4:ac.tmps[4]?.getD undef=.pointer (some ⟨w.heap.size,0,none⟩):=by rw[hb];kernel_rfl
   rw[if_pos (AnyO.wanted_none rfl)]
   have hnm:D 9=false:=by
    rcases hd:D 9 with _|_
    ·rfl
    ·have q8:=hC 9 hd 8 (by rw[show AnyO.pre _ 9=[4,8] from by kernel_rfl];decide)
     have q7:=hC 8 q8 7 (by rw[show AnyO.pre _ 8=[7] from by kernel_rfl];decide)
     have q5:=hC 7 q7 5 (by rw[show AnyO.pre _ 7=[5,6] from by kernel_rfl];decide)
     rw[h0] at q5
     cases q5
   have hB:=(hI.2.1 hnm).1
   clear hb
   have rr:=okA_below rx1 H1.out.2 hB
   rw[rx2] at rr
   obtain⟨rr1,rr2⟩:=rr
   go_simp
   exact hK _ _ (AnyO.InvA.pure hI (by decide) (by decide) rfl)
  ·refine AnyO.StepI.mk rfl [] (by kernel_rfl) ?_
   intro D vs u hI h0 hC hp ac hb K hK
   have s2:ac.tmps[2]?.getD undef=.string t:=by rw[hb];kernel_rfl
   rw[if_pos (AnyO.wanted_none rfl)]
   clear hb
   go_simp
   exact hK _ _ (AnyO.InvA.pure hI (by decide) (by decide) rfl)
  ·refine AnyO.StepI.mk rfl [5,6] (by kernel_rfl) ?_
   intro D vs u hI h0 hC hp ac hb K hK
   have s42:ac.tmps[42]?.getD undef=vI x:=by rw[hb];exact (show _=vs 5 by kernel_rfl).trans (show vs 5=vI x from hI.1 5 (hp 5 (by decide)))
   have s43:ac.tmps[43]?.getD undef=.string t:=by rw[hb];exact (show _=vs 6 by kernel_rfl).trans (show vs 6=.string t from hI.1 6 (hp 6 (by decide)))
   rw[if_pos (AnyO.wanted_none rfl)]
   clear hb
   go_simp
   exact hK _ _ (AnyO.InvA.pure hI (by decide) (by decide) rfl)
  ·refine AnyO.StepI.mk rfl [7] (by kernel_rfl) ?_
   intro D vs u hI h0 hC hp ac hb K hK
   have s44:ac.tmps[44]?.getD undef=vA (x,t):=by rw[hb];exact (show _=vs 7 by kernel_rfl).trans (show vs 7=vA (x,t) from hI.1 7 (hp 7 (by decide)))
   rw[if_pos (AnyO.wanted_none rfl)]
   have hnm:D 9=false:=by
    rcases hd:D 9 with _|_
    ·rfl
    ·have q8:=hC 9 hd 8 (by rw[show AnyO.pre _ 9=[4,8] from by kernel_rfl];decide)
     rw[h0] at q8
     cases q8
   have hB:=(hI.2.1 hnm).1
   clear hb
   go_simp
   exact hK _ _ (AnyO.InvA.slice hI (by decide) hnm (below_alloc _ _) trivial (newA.mk u hB.size))
  ·refine AnyO.StepI.mk rfl [4,8] (by kernel_rfl) ?_
   intro D vs u hI h0 hC hp ac hb K hK
   have s41:ac.tmps[41]?.getD undef=.slice A n c:=by rw[hb];exact (show _=vs 4 by kernel_rfl).trans (show vs 4=.slice A n c from hI.1 4 (hp 4 (by decide)))
   have s45:ac.tmps[45]?.getD undef=vs 8:=by rw[hb];kernel_rfl
   rw[if_pos (AnyO.wanted_none rfl)]
   have hnm:D 9=false:=h0
   have hB:=(hI.2.1 hnm).1
   clear hb
   obtain⟨g,hg,hge,hrow⟩:=(hI.2.1 hnm).2 (hp 8 (by decide))
   rw[hg] at s45
   refine wp_append_at _ (.tmp 41) (.tmp 45) 65 rfl 0 67 33 48 cA Tryz.underlying65 row86 (by decide) cA_length cA_one (.slice A n c) s.wait (by simpa[Act.eval] using s41) (Own.keep HR.out.1.ow hB) ⟨g,0,none⟩ 1 1 [(x,t)] rfl (by simpa[Act.eval] using s45) (hrow.at_ (k:=0) (n:=33) (by rw[List.drop_zero,List.take_of_length_le];simp[cA_length])) (by have:=HR.out.2;simp;omega) (by have:=HR.out.2;simp;omega) (by omega) ?_
   intro v2 u2 ho hgr hbk
   exact hK _ _ (AnyO.InvA.app hI trivial (ApA.mk hB ho hgr hbk))
 ·intro D vs u hI hD
  have e0:vs 0=.pointer (some ⟨b,0,none⟩):=hI.1 0 (hD 0 (by decide))
  have e1:vs 1=.pointer (some ⟨b,0,none⟩):=hI.1 1 (hD 1 (by decide))
  have e2:vs 2=.pointer (some ⟨b,0,none⟩):=hI.1 2 (hD 2 (by decide))
  have e3:vs 3=.pointer (some ⟨b,1,none⟩):=hI.1 3 (hD 3 (by decide))
  have e4:vs 4=.slice A n c:=hI.1 4 (hD 4 (by decide))
  have e5:vs 5=vI x:=hI.1 5 (hD 5 (by decide))
  have e6:vs 6=.string t:=hI.1 6 (hD 6 (by decide))
  have e7:vs 7=vA (x,t):=hI.1 7 (hD 7 (by decide))
  have hA:=hI.2.2 (hD 9 (by decide))
  clear hI hD
  rw[puts_range [some 37,some 38,some 39,some 40,some 41,some 42,some 43,some 44,some 45,some 46] (by kernel_rfl)]
  simp only[putL,Nat.reduceAdd,List.drop_succ_cons,List.drop_zero,e0,e1,e2,e3,e4,e5,e6,e7]
  clear e0 e1 e2 e3 e4 e5 e6 e7
  generalize vs 9=vm at hA ⊢
  generalize vs 8=vl
  have hcell:=(World.cell?_of_block (a:=⟨b,1,none⟩) (hA.2.2.2.2 b HR.out.1.row.lt (fun e=>(HR.out.1.wF b e).2.1 rfl))).trans r1
  have hfz:=(World.frozen?_of_block (a:=⟨b,1,none⟩) (hA.2.2.2.2 b HR.out.1.row.lt (fun e=>(HR.out.1.wF b e).2.1 rfl))).trans (HR.out.1.row.fz 1)
  have hvm:∃ A2 n2 c2,vm=.slice A2 n2 c2:=by obtain⟨A2,c2,e,_⟩:=hA.1.sl;exact⟨A2,_,c2,e⟩
  have HF:=Lib.hid (Rp.setWait HR.out.1 hA)
  obtain⟨A2,n2,c2,rfl⟩:=hvm
  clear hA
  go_simp
  go_wp2
  go_ret
  obtain⟨F',h1,h2⟩:=HF.out
  exact⟨rfl,F',h1,Kp.trans (Kp.of_below (Below.step (below_alloc w (.cells (aI x) 39)) H1.out.1)) h2⟩
end Go.Proofs.YtdkjgcfhepplbaaGreatDoor.Sn
