/- The types of take and of its reference at this translation: parts, takers, questions, texts, operations; loaded, stored, boxed, built as whole values. -/
import Derived.Test.YtdkjgcfhepplbaaGreatDoorMPlA
namespace Go.Proofs.YtdkjgcfhepplbaaGreatDoor
open Go.RowKit
structure Pt where
 id:Id
 size:Int
 state:Int
 bytes:ByteArray
def cA (x:Pt):List Value:=cI x.id++[.int .i64 x.size,.int .i64 x.state,.string x.bytes]
def zA:Pt:=⟨zI,0,0,⟨#[]⟩⟩
abbrev SlV:=Option Addr×Nat×Nat
def sv (x:SlV):Value:=.slice x.1 x.2.1 x.2.2
structure Rt where
 win:Int
 opn:Bool
 act:SlV
 kept:SlV
def cT (x:Rt):List Value:=[.int .i64 x.win,.bool x.opn,.slice x.act.1 x.act.2.1 x.act.2.2,.slice x.kept.1 x.kept.2.1 x.kept.2.2]
def zT:Rt:=⟨0,false,(none,0,0),(none,0,0)⟩
abbrev Qn:=Id×Int×Int
def cQn (x:Qn):List Value:=cI x.1++[.int .i64 x.2.1,.int .i64 x.2.2]
def zQn:Qn:=(zI,0,0)
abbrev Txt:=Id×ByteArray
def cTx (x:Txt):List Value:=cI x.1++[.string x.2]
def zTx:Txt:=(zI,⟨#[]⟩)
structure Opn where
 kind:Int
 cmd:Cm
 result:Int
def cO (x:Opn):List Value:=.int .i64 x.kind :: (cC x.cmd++[.int .i64 x.result])
def zO:Opn:=⟨0,zC,0⟩
def vA (x:Pt):Value:=.agg (cA x).toArray
def aA (x:Pt):Array Value:=(cA x).toArray
theorem cA_length (x:Pt):(cA x).length=35:=by simp[cA,cI_length]
def vT (x:Rt):Value:=.agg (cT x).toArray
def aT (x:Rt):Array Value:=(cT x).toArray
theorem cT_length (x:Rt):(cT x).length=4:=by rfl
def vQn (x:Qn):Value:=.agg (cQn x).toArray
def aQn (x:Qn):Array Value:=(cQn x).toArray
theorem cQn_length (x:Qn):(cQn x).length=34:=by simp[cQn,cI_length]
def vTx (x:Txt):Value:=.agg (cTx x).toArray
def aTx (x:Txt):Array Value:=(cTx x).toArray
theorem cTx_length (x:Txt):(cTx x).length=33:=by simp[cTx,cI_length]
def vO (x:Opn):Value:=.agg (cO x).toArray
def aO (x:Opn):Array Value:=(cO x).toArray
theorem cO_length (x:Opn):(cO x).length=41:=by simp[cO,cC_length]
theorem cA_one (x:Pt):∀ u∈cA x,u.oneCell'=true:=by
 intro u hu
 simp only[cA,List.mem_cons,List.mem_append,List.not_mem_nil,or_false] at hu
 rcases hu with h|rfl|rfl|rfl
 ·exact cI_one _ u h
 all_goals rfl
theorem cT_one (x:Rt):∀ u∈cT x,u.oneCell'=true:=by
 intro u hu
 simp only[cT,List.mem_cons,List.not_mem_nil,or_false] at hu
 rcases hu with rfl|rfl|rfl|rfl <;> rfl
theorem cQn_one (x:Qn):∀ u∈cQn x,u.oneCell'=true:=by
 intro u hu
 simp only[cQn,List.mem_cons,List.mem_append,List.not_mem_nil,or_false] at hu
 rcases hu with h|rfl|rfl
 ·exact cI_one _ u h
 all_goals rfl
theorem cTx_one (x:Txt):∀ u∈cTx x,u.oneCell'=true:=by
 intro u hu
 simp only[cTx,List.mem_cons,List.mem_append,List.not_mem_nil,or_false] at hu
 rcases hu with h|rfl
 ·exact cI_one _ u h
 ·rfl
theorem cO_one (x:Opn):∀ u∈cO x,u.oneCell'=true:=by
 intro u hu
 simp only[cO,List.mem_cons,List.mem_append,List.not_mem_nil,or_false] at hu
 rcases hu with rfl|h|rfl
 ·rfl
 ·exact cC_one _ u h
 ·rfl
section
variable (w : World) (v : Value)
theorem sizePA:(Tryz.prog.info? 145).map (·.size)=some 35:=by kernel_rfl
@[go_sem ↓] theorem loadPA:Instr.loadAt 145 v=ldA 145 v:=rfl
@[go_sem] theorem run_ldPA (ad:Addr):(ldA 145 (.pointer (some ad))).run Tryz.prog w=if okA w ad 35=true then .ok (rdA w ad 35) w else (ldB 145 (.pointer (some ad))).run Tryz.prog w:=run_ldA_if w 145 ad 35 _ Tryz.underlying145 rfl sizePA
@[go_sem ↓] theorem bltPA (parts:Array (Nat×Value)):Instr.build 145 parts=blA 145 parts:=rfl
@[go_sem ↓] theorem boxPA:Instr.box 145 v=bxA 145 v:=rfl
@[go_sem] theorem run_bxPA (x:Pt):(bxA 145 (vA x)).run Tryz.prog w=.ok (.pointer (some ⟨w.heap.size,0,none⟩)) (w.alloc (.cells (aA x) 145)):=run_bxA w 145 _
@[go_sem ↓] theorem allocPA (h:Bool):Instr.alloc 145 h v=alA 145 h v:=rfl
@[go_sem ↓] theorem storePA (u:Value):Instr.storeAt 145 v u=stA 145 v u:=rfl
@[go_sem] theorem run_stPA (g:Nat) (x:Pt):(stA 145 (.pointer (some ⟨g,0,none⟩)) (vA x)).run Tryz.prog w=if rowOk w g 35=true then .ok () (w.setRow g (aA x)) else (stB 145 (.pointer (some ⟨g,0,none⟩)) (vA x)).run Tryz.prog w:=run_stA_if w 145 g _ 35 sizePA (by simp[cA_length]) (by simpa using cA_one x)
@[go_sem] theorem run_alPA:(alA 145 true (.tuple #[])).run Tryz.prog w=.ok (.pointer (some ⟨w.heap.size,0,none⟩)) (w.alloc (.cells (aA zA) 145)):=by kernel_rfl
@[go_sem] theorem blPA_0:(blA 145 #[]).run Tryz.prog w=.ok (vA zA) w:=by kernel_rfl
theorem sizeTK:(Tryz.prog.info? 104).map (·.size)=some 4:=by kernel_rfl
@[go_sem ↓] theorem loadTK:Instr.loadAt 104 v=ldA 104 v:=rfl
@[go_sem] theorem run_ldTK (ad:Addr):(ldA 104 (.pointer (some ad))).run Tryz.prog w=if okA w ad 4=true then .ok (rdA w ad 4) w else (ldB 104 (.pointer (some ad))).run Tryz.prog w:=run_ldA_if w 104 ad 4 _ Tryz.underlying104 rfl sizeTK
@[go_sem ↓] theorem bltTK (parts:Array (Nat×Value)):Instr.build 104 parts=blA 104 parts:=rfl
@[go_sem ↓] theorem boxTK:Instr.box 104 v=bxA 104 v:=rfl
@[go_sem] theorem run_bxTK (x:Rt):(bxA 104 (vT x)).run Tryz.prog w=.ok (.pointer (some ⟨w.heap.size,0,none⟩)) (w.alloc (.cells (aT x) 104)):=run_bxA w 104 _
@[go_sem ↓] theorem allocTK (h:Bool):Instr.alloc 104 h v=alA 104 h v:=rfl
@[go_sem ↓] theorem storeTK (u:Value):Instr.storeAt 104 v u=stA 104 v u:=rfl
@[go_sem] theorem run_stTK (g:Nat) (x:Rt):(stA 104 (.pointer (some ⟨g,0,none⟩)) (vT x)).run Tryz.prog w=if rowOk w g 4=true then .ok () (w.setRow g (aT x)) else (stB 104 (.pointer (some ⟨g,0,none⟩)) (vT x)).run Tryz.prog w:=run_stA_if w 104 g _ 4 sizeTK (rfl) (by simpa using cT_one x)
@[go_sem] theorem run_alTK:(alA 104 true (.tuple #[])).run Tryz.prog w=.ok (.pointer (some ⟨w.heap.size,0,none⟩)) (w.alloc (.cells (aT zT) 104)):=by kernel_rfl
@[go_sem] theorem blTK_0:(blA 104 #[]).run Tryz.prog w=.ok (vT zT) w:=by kernel_rfl
theorem sizeQN:(Tryz.prog.info? 90).map (·.size)=some 34:=by kernel_rfl
@[go_sem ↓] theorem loadQN:Instr.loadAt 90 v=ldA 90 v:=rfl
@[go_sem] theorem run_ldQN (ad:Addr):(ldA 90 (.pointer (some ad))).run Tryz.prog w=if okA w ad 34=true then .ok (rdA w ad 34) w else (ldB 90 (.pointer (some ad))).run Tryz.prog w:=run_ldA_if w 90 ad 34 _ Tryz.underlying90 rfl sizeQN
@[go_sem ↓] theorem bltQN (parts:Array (Nat×Value)):Instr.build 90 parts=blA 90 parts:=rfl
@[go_sem ↓] theorem boxQN:Instr.box 90 v=bxA 90 v:=rfl
@[go_sem] theorem run_bxQN (x:Qn):(bxA 90 (vQn x)).run Tryz.prog w=.ok (.pointer (some ⟨w.heap.size,0,none⟩)) (w.alloc (.cells (aQn x) 90)):=run_bxA w 90 _
@[go_sem ↓] theorem allocQN (h:Bool):Instr.alloc 90 h v=alA 90 h v:=rfl
@[go_sem ↓] theorem storeQN (u:Value):Instr.storeAt 90 v u=stA 90 v u:=rfl
@[go_sem] theorem run_stQN (g:Nat) (x:Qn):(stA 90 (.pointer (some ⟨g,0,none⟩)) (vQn x)).run Tryz.prog w=if rowOk w g 34=true then .ok () (w.setRow g (aQn x)) else (stB 90 (.pointer (some ⟨g,0,none⟩)) (vQn x)).run Tryz.prog w:=run_stA_if w 90 g _ 34 sizeQN (by simp[cQn_length]) (by simpa using cQn_one x)
@[go_sem] theorem run_alQN:(alA 90 true (.tuple #[])).run Tryz.prog w=.ok (.pointer (some ⟨w.heap.size,0,none⟩)) (w.alloc (.cells (aQn zQn) 90)):=by kernel_rfl
@[go_sem] theorem blQN_0:(blA 90 #[]).run Tryz.prog w=.ok (vQn zQn) w:=by kernel_rfl
theorem sizeTX:(Tryz.prog.info? 47).map (·.size)=some 33:=by kernel_rfl
@[go_sem ↓] theorem loadTX:Instr.loadAt 47 v=ldA 47 v:=rfl
@[go_sem] theorem run_ldTX (ad:Addr):(ldA 47 (.pointer (some ad))).run Tryz.prog w=if okA w ad 33=true then .ok (rdA w ad 33) w else (ldB 47 (.pointer (some ad))).run Tryz.prog w:=run_ldA_if w 47 ad 33 _ Tryz.underlying47 rfl sizeTX
@[go_sem ↓] theorem bltTX (parts:Array (Nat×Value)):Instr.build 47 parts=blA 47 parts:=rfl
@[go_sem ↓] theorem boxTX:Instr.box 47 v=bxA 47 v:=rfl
@[go_sem] theorem run_bxTX (x:Txt):(bxA 47 (vTx x)).run Tryz.prog w=.ok (.pointer (some ⟨w.heap.size,0,none⟩)) (w.alloc (.cells (aTx x) 47)):=run_bxA w 47 _
@[go_sem ↓] theorem allocTX (h:Bool):Instr.alloc 47 h v=alA 47 h v:=rfl
@[go_sem ↓] theorem storeTX (u:Value):Instr.storeAt 47 v u=stA 47 v u:=rfl
@[go_sem] theorem run_stTX (g:Nat) (x:Txt):(stA 47 (.pointer (some ⟨g,0,none⟩)) (vTx x)).run Tryz.prog w=if rowOk w g 33=true then .ok () (w.setRow g (aTx x)) else (stB 47 (.pointer (some ⟨g,0,none⟩)) (vTx x)).run Tryz.prog w:=run_stA_if w 47 g _ 33 sizeTX (by simp[cTx_length]) (by simpa using cTx_one x)
@[go_sem] theorem run_alTX:(alA 47 true (.tuple #[])).run Tryz.prog w=.ok (.pointer (some ⟨w.heap.size,0,none⟩)) (w.alloc (.cells (aTx zTx) 47)):=by kernel_rfl
@[go_sem] theorem blTX_0:(blA 47 #[]).run Tryz.prog w=.ok (vTx zTx) w:=by kernel_rfl
@[go_sem] theorem rowOk_nA (x:Pt) (ty:TypeId) (g:Nat) (hg:g=w.heap.size):rowOk (w.alloc (.cells (aA x) ty)) g 35=true:=rowOk_new w _ ty g 35 hg (by simp[aA,cA_length])
@[go_sem] theorem okA_nA (x:Pt) (ty:TypeId) (g:Nat) (hg:g=w.heap.size):okA (w.alloc (.cells (aA x) ty)) ⟨g,0,none⟩ 35=true:=okA_new w _ ty g 35 hg (cA_length x)
@[go_sem] theorem rdA_nA (x:Pt) (ty:TypeId) (g:Nat) (hg:g=w.heap.size):rdA (w.alloc (.cells (aA x) ty)) ⟨g,0,none⟩ 35=vA x:=rdA_new w _ ty g 35 hg (cA_length x)
@[go_sem] theorem rowOk_nT (x:Rt) (ty:TypeId) (g:Nat) (hg:g=w.heap.size):rowOk (w.alloc (.cells (aT x) ty)) g 4=true:=rowOk_new w _ ty g 4 hg (rfl)
@[go_sem] theorem okA_nT (x:Rt) (ty:TypeId) (g:Nat) (hg:g=w.heap.size):okA (w.alloc (.cells (aT x) ty)) ⟨g,0,none⟩ 4=true:=okA_new w _ ty g 4 hg (cT_length x)
@[go_sem] theorem rdA_nT (x:Rt) (ty:TypeId) (g:Nat) (hg:g=w.heap.size):rdA (w.alloc (.cells (aT x) ty)) ⟨g,0,none⟩ 4=vT x:=rdA_new w _ ty g 4 hg (cT_length x)
@[go_sem] theorem rowOk_nQn (x:Qn) (ty:TypeId) (g:Nat) (hg:g=w.heap.size):rowOk (w.alloc (.cells (aQn x) ty)) g 34=true:=rowOk_new w _ ty g 34 hg (by simp[aQn,cQn_length])
@[go_sem] theorem okA_nQn (x:Qn) (ty:TypeId) (g:Nat) (hg:g=w.heap.size):okA (w.alloc (.cells (aQn x) ty)) ⟨g,0,none⟩ 34=true:=okA_new w _ ty g 34 hg (cQn_length x)
@[go_sem] theorem rdA_nQn (x:Qn) (ty:TypeId) (g:Nat) (hg:g=w.heap.size):rdA (w.alloc (.cells (aQn x) ty)) ⟨g,0,none⟩ 34=vQn x:=rdA_new w _ ty g 34 hg (cQn_length x)
@[go_sem] theorem rowOk_nTx (x:Txt) (ty:TypeId) (g:Nat) (hg:g=w.heap.size):rowOk (w.alloc (.cells (aTx x) ty)) g 33=true:=rowOk_new w _ ty g 33 hg (by simp[aTx,cTx_length])
@[go_sem] theorem okA_nTx (x:Txt) (ty:TypeId) (g:Nat) (hg:g=w.heap.size):okA (w.alloc (.cells (aTx x) ty)) ⟨g,0,none⟩ 33=true:=okA_new w _ ty g 33 hg (cTx_length x)
@[go_sem] theorem rdA_nTx (x:Txt) (ty:TypeId) (g:Nat) (hg:g=w.heap.size):rdA (w.alloc (.cells (aTx x) ty)) ⟨g,0,none⟩ 33=vTx x:=rdA_new w _ ty g 33 hg (cTx_length x)
@[go_sem] theorem rowOk_nO (x:Opn) (ty:TypeId) (g:Nat) (hg:g=w.heap.size):rowOk (w.alloc (.cells (aO x) ty)) g 41=true:=rowOk_new w _ ty g 41 hg (by simp[aO,cO_length])
@[go_sem] theorem okA_nO (x:Opn) (ty:TypeId) (g:Nat) (hg:g=w.heap.size):okA (w.alloc (.cells (aO x) ty)) ⟨g,0,none⟩ 41=true:=okA_new w _ ty g 41 hg (cO_length x)
@[go_sem] theorem rdA_nO (x:Opn) (ty:TypeId) (g:Nat) (hg:g=w.heap.size):rdA (w.alloc (.cells (aO x) ty)) ⟨g,0,none⟩ 41=vO x:=rdA_new w _ ty g 41 hg (cO_length x)
def aAs (xs:List Pt):Array Value:=(xs.flatMap cA).toArray
theorem underPAs:Tryz.prog.underlying 102=some (.slice 145):=Tryz.underlying102
theorem rowPA:(Tryz.prog.info? 145).map (fun i=>(i.zero.map (·.cells.size),i.size,i.bytes))=some (some 35,35,64):=by kernel_rfl
@[go_sem ↓] theorem bsPA (n:Nat) (parts:Array (Nat×Value)):Instr.buildSlice 102 n parts=bsA 102 n parts:=rfl
theorem run_bsPA (xs:List Pt) (h:xs.length≤100):(bsA 102 xs.length (xs.zipIdx.map fun x=>(x.2,vA x.1)).toArray).run Tryz.prog w=.ok (.slice (some ⟨w.heap.size,0,none⟩) xs.length xs.length) (w.alloc (.cells (aAs xs) 145)):=by
 obtain⟨i,z,h1,h2,h3⟩:=info_of rowPA
 exact run_bsA w vA 102 145 i z 35 Tryz.underlying102 h1 h2 h3 (fun x=>cA_length x) xs (by omega)
@[go_sem] theorem run_bsPA_0:(bsA 102 0 #[]).run Tryz.prog w=.ok (.slice (some ⟨w.heap.size,0,none⟩) 0 0) (w.alloc (.cells (aAs []) 145)):=run_bsPA w [] (by simp)
@[go_sem] theorem run_bsPA_1 (x:Pt):(bsA 102 1 #[(0,vA x)]).run Tryz.prog w=.ok (.slice (some ⟨w.heap.size,0,none⟩) 1 1) (w.alloc (.cells (aAs [x]) 145)):=run_bsPA w [x] (by simp)
def aQns (xs:List Qn):Array Value:=(xs.flatMap cQn).toArray
theorem rowQN:(Tryz.prog.info? 90).map (fun i=>(i.zero.map (·.cells.size),i.size,i.bytes))=some (some 34,34,48):=by kernel_rfl
@[go_sem ↓] theorem bsQN (n:Nat) (parts:Array (Nat×Value)):Instr.buildSlice 86 n parts=bsA 86 n parts:=rfl
theorem run_bsQN (xs:List Qn) (h:xs.length≤100):(bsA 86 xs.length (xs.zipIdx.map fun x=>(x.2,vQn x.1)).toArray).run Tryz.prog w=.ok (.slice (some ⟨w.heap.size,0,none⟩) xs.length xs.length) (w.alloc (.cells (aQns xs) 90)):=by
 obtain⟨i,z,h1,h2,h3⟩:=info_of rowQN
 exact run_bsA w vQn 86 90 i z 34 Tryz.underlying86 h1 h2 h3 (fun x=>cQn_length x) xs (by omega)
@[go_sem] theorem run_bsQN_1 (x:Qn):(bsA 86 1 #[(0,vQn x)]).run Tryz.prog w=.ok (.slice (some ⟨w.heap.size,0,none⟩) 1 1) (w.alloc (.cells (aQns [x]) 90)):=run_bsQN w [x] (by simp)
def aTxs (xs:List Txt):Array Value:=(xs.flatMap cTx).toArray
theorem rowTX:(Tryz.prog.info? 47).map (fun i=>(i.zero.map (·.cells.size),i.size,i.bytes))=some (some 33,33,48):=by kernel_rfl
@[go_sem ↓] theorem bsTX (n:Nat) (parts:Array (Nat×Value)):Instr.buildSlice 34 n parts=bsA 34 n parts:=rfl
theorem run_bsTX (xs:List Txt) (h:xs.length≤100):(bsA 34 xs.length (xs.zipIdx.map fun x=>(x.2,vTx x.1)).toArray).run Tryz.prog w=.ok (.slice (some ⟨w.heap.size,0,none⟩) xs.length xs.length) (w.alloc (.cells (aTxs xs) 47)):=by
 obtain⟨i,z,h1,h2,h3⟩:=info_of rowTX
 exact run_bsA w vTx 34 47 i z 33 Tryz.underlying34 h1 h2 h3 (fun x=>cTx_length x) xs (by omega)
@[go_sem] theorem run_bsTX_1 (x:Txt):(bsA 34 1 #[(0,vTx x)]).run Tryz.prog w=.ok (.slice (some ⟨w.heap.size,0,none⟩) 1 1) (w.alloc (.cells (aTxs [x]) 47)):=run_bsTX w [x] (by simp)
@[go_sem] theorem blPA_new (n m:Int) (x:Id):(blA 145 #[(0,vI x),(1,.int .i64 n),(2,.int .i64 m)]).run Tryz.prog w=.ok (vA ⟨x,n,m,⟨#[]⟩⟩) w:=by
 revert x
 refine Id.cases fun a0 a1 a2 a3 a4 a5 a6 a7 a8 a9 a10 a11 a12 a13 a14 a15 a16 a17 a18 a19 a20 a21 a22 a23 a24 a25 a26 a27 a28 a29 a30 a31=>?_
 kernel_rfl
@[go_sem] theorem blQN (n m:Int) (x:Id):(blA 90 #[(0,vI x),(1,.int .i64 n),(2,.int .i64 m)]).run Tryz.prog w=.ok (vQn (x,n,m)) w:=by
 revert x
 refine Id.cases fun a0 a1 a2 a3 a4 a5 a6 a7 a8 a9 a10 a11 a12 a13 a14 a15 a16 a17 a18 a19 a20 a21 a22 a23 a24 a25 a26 a27 a28 a29 a30 a31=>?_
 kernel_rfl
@[go_sem] theorem blTX (s:ByteArray) (x:Id):(blA 47 #[(0,vI x),(1,.string s)]).run Tryz.prog w=.ok (vTx (x,s)) w:=by
 revert x
 refine Id.cases fun a0 a1 a2 a3 a4 a5 a6 a7 a8 a9 a10 a11 a12 a13 a14 a15 a16 a17 a18 a19 a20 a21 a22 a23 a24 a25 a26 a27 a28 a29 a30 a31=>?_
 kernel_rfl
@[go_sem] theorem blTK_1 (n:Int):(blA 104 #[(0,.int .i64 n)]).run Tryz.prog w=.ok (vT ⟨n,false,(none,0,0),(none,0,0)⟩) w:=by kernel_rfl
@[go_sem] theorem blCM_id (n:Int) (x:Id):(blA 74 #[(0,.int .i64 n),(2,vI x)]).run Tryz.prog w=.ok (vC ⟨n,⟨#[]⟩,x,0,0,0,0,⟨#[]⟩⟩) w:=by
 revert x
 refine Id.cases fun a0 a1 a2 a3 a4 a5 a6 a7 a8 a9 a10 a11 a12 a13 a14 a15 a16 a17 a18 a19 a20 a21 a22 a23 a24 a25 a26 a27 a28 a29 a30 a31=>?_
 kernel_rfl
@[go_sem] theorem blCM_code (n m:Int) (x:Id):(blA 74 #[(0,.int .i64 n),(2,vI x),(6,.int .i64 m)]).run Tryz.prog w=.ok (vC ⟨n,⟨#[]⟩,x,0,0,0,m,⟨#[]⟩⟩) w:=by
 revert x
 refine Id.cases fun a0 a1 a2 a3 a4 a5 a6 a7 a8 a9 a10 a11 a12 a13 a14 a15 a16 a17 a18 a19 a20 a21 a22 a23 a24 a25 a26 a27 a28 a29 a30 a31=>?_
 kernel_rfl
@[go_sem] theorem blCM_size (n m:Int) (x:Id):(blA 74 #[(0,.int .i64 n),(2,vI x),(3,.int .i64 m)]).run Tryz.prog w=.ok (vC ⟨n,⟨#[]⟩,x,m,0,0,0,⟨#[]⟩⟩) w:=by
 revert x
 refine Id.cases fun a0 a1 a2 a3 a4 a5 a6 a7 a8 a9 a10 a11 a12 a13 a14 a15 a16 a17 a18 a19 a20 a21 a22 a23 a24 a25 a26 a27 a28 a29 a30 a31=>?_
 kernel_rfl
@[go_sem] theorem blCM_from (n m:Int) (x:Id):(blA 74 #[(0,.int .i64 n),(2,vI x),(4,.int .i64 m)]).run Tryz.prog w=.ok (vC ⟨n,⟨#[]⟩,x,0,m,0,0,⟨#[]⟩⟩) w:=by
 revert x
 refine Id.cases fun a0 a1 a2 a3 a4 a5 a6 a7 a8 a9 a10 a11 a12 a13 a14 a15 a16 a17 a18 a19 a20 a21 a22 a23 a24 a25 a26 a27 a28 a29 a30 a31=>?_
 kernel_rfl
@[go_sem] theorem blCM_part (n m:Int) (s:ByteArray) (x:Id):(blA 74 #[(0,.int .i64 n),(2,vI x),(4,.int .i64 m),(7,.string s)]).run Tryz.prog w=.ok (vC ⟨n,⟨#[]⟩,x,0,m,0,0,s⟩) w:=by
 revert x
 refine Id.cases fun a0 a1 a2 a3 a4 a5 a6 a7 a8 a9 a10 a11 a12 a13 a14 a15 a16 a17 a18 a19 a20 a21 a22 a23 a24 a25 a26 a27 a28 a29 a30 a31=>?_
 kernel_rfl
theorem aA_hi (x:Pt) (k:Nat):(aA x)[32+k]? = [Value.int .i64 x.size,.int .i64 x.state,.string x.bytes][k]?:=by
 unfold aA cA
 rw[List.getElem?_toArray,List.getElem?_append_right (by rw[cI_length];omega),cI_length,show 32+k - 32=k by omega]
@[go_sem] theorem aA_32 (x:Pt):(aA x)[32]? = some (.int .i64 x.size):=aA_hi x 0
@[go_sem] theorem aA_33 (x:Pt):(aA x)[33]? = some (.int .i64 x.state):=aA_hi x 1
@[go_sem] theorem aA_34 (x:Pt):(aA x)[34]? = some (.string x.bytes):=aA_hi x 2
@[go_sem] theorem aT_0 (x:Rt):(aT x)[0]? = some (.int .i64 x.win):=rfl
@[go_sem] theorem aT_1 (x:Rt):(aT x)[1]? = some (.bool x.opn):=rfl
@[go_sem] theorem aT_2 (x:Rt):(aT x)[2]? = some (.slice x.act.1 x.act.2.1 x.act.2.2):=rfl
@[go_sem] theorem aT_3 (x:Rt):(aT x)[3]? = some (.slice x.kept.1 x.kept.2.1 x.kept.2.2):=rfl
theorem cA_id (x:Pt):((cA x).drop 0).take 32=cI x.id:=by
 unfold cA
 rw[List.drop_zero,List.take_append_of_le_length (by rw[cI_length];omega),List.take_of_length_le (by rw[cI_length];omega)]
@[go_sem] theorem okA_Aid (x:Pt) (ty:TypeId) (g:Nat) (hg:g=w.heap.size):okA (w.alloc (.cells (aA x) ty)) ⟨g,0,none⟩ 32=true:=by
 have h:=(at_off (w:=w) (ty:=ty) hg (cA_id x)).ok
 rwa[cI_length] at h
@[go_sem] theorem rdA_Aid (x:Pt) (ty:TypeId) (g:Nat) (hg:g=w.heap.size):rdA (w.alloc (.cells (aA x) ty)) ⟨g,0,none⟩ 32=vI x.id:=by
 have h:=(at_off (w:=w) (ty:=ty) hg (cA_id x)).rd
 rwa[cI_length] at h
end
theorem cA_at {x:Pt} {k:Nat} {v:Value} (h:(aA x)[k]? = some v):(cA x)[k]? = some v:=by
 unfold aA at h
 rwa[List.getElem?_toArray] at h
theorem cQn_hi (x:Qn) (k:Nat):(cQn x)[32+k]? = [Value.int .i64 x.2.1,.int .i64 x.2.2][k]?:=by
 unfold cQn
 rw[List.getElem?_append_right (by rw[cI_length];omega),cI_length,show 32+k - 32=k by omega]
theorem Sl.pt {w:World} {A:Option Addr} {xs:List Pt} (h:Sl w cA A xs) {k:Nat} (hk:k<xs.length):∃ ad,A=some ad∧okA w (ad.add (k * 35)) 35=true∧rdA w (ad.add (k * 35)) 35=vA xs[k]∧At w (ad.add (k * 35)) (cA xs[k]):=by
 obtain⟨ad,rfl,hat⟩:=Sl.at_ cA_length h hk
 have h1:=hat.ok
 have h2:=hat.rd
 rw[cA_length] at h1 h2
 exact⟨ad,rfl,h1,h2,hat⟩
theorem At.id {w:World} {ad:Addr} {x:Pt} (h:At w ad (cA x)):okA w ad 32=true∧rdA w ad 32=vI x.id:=by
 have h0:At w ad (cI x.id):=⟨h.1,fun j u hj=>h.2 j u (by
  have hl:=(List.getElem?_eq_some_iff.1 hj).1
  unfold cA
  rw[List.getElem?_append_left hl]
  exact hj)⟩
 have h1:=h0.ok
 have h2:=h0.rd
 rw[cI_length] at h1 h2
 exact⟨h1,h2⟩
theorem At.f32 {w:World} {ad:Addr} {x:Pt} (h:At w ad (cA x)):w.cell? ⟨ad.block,ad.off+32,none⟩=some (.int .i64 x.size):=h.2 32 _ (cA_at (aA_32 x))
theorem At.f33 {w:World} {ad:Addr} {x:Pt} (h:At w ad (cA x)):w.cell? ⟨ad.block,ad.off+33,none⟩=some (.int .i64 x.state):=h.2 33 _ (cA_at (aA_33 x))
theorem At.f34 {w:World} {ad:Addr} {x:Pt} (h:At w ad (cA x)):w.cell? ⟨ad.block,ad.off+34,none⟩=some (.string x.bytes):=h.2 34 _ (cA_at (aA_34 x))
end Go.Proofs.YtdkjgcfhepplbaaGreatDoor
