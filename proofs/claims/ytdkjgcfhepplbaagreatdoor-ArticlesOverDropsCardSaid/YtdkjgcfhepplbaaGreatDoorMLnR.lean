/- The types of line and of the session at this translation: descriptions, windows, packets, lines, sessions; loaded, stored, boxed, built as whole values. -/
import Derived.Test.YtdkjgcfhepplbaaGreatDoorMTkB
namespace Go.Proofs.YtdkjgcfhepplbaaGreatDoor
open Go.RowKit
structure Cf where
 rate:Int
 delay:Int
 period:Int
 win:SlV
def cCf (x:Cf):List Value:=[.int .i64 x.rate,.int .i64 x.delay,.int .i64 x.period,sv x.win]
def zCf:Cf:=⟨0,0,0,(none,0,0)⟩
abbrev Wi:=Int×Int
def cWi (x:Wi):List Value:=[.int .i64 x.1,.int .i64 x.2]
def zWi:Wi:=(0,0)
abbrev Pk:=SlV×Int
def cPk (x:Pk):List Value:=[sv x.1,.int .i64 x.2]
def zPk:Pk:=((none,0,0),0)
structure Lc where
 cf:Cf
 now:Int
 up:Bool
 sess:Int
def zLc:Lc:=⟨zCf,0,false,0⟩
def zSl:Nat→SlV:=fun _=>(none,0,0)
abbrev Li:=Lc×(Nat→SlV)
def cLi (x:Li):List Value:=cCf x.1.cf++[.int .i64 x.1.now,.bool x.1.up,.int .i64 x.1.sess]++[sv (x.2 0),sv (x.2 1),sv (x.2 2),sv (x.2 3),sv (x.2 4),sv (x.2 5)]
def zLi:Li:=(zLc,zSl)
structure Ss where
 line:Option Addr
 num:Int
 snd:Option Addr
 tkr:Option Addr
 left:Option Addr
 right:Option Addr
 got:SlV
 brk:Bool
def cSs (x:Ss):List Value:=[.pointer x.line,.int .i64 x.num,.pointer x.snd,.pointer x.tkr,.pointer x.left,.pointer x.right,sv x.got,.bool x.brk]
def zSs:Ss:=⟨none,0,none,none,none,none,(none,0,0),false⟩
def vCf (x:Cf):Value:=.agg (cCf x).toArray
def aCf (x:Cf):Array Value:=(cCf x).toArray
theorem cCf_length (x:Cf):(cCf x).length=4:=rfl
theorem cCf_one (x:Cf):∀ u∈cCf x,u.oneCell'=true:=by
 intro u hu
 simp only[cCf,List.cons_append,List.nil_append,List.mem_cons,List.not_mem_nil,or_false] at hu
 rcases hu with rfl|rfl|rfl|rfl <;> rfl
def vWi (x:Wi):Value:=.agg (cWi x).toArray
def aWi (x:Wi):Array Value:=(cWi x).toArray
theorem cWi_length (x:Wi):(cWi x).length=2:=rfl
theorem cWi_one (x:Wi):∀ u∈cWi x,u.oneCell'=true:=by
 intro u hu
 simp only[cWi,List.cons_append,List.nil_append,List.mem_cons,List.not_mem_nil,or_false] at hu
 rcases hu with rfl|rfl <;> rfl
def vPk (x:Pk):Value:=.agg (cPk x).toArray
def aPk (x:Pk):Array Value:=(cPk x).toArray
theorem cPk_length (x:Pk):(cPk x).length=2:=rfl
theorem cPk_one (x:Pk):∀ u∈cPk x,u.oneCell'=true:=by
 intro u hu
 simp only[cPk,List.cons_append,List.nil_append,List.mem_cons,List.not_mem_nil,or_false] at hu
 rcases hu with rfl|rfl <;> rfl
def vLi (x:Li):Value:=.agg (cLi x).toArray
def aLi (x:Li):Array Value:=(cLi x).toArray
theorem cLi_length (x:Li):(cLi x).length=13:=rfl
theorem cLi_one (x:Li):∀ u∈cLi x,u.oneCell'=true:=by
 intro u hu
 simp only[cLi,cCf,List.cons_append,List.nil_append,List.mem_cons,List.not_mem_nil,or_false] at hu
 rcases hu with rfl|rfl|rfl|rfl|rfl|rfl|rfl|rfl|rfl|rfl|rfl|rfl|rfl <;> rfl
def vSs (x:Ss):Value:=.agg (cSs x).toArray
def aSs (x:Ss):Array Value:=(cSs x).toArray
theorem cSs_length (x:Ss):(cSs x).length=8:=rfl
theorem cSs_one (x:Ss):∀ u∈cSs x,u.oneCell'=true:=by
 intro u hu
 simp only[cSs,List.cons_append,List.nil_append,List.mem_cons,List.not_mem_nil,or_false] at hu
 rcases hu with rfl|rfl|rfl|rfl|rfl|rfl|rfl|rfl <;> rfl
section
variable (w : World) (v : Value)
theorem sizeCF:(Tryz.prog.info? 57).map (·.size)=some 4:=by kernel_rfl
@[go_sem ↓] theorem loadCF:Instr.loadAt 57 v=ldA 57 v:=rfl
@[go_sem] theorem run_ldCF (ad:Addr):(ldA 57 (.pointer (some ad))).run Tryz.prog w=if okA w ad 4=true then .ok (rdA w ad 4) w else (ldB 57 (.pointer (some ad))).run Tryz.prog w:=run_ldA_if w 57 ad 4 _ Tryz.underlying57 rfl sizeCF
@[go_sem ↓] theorem bltCF (parts:Array (Nat×Value)):Instr.build 57 parts=blA 57 parts:=rfl
@[go_sem ↓] theorem boxCF:Instr.box 57 v=bxA 57 v:=rfl
@[go_sem] theorem run_bxCF (x:Cf):(bxA 57 (vCf x)).run Tryz.prog w=.ok (.pointer (some ⟨w.heap.size,0,none⟩)) (w.alloc (.cells (aCf x) 57)):=run_bxA w 57 _
@[go_sem ↓] theorem allocCF (h:Bool):Instr.alloc 57 h v=alA 57 h v:=rfl
@[go_sem ↓] theorem storeCF (u:Value):Instr.storeAt 57 v u=stA 57 v u:=rfl
@[go_sem] theorem run_stCF (g:Nat) (x:Cf):(stA 57 (.pointer (some ⟨g,0,none⟩)) (vCf x)).run Tryz.prog w=if rowOk w g 4=true then .ok () (w.setRow g (aCf x)) else (stB 57 (.pointer (some ⟨g,0,none⟩)) (vCf x)).run Tryz.prog w:=run_stA_if w 57 g _ 4 sizeCF (rfl) (by simpa using cCf_one x)
@[go_sem] theorem run_alCF:(alA 57 true (.tuple #[])).run Tryz.prog w=.ok (.pointer (some ⟨w.heap.size,0,none⟩)) (w.alloc (.cells (aCf zCf) 57)):=by kernel_rfl
@[go_sem] theorem blCF_0:(blA 57 #[]).run Tryz.prog w=.ok (vCf zCf) w:=by kernel_rfl
theorem sizeWI:(Tryz.prog.info? 54).map (·.size)=some 2:=by kernel_rfl
@[go_sem ↓] theorem loadWI:Instr.loadAt 54 v=ldA 54 v:=rfl
@[go_sem] theorem run_ldWI (ad:Addr):(ldA 54 (.pointer (some ad))).run Tryz.prog w=if okA w ad 2=true then .ok (rdA w ad 2) w else (ldB 54 (.pointer (some ad))).run Tryz.prog w:=run_ldA_if w 54 ad 2 _ Tryz.underlying54 rfl sizeWI
@[go_sem ↓] theorem bltWI (parts:Array (Nat×Value)):Instr.build 54 parts=blA 54 parts:=rfl
@[go_sem ↓] theorem boxWI:Instr.box 54 v=bxA 54 v:=rfl
@[go_sem] theorem run_bxWI (x:Wi):(bxA 54 (vWi x)).run Tryz.prog w=.ok (.pointer (some ⟨w.heap.size,0,none⟩)) (w.alloc (.cells (aWi x) 54)):=run_bxA w 54 _
@[go_sem ↓] theorem allocWI (h:Bool):Instr.alloc 54 h v=alA 54 h v:=rfl
@[go_sem ↓] theorem storeWI (u:Value):Instr.storeAt 54 v u=stA 54 v u:=rfl
@[go_sem] theorem run_stWI (g:Nat) (x:Wi):(stA 54 (.pointer (some ⟨g,0,none⟩)) (vWi x)).run Tryz.prog w=if rowOk w g 2=true then .ok () (w.setRow g (aWi x)) else (stB 54 (.pointer (some ⟨g,0,none⟩)) (vWi x)).run Tryz.prog w:=run_stA_if w 54 g _ 2 sizeWI (rfl) (by simpa using cWi_one x)
@[go_sem] theorem run_alWI:(alA 54 true (.tuple #[])).run Tryz.prog w=.ok (.pointer (some ⟨w.heap.size,0,none⟩)) (w.alloc (.cells (aWi zWi) 54)):=by kernel_rfl
@[go_sem] theorem blWI_0:(blA 54 #[]).run Tryz.prog w=.ok (vWi zWi) w:=by kernel_rfl
theorem sizePK:(Tryz.prog.info? 162).map (·.size)=some 2:=by kernel_rfl
@[go_sem ↓] theorem loadPK:Instr.loadAt 162 v=ldA 162 v:=rfl
@[go_sem] theorem run_ldPK (ad:Addr):(ldA 162 (.pointer (some ad))).run Tryz.prog w=if okA w ad 2=true then .ok (rdA w ad 2) w else (ldB 162 (.pointer (some ad))).run Tryz.prog w:=run_ldA_if w 162 ad 2 _ Tryz.underlying162 rfl sizePK
@[go_sem ↓] theorem bltPK (parts:Array (Nat×Value)):Instr.build 162 parts=blA 162 parts:=rfl
@[go_sem ↓] theorem boxPK:Instr.box 162 v=bxA 162 v:=rfl
@[go_sem] theorem run_bxPK (x:Pk):(bxA 162 (vPk x)).run Tryz.prog w=.ok (.pointer (some ⟨w.heap.size,0,none⟩)) (w.alloc (.cells (aPk x) 162)):=run_bxA w 162 _
@[go_sem ↓] theorem allocPK (h:Bool):Instr.alloc 162 h v=alA 162 h v:=rfl
@[go_sem ↓] theorem storePK (u:Value):Instr.storeAt 162 v u=stA 162 v u:=rfl
@[go_sem] theorem run_stPK (g:Nat) (x:Pk):(stA 162 (.pointer (some ⟨g,0,none⟩)) (vPk x)).run Tryz.prog w=if rowOk w g 2=true then .ok () (w.setRow g (aPk x)) else (stB 162 (.pointer (some ⟨g,0,none⟩)) (vPk x)).run Tryz.prog w:=run_stA_if w 162 g _ 2 sizePK (rfl) (by simpa using cPk_one x)
@[go_sem] theorem run_alPK:(alA 162 true (.tuple #[])).run Tryz.prog w=.ok (.pointer (some ⟨w.heap.size,0,none⟩)) (w.alloc (.cells (aPk zPk) 162)):=by kernel_rfl
@[go_sem] theorem blPK_0:(blA 162 #[]).run Tryz.prog w=.ok (vPk zPk) w:=by kernel_rfl
theorem sizeLI:(Tryz.prog.info? 100).map (·.size)=some 13:=by kernel_rfl
@[go_sem ↓] theorem loadLI:Instr.loadAt 100 v=ldA 100 v:=rfl
@[go_sem] theorem run_ldLI (ad:Addr):(ldA 100 (.pointer (some ad))).run Tryz.prog w=if okA w ad 13=true then .ok (rdA w ad 13) w else (ldB 100 (.pointer (some ad))).run Tryz.prog w:=run_ldA_if w 100 ad 13 _ Tryz.underlying100 rfl sizeLI
@[go_sem ↓] theorem bltLI (parts:Array (Nat×Value)):Instr.build 100 parts=blA 100 parts:=rfl
@[go_sem ↓] theorem boxLI:Instr.box 100 v=bxA 100 v:=rfl
@[go_sem] theorem run_bxLI (x:Li):(bxA 100 (vLi x)).run Tryz.prog w=.ok (.pointer (some ⟨w.heap.size,0,none⟩)) (w.alloc (.cells (aLi x) 100)):=run_bxA w 100 _
@[go_sem ↓] theorem allocLI (h:Bool):Instr.alloc 100 h v=alA 100 h v:=rfl
@[go_sem ↓] theorem storeLI (u:Value):Instr.storeAt 100 v u=stA 100 v u:=rfl
@[go_sem] theorem run_stLI (g:Nat) (x:Li):(stA 100 (.pointer (some ⟨g,0,none⟩)) (vLi x)).run Tryz.prog w=if rowOk w g 13=true then .ok () (w.setRow g (aLi x)) else (stB 100 (.pointer (some ⟨g,0,none⟩)) (vLi x)).run Tryz.prog w:=run_stA_if w 100 g _ 13 sizeLI (rfl) (by simpa using cLi_one x)
@[go_sem] theorem run_alLI:(alA 100 true (.tuple #[])).run Tryz.prog w=.ok (.pointer (some ⟨w.heap.size,0,none⟩)) (w.alloc (.cells (aLi zLi) 100)):=by kernel_rfl
@[go_sem] theorem blLI_0:(blA 100 #[]).run Tryz.prog w=.ok (vLi zLi) w:=by kernel_rfl
theorem sizeSS:(Tryz.prog.info? 36).map (·.size)=some 8:=by kernel_rfl
@[go_sem ↓] theorem loadSS:Instr.loadAt 36 v=ldA 36 v:=rfl
@[go_sem] theorem run_ldSS (ad:Addr):(ldA 36 (.pointer (some ad))).run Tryz.prog w=if okA w ad 8=true then .ok (rdA w ad 8) w else (ldB 36 (.pointer (some ad))).run Tryz.prog w:=run_ldA_if w 36 ad 8 _ Tryz.underlying36 rfl sizeSS
@[go_sem ↓] theorem bltSS (parts:Array (Nat×Value)):Instr.build 36 parts=blA 36 parts:=rfl
@[go_sem ↓] theorem boxSS:Instr.box 36 v=bxA 36 v:=rfl
@[go_sem] theorem run_bxSS (x:Ss):(bxA 36 (vSs x)).run Tryz.prog w=.ok (.pointer (some ⟨w.heap.size,0,none⟩)) (w.alloc (.cells (aSs x) 36)):=run_bxA w 36 _
@[go_sem ↓] theorem allocSS (h:Bool):Instr.alloc 36 h v=alA 36 h v:=rfl
@[go_sem ↓] theorem storeSS (u:Value):Instr.storeAt 36 v u=stA 36 v u:=rfl
@[go_sem] theorem run_stSS (g:Nat) (x:Ss):(stA 36 (.pointer (some ⟨g,0,none⟩)) (vSs x)).run Tryz.prog w=if rowOk w g 8=true then .ok () (w.setRow g (aSs x)) else (stB 36 (.pointer (some ⟨g,0,none⟩)) (vSs x)).run Tryz.prog w:=run_stA_if w 36 g _ 8 sizeSS (rfl) (by simpa using cSs_one x)
@[go_sem] theorem run_alSS:(alA 36 true (.tuple #[])).run Tryz.prog w=.ok (.pointer (some ⟨w.heap.size,0,none⟩)) (w.alloc (.cells (aSs zSs) 36)):=by kernel_rfl
@[go_sem] theorem blSS_0:(blA 36 #[]).run Tryz.prog w=.ok (vSs zSs) w:=by kernel_rfl
@[go_sem] theorem rowOk_nCf (x:Cf) (ty:TypeId) (g:Nat) (hg:g=w.heap.size):rowOk (w.alloc (.cells (aCf x) ty)) g 4=true:=rowOk_new w _ ty g 4 hg rfl
@[go_sem] theorem okA_nCf (x:Cf) (ty:TypeId) (g:Nat) (hg:g=w.heap.size):okA (w.alloc (.cells (aCf x) ty)) ⟨g,0,none⟩ 4=true:=okA_new w _ ty g 4 hg (cCf_length x)
@[go_sem] theorem rdA_nCf (x:Cf) (ty:TypeId) (g:Nat) (hg:g=w.heap.size):rdA (w.alloc (.cells (aCf x) ty)) ⟨g,0,none⟩ 4=vCf x:=rdA_new w _ ty g 4 hg (cCf_length x)
@[go_sem] theorem rowOk_nWi (x:Wi) (ty:TypeId) (g:Nat) (hg:g=w.heap.size):rowOk (w.alloc (.cells (aWi x) ty)) g 2=true:=rowOk_new w _ ty g 2 hg rfl
@[go_sem] theorem okA_nWi (x:Wi) (ty:TypeId) (g:Nat) (hg:g=w.heap.size):okA (w.alloc (.cells (aWi x) ty)) ⟨g,0,none⟩ 2=true:=okA_new w _ ty g 2 hg (cWi_length x)
@[go_sem] theorem rdA_nWi (x:Wi) (ty:TypeId) (g:Nat) (hg:g=w.heap.size):rdA (w.alloc (.cells (aWi x) ty)) ⟨g,0,none⟩ 2=vWi x:=rdA_new w _ ty g 2 hg (cWi_length x)
@[go_sem] theorem rowOk_nPk (x:Pk) (ty:TypeId) (g:Nat) (hg:g=w.heap.size):rowOk (w.alloc (.cells (aPk x) ty)) g 2=true:=rowOk_new w _ ty g 2 hg rfl
@[go_sem] theorem okA_nPk (x:Pk) (ty:TypeId) (g:Nat) (hg:g=w.heap.size):okA (w.alloc (.cells (aPk x) ty)) ⟨g,0,none⟩ 2=true:=okA_new w _ ty g 2 hg (cPk_length x)
@[go_sem] theorem rdA_nPk (x:Pk) (ty:TypeId) (g:Nat) (hg:g=w.heap.size):rdA (w.alloc (.cells (aPk x) ty)) ⟨g,0,none⟩ 2=vPk x:=rdA_new w _ ty g 2 hg (cPk_length x)
@[go_sem] theorem rowOk_nLi (x:Li) (ty:TypeId) (g:Nat) (hg:g=w.heap.size):rowOk (w.alloc (.cells (aLi x) ty)) g 13=true:=rowOk_new w _ ty g 13 hg rfl
@[go_sem] theorem okA_nLi (x:Li) (ty:TypeId) (g:Nat) (hg:g=w.heap.size):okA (w.alloc (.cells (aLi x) ty)) ⟨g,0,none⟩ 13=true:=okA_new w _ ty g 13 hg (cLi_length x)
@[go_sem] theorem rdA_nLi (x:Li) (ty:TypeId) (g:Nat) (hg:g=w.heap.size):rdA (w.alloc (.cells (aLi x) ty)) ⟨g,0,none⟩ 13=vLi x:=rdA_new w _ ty g 13 hg (cLi_length x)
@[go_sem] theorem rowOk_nSs (x:Ss) (ty:TypeId) (g:Nat) (hg:g=w.heap.size):rowOk (w.alloc (.cells (aSs x) ty)) g 8=true:=rowOk_new w _ ty g 8 hg rfl
@[go_sem] theorem okA_nSs (x:Ss) (ty:TypeId) (g:Nat) (hg:g=w.heap.size):okA (w.alloc (.cells (aSs x) ty)) ⟨g,0,none⟩ 8=true:=okA_new w _ ty g 8 hg (cSs_length x)
@[go_sem] theorem rdA_nSs (x:Ss) (ty:TypeId) (g:Nat) (hg:g=w.heap.size):rdA (w.alloc (.cells (aSs x) ty)) ⟨g,0,none⟩ 8=vSs x:=rdA_new w _ ty g 8 hg (cSs_length x)
def aWis (xs:List Wi):Array Value:=(xs.flatMap cWi).toArray
theorem rowWI:(Tryz.prog.info? 54).map (fun i=>(i.zero.map (·.cells.size),i.size,i.bytes))=some (some 2,2,16):=by kernel_rfl
@[go_sem ↓] theorem bsWI (n:Nat) (parts:Array (Nat×Value)):Instr.buildSlice 55 n parts=bsA 55 n parts:=rfl
theorem run_bsWI (xs:List Wi) (h:xs.length≤100):(bsA 55 xs.length (xs.zipIdx.map fun x=>(x.2,vWi x.1)).toArray).run Tryz.prog w=.ok (.slice (some ⟨w.heap.size,0,none⟩) xs.length xs.length) (w.alloc (.cells (aWis xs) 54)):=by
 obtain⟨i,z,h1,h2,h3⟩:=info_of rowWI
 exact run_bsA w vWi 55 54 i z 2 Tryz.underlying55 h1 h2 h3 (fun x=>cWi_length x) xs (by omega)
@[go_sem] theorem run_bsWI_1 (x:Wi):(bsA 55 1 #[(0,vWi x)]).run Tryz.prog w=.ok (.slice (some ⟨w.heap.size,0,none⟩) 1 1) (w.alloc (.cells (aWis [x]) 54)):=run_bsWI w [x] (by simp)
def aPks (xs:List Pk):Array Value:=(xs.flatMap cPk).toArray
theorem rowPK:(Tryz.prog.info? 162).map (fun i=>(i.zero.map (·.cells.size),i.size,i.bytes))=some (some 2,2,32):=by kernel_rfl
@[go_sem ↓] theorem bsPK (n:Nat) (parts:Array (Nat×Value)):Instr.buildSlice 95 n parts=bsA 95 n parts:=rfl
theorem run_bsPK (xs:List Pk) (h:xs.length≤100):(bsA 95 xs.length (xs.zipIdx.map fun x=>(x.2,vPk x.1)).toArray).run Tryz.prog w=.ok (.slice (some ⟨w.heap.size,0,none⟩) xs.length xs.length) (w.alloc (.cells (aPks xs) 162)):=by
 obtain⟨i,z,h1,h2,h3⟩:=info_of rowPK
 exact run_bsA w vPk 95 162 i z 2 Tryz.underlying95 h1 h2 h3 (fun x=>cPk_length x) xs (by omega)
@[go_sem] theorem run_bsPK_1 (x:Pk):(bsA 95 1 #[(0,vPk x)]).run Tryz.prog w=.ok (.slice (some ⟨w.heap.size,0,none⟩) 1 1) (w.alloc (.cells (aPks [x]) 162)):=run_bsPK w [x] (by simp)
@[go_sem] theorem blWI_2 (a b:Int):(blA 54 #[(0,.int .i64 a),(1,.int .i64 b)]).run Tryz.prog w=.ok (vWi (a,b)) w:=by kernel_rfl
@[go_sem] theorem blPK_2 (A:Option Addr) (n c:Nat) (m:Int):(blA 162 #[(0,.slice A n c),(1,.int .i64 m)]).run Tryz.prog w=.ok (vPk ((A,n,c),m)) w:=by kernel_rfl
@[go_sem] theorem blCF_4 (r d q:Int) (A:Option Addr) (n c:Nat):(blA 57 #[(0,.int .i64 r),(1,.int .i64 d),(2,.int .i64 q),(3,.slice A n c)]).run Tryz.prog w=.ok (vCf ⟨r,d,q,(A,n,c)⟩) w:=by kernel_rfl
@[go_sem] theorem blLI_1 (x:Cf):(blA 100 #[(0,vCf x)]).run Tryz.prog w=.ok (vLi (⟨x,0,false,0⟩,zSl)) w:=by
 obtain⟨r,d,q,A,n,c⟩:=x
 kernel_rfl
@[go_sem] theorem blSS_5 (a b c d e:Option Addr):(blA 36 #[(0,.pointer a),(2,.pointer b),(3,.pointer c),(4,.pointer d),(5,.pointer e)]).run Tryz.prog w=.ok (vSs ⟨a,0,b,c,d,e,(none,0,0),false⟩) w:=by kernel_rfl
@[go_sem] theorem aCf_0 (x:Cf):(aCf x)[0]? = some (.int .i64 x.rate):=rfl
@[go_sem] theorem aCf_1 (x:Cf):(aCf x)[1]? = some (.int .i64 x.delay):=rfl
@[go_sem] theorem aCf_2 (x:Cf):(aCf x)[2]? = some (.int .i64 x.period):=rfl
@[go_sem] theorem aCf_3 (x:Cf):(aCf x)[3]? = some (.slice x.win.1 x.win.2.1 x.win.2.2):=rfl
@[go_sem] theorem aWi_0 (x:Wi):(aWi x)[0]? = some (.int .i64 x.1):=rfl
@[go_sem] theorem aWi_1 (x:Wi):(aWi x)[1]? = some (.int .i64 x.2):=rfl
@[go_sem] theorem aPk_0 (x:Pk):(aPk x)[0]? = some (.slice x.1.1 x.1.2.1 x.1.2.2):=rfl
@[go_sem] theorem aPk_1 (x:Pk):(aPk x)[1]? = some (.int .i64 x.2):=rfl
end
open Go.RowKit
def upd {α:Type} (f:Nat→α) (k:Nat) (v:α):Nat→α:=fun j=>if j=k then v else f j
theorem upd_same {α:Type} (f:Nat→α) (k:Nat) (v:α):upd f k v k=v:=if_pos rfl
theorem upd_ne {α:Type} (f:Nat→α) {k j:Nat} (v:α) (h:j≠k):upd f k v j=f j:=if_neg h
theorem upd_self {α:Type} (f:Nat→α) (k:Nat):upd f k (f k)=f:=by
 funext j
 unfold upd
 split
 ·rename_i h;rw[h]
 ·rfl
theorem at_same {w u:World} {ad:Addr} {cs:List Value} (h:At w ad cs) (hk:u.heap[ad.block]? = w.heap[ad.block]?):At u ad cs:=by
 refine⟨?_,fun j x hx=>?_⟩
 ·have h1:=Array.getElem?_eq_getElem h.1
  rw[← hk] at h1
  exact (Array.getElem?_eq_some_iff.1 h1).1
 ·exact (World.cell?_of_block (w:=w) (w':=u) (a:=ad.add j) (by rw[block_of_add];exact hk)).trans (h.2 j x hx)
abbrev Pkt:=SlV×List UInt8×Nat
def pkC (p:Pkt):Pk:=(p.1,(p.2.2:Int))
structure LnR (b:Nat) (c:Lc) (sl:Nat→SlV) (bs:Nat→List UInt8) (pk:Nat→List Pkt) (F:List Nat) (w:World):Prop where
 row:Row w b (cLi (c,sl)) 100
 ob:∀ k,k<6→k % 3≠1→Os w 5 1 c1 (sl k).1 (sl k).2.1 (sl k).2.2 (bs k)
 op:∀ k,k<6→k % 3=1→Os w 162 2 cPk (sl k).1 (sl k).2.1 (sl k).2.2 ((pk k).map pkC)
 rd:∀ k,k<6→k % 3=1→∀ p∈pk k,Sl w c1 p.1.1 p.2.1∧p.1.2.1=p.2.1.length
 sep:∀ k g,k<6→blkA (sl k).1=some g→g≠b∧g∈F∧∀ j,j<6→j≠k→blkA (sl j).1≠some g
 pks:∀ j,j<6→j % 3=1→∀ p∈pk j,∀ g,blkA p.1.1=some g→g≠b∧g∈F∧∀ k,k<6→blkA (sl k).1≠some g
 bF:b∈F
 win:∃ A cw,c.cf.win=(some A,1,cw)∧Sl w cWi (some A) [(0,10)]∧A.block≠b∧A.block∈F∧∀ k,k<6→blkA (sl k).1≠some A.block
 lt:∀ k∈F,k<w.heap.size
theorem cLi_sl (c:Lc) (sl:Nat→SlV) {k:Nat} (hk:k<6):(cLi (c,sl))[7+k]? = some (sv (sl k)):=by
 match k,hk with
 | 0,_=>rfl
 | 1,_=>rfl
 | 2,_=>rfl
 | 3,_=>rfl
 | 4,_=>rfl
 | 5,_=>rfl
theorem cLi_set (c:Lc) (sl:Nat→SlV) {k:Nat} (hk:k<6) (v:SlV):(cLi (c,sl)).set (7+k) (sv v)=cLi (c,upd sl k v):=by
 match k,hk with
 | 0,_=>rfl
 | 1,_=>rfl
 | 2,_=>rfl
 | 3,_=>rfl
 | 4,_=>rfl
 | 5,_=>rfl
section
variable {b : Nat} {c : Lc} {sl : Nat → SlV} {bs : Nat → List UInt8} {pk : Nat → List Pkt} {F : List Nat} {w u : World}
theorem LnR.cell (h:LnR b c sl bs pk F w) {k:Nat} (hk:k<6):w.cell? ⟨b,7+k,none⟩=some (.slice (sl k).1 (sl k).2.1 (sl k).2.2):=(h.row.cell _).trans (cLi_sl c sl hk)
theorem LnR.same (h:LnR b c sl bs pk F w) (hs:w.heap.size≤u.heap.size) (hk:∀ k∈F,u.heap[k]? = w.heap[k]?):LnR b c sl bs pk F u:=by
 obtain⟨A,cw,w1,w2,w3,w4,w5⟩:=h.win
 refine⟨h.row.same (hk b h.bF),fun k h1 h2=>(h.ob k h1 h2).same fun g hg=>hk g (h.sep k g h1 hg).2.1,fun k h1 h2=>(h.op k h1 h2).same fun g hg=>hk g (h.sep k g h1 hg).2.1,fun k h1 h2 p hp=>⟨?_,(h.rd k h1 h2 p hp).2⟩,h.sep,h.pks,h.bF,⟨A,cw,w1,?_,w3,w4,w5⟩,fun k hm=>Nat.lt_of_lt_of_le (h.lt k hm) hs⟩
 ·intro hn
  obtain⟨ad,e,ha⟩:=(h.rd k h1 h2 p hp).1 hn
  exact⟨ad,e,at_same ha (hk ad.block (h.pks k h1 h2 p hp ad.block (by rw[e];rfl)).2.1)⟩
 ·intro hn
  obtain⟨ad,e,ha⟩:=w2 hn
  injection e with e
  subst e
  exact⟨A,rfl,at_same ha (hk A.block w4)⟩
theorem LnR.keep (h:LnR b c sl bs pk F w) (hb:Below w.heap.size w u):LnR b c sl bs pk F u:=h.same hb.size fun k hk=>hb.block k (h.lt k hk)
theorem LnR.flag (h:LnR b c sl bs pk F w) (c':Lc) (hc:c'.cf=c.cf) {i:Nat} {v:Value} (hs:(cLi (c,sl)).set i v=cLi (c',sl)):LnR b c' sl bs pk F (w.setCell ⟨b,i,none⟩ v):=by
 obtain⟨A,cw,w1,w2,w3,w4,w5⟩:=h.win
 have hne:∀ g,g≠b→(w.setCell ⟨b,i,none⟩ v).heap[g]? = w.heap[g]?:=fun g hg=>heap_set_other w b i v g hg
 have hsz:(w.setCell ⟨b,i,none⟩ v).heap.size=w.heap.size:=by simp[World.setCell]
 refine⟨?_,fun k h1 h2=>(h.ob k h1 h2).same fun g hg=>hne g (h.sep k g h1 hg).1,fun k h1 h2=>(h.op k h1 h2).same fun g hg=>hne g (h.sep k g h1 hg).1,fun k h1 h2 p hp=>⟨?_,(h.rd k h1 h2 p hp).2⟩,h.sep,h.pks,h.bF,⟨A,cw,by rw[hc];exact w1,?_,w3,w4,w5⟩,fun k hm=>by rw[hsz];exact h.lt k hm⟩
 ·rw[← hs]
  exact h.row.set i v
 ·intro hn
  obtain⟨ad,e,ha⟩:=(h.rd k h1 h2 p hp).1 hn
  exact⟨ad,e,at_same ha (hne ad.block (h.pks k h1 h2 p hp ad.block (by rw[e];rfl)).1)⟩
 ·intro hn
  obtain⟨ad,e,ha⟩:=w2 hn
  injection e with e
  subst e
  exact⟨A,rfl,at_same ha (hne A.block w3)⟩
theorem Kp.setCell (F:List Nat) (w:World) {b:Nat} (hb:b∈F) (i:Nat) (v:Value):Kp F F w (w.setCell ⟨b,i,none⟩ v) :=
 ⟨rfl,rfl,rfl,by simp[World.setCell],fun k _ hF=>⟨hF,heap_set_other w b i v k (fun e=>hF (e▸hb))⟩⟩
theorem LnR.setB (h:LnR b c sl bs pk F w) {k:Nat} (hk:k<6) (hm:k % 3≠1) {v:SlV} {l:List UInt8} (hos:Os u 5 1 c1 v.1 v.2.1 v.2.2 l) (hg:w.grownBy u (blkA (sl k).1)) (hb:∀ g,blkA v.1=some g→blkA (sl k).1=some g∨w.heap.size≤g) :
  LnR b c (upd sl k v) (upd bs k l) pk (blkL v++F) (u.setCell ⟨b,7+k,none⟩ (sv v))∧Kp F (blkL v++F) w (u.setCell ⟨b,7+k,none⟩ (sv v)):=by
 obtain⟨A,cw,w1,w2,w3,w4,w5⟩:=h.win
 have hbl:=h.row.lt
 have hbF:some b≠blkA (sl k).1:=fun e=>(h.sep k b hk e.symm).1 rfl
 have hne:∀ g,g<w.heap.size→g≠b→some g≠blkA (sl k).1→(u.setCell ⟨b,7+k,none⟩ (sv v)).heap[g]? = w.heap[g]?:=fun g h1 h2 h3=>(heap_set_other u b _ _ g h2).trans (hg.block g h1 h3)
 have hsz:(u.setCell ⟨b,7+k,none⟩ (sv v)).heap.size=u.heap.size:=by simp[World.setCell]
 have hvl:∀ g,blkA v.1=some g→g<u.heap.size:=hos.lt
 have hmem:∀ g,g∈blkL v↔blkA v.1=some g:=fun g=>by
  unfold blkL blkA
  cases v.1 <;> simp[eq_comm]
 have hvb:∀ g,blkA v.1=some g→g≠b:=fun g e=>by
  rcases hb g e with h1|h1
  ·exact (h.sep k g hk h1).1
  ·omega
 have hv2:∀ g,blkA v.1=some g→∀ j,j<6→j≠k→blkA (sl j).1≠some g:=fun g e j hj hjk e2=>by
  rcases hb g e with h1|h1
  ·exact (h.sep k g hk h1).2.2 j hj hjk e2
  ·exact absurd (h.lt g (h.sep j g hj e2).2.1) (by omega)
 refine⟨⟨?_,fun j h1 h2=>?_,fun j h1 h2=>?_,fun j h1 h2 p hp=>⟨?_,(h.rd j h1 h2 p hp).2⟩,fun j g h1 e=>?_,fun j h1 h2 p hp g e=>?_,List.mem_append_right _ h.bF,⟨A,cw,w1,?_,w3,List.mem_append_right _ w4,fun j hj e=>?_⟩,fun g hm=>?_⟩,⟨hg.os,hg.tape,hg.output,by rw[hsz];exact hg.size,fun g h1 h2=>⟨fun hm=>?_,?_⟩⟩⟩
 ·rw[← cLi_set c sl hk v]
  exact (h.row.same (hg.block b hbl hbF)).set _ _
 ·by_cases e:j=k
  ·subst e
   rw[upd_same,upd_same]
   exact hos.same fun g hg2=>heap_set_other u b _ _ g (hvb g hg2)
  ·rw[upd_ne _ _ e,upd_ne _ _ e]
   exact (h.ob j h1 h2).same fun g hg2=>hne g ((h.ob j h1 h2).lt g hg2) (h.sep j g h1 hg2).1 (fun e2=>(h.sep j g h1 hg2).2.2 k hk (Ne.symm e) e2.symm)
 ·have e:j≠k:=fun e=>hm (e▸h2)
  rw[upd_ne _ _ e]
  exact (h.op j h1 h2).same fun g hg2=>hne g ((h.op j h1 h2).lt g hg2) (h.sep j g h1 hg2).1 (fun e2=>(h.sep j g h1 hg2).2.2 k hk (Ne.symm e) e2.symm)
 ·intro hn
  obtain⟨ad,e,ha⟩:=(h.rd j h1 h2 p hp).1 hn
  have hp2:=h.pks j h1 h2 p hp ad.block (by rw[e];rfl)
  exact⟨ad,e,at_same ha (hne ad.block ha.1 hp2.1 (fun e2=>hp2.2.2 k hk e2.symm))⟩
 ·by_cases ej:j=k
  ·subst ej
   rw[upd_same] at e
   exact⟨hvb g e,List.mem_append_left _ ((hmem g).2 e),fun i hi hij=>by rw[upd_ne _ _ hij];exact hv2 g e i hi hij⟩
  ·rw[upd_ne _ _ ej] at e
   have hs:=h.sep j g h1 e
   refine⟨hs.1,List.mem_append_right _ hs.2.1,fun i hi hij=>?_⟩
   by_cases ei:i=k
   ·subst ei
    rw[upd_same]
    exact fun e2=>hv2 g e2 j h1 ej e
   ·rw[upd_ne _ _ ei]
    exact hs.2.2 i hi hij
 ·have hs:=h.pks j h1 h2 p hp g e
  refine⟨hs.1,List.mem_append_right _ hs.2.1,fun i hi=>?_⟩
  by_cases ei:i=k
  ·subst ei
   rw[upd_same]
   intro e2
   rcases hb g e2 with h3|h3
   ·exact hs.2.2 i hi h3
   ·exact absurd (h.lt g hs.2.1) (by omega)
  ·rw[upd_ne _ _ ei]
   exact hs.2.2 i hi
 ·intro hn
  obtain⟨ad,e,ha⟩:=w2 hn
  injection e with e
  subst e
  exact⟨A,rfl,at_same ha (hne A.block ha.1 w3 (fun e2=>w5 k hk e2.symm))⟩
 ·by_cases ej:j=k
  ·subst ej
   rw[upd_same] at e
   rcases hb _ e with h3|h3
   ·exact w5 j hj h3
   ·exact absurd (h.lt _ w4) (by omega)
  ·rw[upd_ne _ _ ej] at e
   exact w5 j hj e
 ·rw[hsz]
  rcases List.mem_append.1 hm with h3|h3
  ·exact hvl g ((hmem g).1 h3)
  ·exact Nat.lt_of_lt_of_le (h.lt g h3) hg.size
 ·rcases List.mem_append.1 hm with h3|h3
  ·rcases hb g ((hmem g).1 h3) with h4|h4
   ·exact h2 (h.sep k g hk h4).2.1
   ·omega
  ·exact h2 h3
 ·exact hne g h1 (fun e=>h2 (e▸h.bF)) (fun e=>h2 (h.sep k g hk e.symm).2.1)
theorem LnR.setP (h:LnR b c sl bs pk F w) {k:Nat} (hk:k<6) (hm:k % 3=1) {v:SlV} {l:List Pkt} {G:List Nat} (hos:Os u 162 2 cPk v.1 v.2.1 v.2.2 (l.map pkC)) (hg:w.grownBy u (blkA (sl k).1)) (hb:∀ g,blkA v.1=some g→blkA (sl k).1=some g∨w.heap.size≤g)
  (hl:∀ p∈l,p∈pk k∨(Sl w c1 p.1.1 p.2.1∧p.1.2.1=p.2.1.length∧∀ g,blkA p.1.1=some g→g∈G)) (hG:∀ g∈G,g<w.heap.size∧g∉F) :
  LnR b c (upd sl k v) bs (upd pk k l) (blkL v++(G++F)) (u.setCell ⟨b,7+k,none⟩ (sv v))∧∀ g,g<w.heap.size→g∉F→(u.setCell ⟨b,7+k,none⟩ (sv v)).heap[g]? = w.heap[g]?:=by
 obtain⟨A,cw,w1,w2,w3,w4,w5⟩:=h.win
 have hbl:=h.row.lt
 have hbF:some b≠blkA (sl k).1:=fun e=>(h.sep k b hk e.symm).1 rfl
 have hne:∀ g,g<w.heap.size→g≠b→some g≠blkA (sl k).1→(u.setCell ⟨b,7+k,none⟩ (sv v)).heap[g]? = w.heap[g]?:=fun g h1 h2 h3=>(heap_set_other u b _ _ g h2).trans (hg.block g h1 h3)
 have hsz:(u.setCell ⟨b,7+k,none⟩ (sv v)).heap.size=u.heap.size:=by simp[World.setCell]
 have hvl:∀ g,blkA v.1=some g→g<u.heap.size:=hos.lt
 have hmem:∀ g,g∈blkL v↔blkA v.1=some g:=fun g=>by
  unfold blkL blkA
  cases v.1 <;> simp[eq_comm]
 have hvb:∀ g,blkA v.1=some g→g≠b:=fun g e=>by
  rcases hb g e with h1|h1
  ·exact (h.sep k g hk h1).1
  ·omega
 have hv2:∀ g,blkA v.1=some g→∀ j,j<6→j≠k→blkA (sl j).1≠some g:=fun g e j hj hjk e2=>by
  rcases hb g e with h1|h1
  ·exact (h.sep k g hk h1).2.2 j hj hjk e2
  ·exact absurd (h.lt g (h.sep j g hj e2).2.1) (by omega)
 have hpl:∀ p∈l,Sl w c1 p.1.1 p.2.1∧p.1.2.1=p.2.1.length∧∀ g,blkA p.1.1=some g→g≠b∧g∈G++F∧g<w.heap.size∧∀ i,i<6→blkA (sl i).1≠some g:=fun p hp=>by
  rcases hl p hp with h1|⟨h1,h2,h3⟩
  ·exact⟨(h.rd k hk hm p h1).1,(h.rd k hk hm p h1).2,fun g e=>⟨(h.pks k hk hm p h1 g e).1,List.mem_append_right _ (h.pks k hk hm p h1 g e).2.1,h.lt g (h.pks k hk hm p h1 g e).2.1,(h.pks k hk hm p h1 g e).2.2⟩⟩
  ·exact⟨h1,h2,fun g e=>⟨fun e2=>(hG g (h3 g e)).2 (e2▸h.bF),List.mem_append_left _ (h3 g e),(hG g (h3 g e)).1,fun i hi e2=>(hG g (h3 g e)).2 (h.sep i g hi e2).2.1⟩⟩
 have hpj:∀ j,j<6→j % 3=1→∀ p∈upd pk k l j,Sl w c1 p.1.1 p.2.1∧p.1.2.1=p.2.1.length∧∀ g,blkA p.1.1=some g→g≠b∧g∈G++F∧g<w.heap.size∧∀ i,i<6→blkA (sl i).1≠some g:=fun j h1 h2 p hp=>by
  by_cases e:j=k
  ·subst e
   rw[upd_same] at hp
   exact hpl p hp
  ·rw[upd_ne _ _ e] at hp
   exact⟨(h.rd j h1 h2 p hp).1,(h.rd j h1 h2 p hp).2,fun g e=>⟨(h.pks j h1 h2 p hp g e).1,List.mem_append_right _ (h.pks j h1 h2 p hp g e).2.1,h.lt g (h.pks j h1 h2 p hp g e).2.1,(h.pks j h1 h2 p hp g e).2.2⟩⟩
 refine⟨⟨?_,fun j h1 h2=>?_,fun j h1 h2=>?_,fun j h1 h2 p hp=>⟨?_,(hpj j h1 h2 p hp).2.1⟩,fun j g h1 e=>?_,fun j h1 h2 p hp g e=>?_,List.mem_append_right _ (List.mem_append_right _ h.bF),⟨A,cw,w1,?_,w3,List.mem_append_right _ (List.mem_append_right _ w4),fun j hj e=>?_⟩,fun g hm=>?_⟩,fun g h1 h2=>?_⟩
 ·rw[← cLi_set c sl hk v]
  exact (h.row.same (hg.block b hbl hbF)).set _ _
 ·have e:j≠k:=fun e=>h2 (e▸hm)
  rw[upd_ne _ _ e]
  exact (h.ob j h1 h2).same fun g hg2=>hne g ((h.ob j h1 h2).lt g hg2) (h.sep j g h1 hg2).1 (fun e2=>(h.sep j g h1 hg2).2.2 k hk (Ne.symm e) e2.symm)
 ·by_cases e:j=k
  ·subst e
   rw[upd_same,upd_same]
   exact hos.same fun g hg2=>heap_set_other u b _ _ g (hvb g hg2)
  ·rw[upd_ne _ _ e,upd_ne _ _ e]
   exact (h.op j h1 h2).same fun g hg2=>hne g ((h.op j h1 h2).lt g hg2) (h.sep j g h1 hg2).1 (fun e2=>(h.sep j g h1 hg2).2.2 k hk (Ne.symm e) e2.symm)
 ·intro hn
  obtain⟨ad,e,ha⟩:=(hpj j h1 h2 p hp).1 hn
  have hp2:=(hpj j h1 h2 p hp).2.2 ad.block (by rw[e];rfl)
  exact⟨ad,e,at_same ha (hne ad.block ha.1 hp2.1 (fun e2=>hp2.2.2.2 k hk e2.symm))⟩
 ·by_cases ej:j=k
  ·subst ej
   rw[upd_same] at e
   exact⟨hvb g e,List.mem_append_left _ ((hmem g).2 e),fun i hi hij=>by rw[upd_ne _ _ hij];exact hv2 g e i hi hij⟩
  ·rw[upd_ne _ _ ej] at e
   have hs:=h.sep j g h1 e
   refine⟨hs.1,List.mem_append_right _ (List.mem_append_right _ hs.2.1),fun i hi hij=>?_⟩
   by_cases ei:i=k
   ·subst ei
    rw[upd_same]
    exact fun e2=>hv2 g e2 j h1 ej e
   ·rw[upd_ne _ _ ei]
    exact hs.2.2 i hi hij
 ·have hs:=(hpj j h1 h2 p hp).2.2 g e
  refine⟨hs.1,List.mem_append_right _ hs.2.1,fun i hi=>?_⟩
  by_cases ei:i=k
  ·subst ei
   rw[upd_same]
   intro e2
   rcases hb g e2 with h3|h3
   ·exact hs.2.2.2 i hi h3
   ·exact absurd hs.2.2.1 (by omega)
  ·rw[upd_ne _ _ ei]
   exact hs.2.2.2 i hi
 ·intro hn
  obtain⟨ad,e,ha⟩:=w2 hn
  injection e with e
  subst e
  exact⟨A,rfl,at_same ha (hne A.block ha.1 w3 (fun e2=>w5 k hk e2.symm))⟩
 ·by_cases ej:j=k
  ·subst ej
   rw[upd_same] at e
   rcases hb _ e with h3|h3
   ·exact w5 j hj h3
   ·exact absurd (h.lt _ w4) (by omega)
  ·rw[upd_ne _ _ ej] at e
   exact w5 j hj e
 ·rw[hsz]
  rcases List.mem_append.1 hm with h3|h3
  ·exact hvl g ((hmem g).1 h3)
  ·rcases List.mem_append.1 h3 with h4|h4
   ·exact Nat.lt_of_lt_of_le (hG g h4).1 hg.size
   ·exact Nat.lt_of_lt_of_le (h.lt g h4) hg.size
 ·exact hne g h1 (fun e=>h2 (e▸h.bF)) (fun e=>h2 (h.sep k g hk e.symm).2.1)
end
end Go.Proofs.YtdkjgcfhepplbaaGreatDoor
