/- command.Decode at the example of the language: a line that has no words but its verb. -/
import Derived.Test.YtgojaelkdpabkaaGreatDoorMEnA
import Derived.Test.YtgojaelkdpabkaaGreatDoorMAnyG
import Derived.Lib.IndexLaws
import Derived.Test.YtgojaelkdpabkaaGreatDoorMRow
namespace Go.Proofs.YtgojaelkdpabkaaGreatDoor
section
open Go.RowKit
structure One (g:Nat) (w w':World):Prop where
 os:w'.os=w.os
 tape:w'.tape=w.tape
 output:w'.output=w.output
 size:w.heap.size≤w'.heap.size
 out:∀ k,k<w.heap.size→k≠g→w'.heap[k]? = w.heap[k]?
section
variable {g : Nat} {w w' w'' : World}
theorem One.refl:One g w w:=⟨rfl,rfl,rfl,Nat.le_refl _,fun _ _ _=>rfl⟩
theorem One.trans (h:One g w w') (k:One g w' w''):One g w w'':=⟨k.os.trans h.os,k.tape.trans h.tape,k.output.trans h.output,Nat.le_trans h.size k.size,fun j hj hg=>(k.out j (Nat.lt_of_lt_of_le hj h.size) hg).trans (h.out j hj hg)⟩
theorem One.of_below (h:Below w.heap.size w w'):One g w w':=⟨h.os,h.tape,h.output,h.size,fun k hk _=>h.block k hk⟩
theorem One.set (k:Nat) (v:Value):One g w (w.setCell ⟨g,k,none⟩ v):=⟨rfl,rfl,rfl,by simp[World.setCell],fun j _ hj=>heap_set_other w g k v j hj⟩
theorem One.stD (k:Nat) (ds:List Value):One g w (stD w g k ds):=by
 obtain⟨h1,h2,h3⟩:=setCells_os g ds k w
 exact⟨h1,h2,h3,Nat.le_of_eq (setCells_size g ds k w).symm,fun j _ hj=>heap_stD_other w g k ds j hj⟩
theorem One.row {b:Nat} {cs:List Value} {t:TypeId} (h:One g w w') (hr:Row w b cs t) (hb:b≠g):Row w' b cs t:=hr.same (h.out b hr.lt hb)
theorem One.below {B:Nat} (h:One g w w') (hB:B≤g) (hw:B≤w.heap.size):Below B w w':=⟨h.os,h.tape,h.output,h.size,fun k hk=>h.out k (Nat.lt_of_lt_of_le hk hw) (by omega)⟩
end
def rdL:List (Int×Nat):=[(1,102),(2,104),(4,106),(8,108),(16,109),(32,110)]
def fnV (F g:Nat):Value:=.func (.func F) #[] #[.pointer (some ⟨g,0,none⟩)]
def cR (g:Nat) (x:Int×Nat):List Value:=[.int .i64 x.1,fnV x.2 g]
def vR (g:Nat) (x:Int×Nat):Value:=.agg (cR g x).toArray
def aR (g:Nat) (x:Int×Nat):Array Value:=(cR g x).toArray
def aRz:Array Value:=#[.int .i64 0,.nilFunc]
theorem cR_length (g:Nat) (x:Int×Nat):(cR g x).length=2:=rfl
theorem cR_one (g:Nat) (x:Int×Nat):∀ u∈cR g x,u.oneCell'=true:=by
 intro u hu
 simp only[cR,List.mem_cons,List.not_mem_nil,or_false] at hu
 rcases hu with rfl|rfl <;> rfl
theorem size170:(Tryz.prog.info? 170).map (·.size)=some 2:=by kernel_rfl
section
variable (w : World) (v : Value)
@[go_sem ↓] theorem load170:Instr.loadAt 170 v=ldA 170 v:=rfl
@[go_sem] theorem run_ld170 (ad:Addr):(ldA 170 (.pointer (some ad))).run Tryz.prog w=if okA w ad 2=true then .ok (rdA w ad 2) w else (ldB 170 (.pointer (some ad))).run Tryz.prog w:=run_ldA_if w 170 ad 2 _ Tryz.underlying170 rfl size170
@[go_sem ↓] theorem blt170 (parts:Array (Nat×Value)):Instr.build 170 parts=blA 170 parts:=rfl
@[go_sem ↓] theorem alloc170 (h:Bool):Instr.alloc 170 h v=alA 170 h v:=rfl
@[go_sem ↓] theorem store170 (u:Value):Instr.storeAt 170 v u=stA 170 v u:=rfl
@[go_sem] theorem run_st170 (b g:Nat) (x:Int×Nat):(stA 170 (.pointer (some ⟨b,0,none⟩)) (vR g x)).run Tryz.prog w=if rowOk w b 2=true then .ok () (w.setRow b (aR g x)) else (stB 170 (.pointer (some ⟨b,0,none⟩)) (vR g x)).run Tryz.prog w:=run_stA_if w 170 b _ 2 size170 rfl (by simpa using cR_one g x)
@[go_sem] theorem rowOk_n170 (ty:TypeId) (b:Nat) (hg:b=w.heap.size):rowOk (w.alloc (.cells aRz ty)) b 2=true:=rowOk_new w _ ty b 2 hg rfl
@[go_sem] theorem run_al170:(alA 170 true (.tuple #[])).run Tryz.prog w=.ok (.pointer (some ⟨w.heap.size,0,none⟩)) (w.alloc (.cells aRz 170)):=by kernel_rfl
@[go_sem] theorem aR_0 (g:Nat) (x:Int×Nat):(aR g x)[0]? = some (.int .i64 x.1):=rfl
@[go_sem] theorem aR_1 (g:Nat) (x:Int×Nat):(aR g x)[1]? = some (fnV x.2 g):=rfl
@[go_sem] theorem blR (a:Int) (F g:Nat):(blA 170 #[(0,.int .i64 a),(1,.func (.func F) #[] #[.pointer (some ⟨g,0,none⟩)])]).run Tryz.prog w=.ok (vR g (a,F)) w:=by kernel_rfl
def aRs (g:Nat) (xs:List (Int×Nat)):Array Value:=(xs.flatMap (cR g)).toArray
@[go_sem ↓] theorem bs175 (n:Nat) (parts:Array (Nat×Value)):Instr.buildSlice 175 n parts=bsA 175 n parts:=rfl
theorem run_bs175 (g:Nat) (xs:List (Int×Nat)) (h:xs.length≤100):(bsA 175 xs.length (xs.zipIdx.map fun x=>(x.2,vR g x.1)).toArray).run Tryz.prog w=.ok (.slice (some ⟨w.heap.size,0,none⟩) xs.length xs.length) (w.alloc (.cells (aRs g xs) 170)):=by
 obtain⟨i,z,h1,h2,h3⟩:=info_of (show (Tryz.prog.info? 170).map (fun i=>(i.zero.map (·.cells.size),i.size,i.bytes))=some (some 2,2,16) by kernel_rfl)
 exact run_bsA w (vR g) 175 170 i z 2 Tryz.underlying175 h1 h2 h3 (fun _=>rfl) xs (by omega)
@[go_sem] theorem run_bsR_6 (k:Nat) (a b c d e f:Int×Nat):(bsA 175 6 #[(0,vR k a),(1,vR k b),(2,vR k c),(3,vR k d),(4,vR k e),(5,vR k f)]).run Tryz.prog w=.ok (.slice (some ⟨w.heap.size,0,none⟩) 6 6) (w.alloc (.cells (aRs k [a,b,c,d,e,f]) 170)):=run_bs175 w k [a,b,c,d,e,f] (by simp)
end
theorem row_rd {w:World} {b g:Nat} {xs:List (Int×Nat)} {t:TypeId} (h:Row w b (xs.flatMap (cR g)) t) {k:Nat} (hk:k<xs.length):okA w ⟨b,k * 2,none⟩ 2=true∧rdA w ⟨b,k * 2,none⟩ 2=vR g xs[k]:=by
 have hs:Sl w (cR g) (some ⟨b,0,none⟩) xs:=fun _=>⟨_,rfl,h.at_ (k:=0) (n:=(xs.flatMap (cR g)).length) (by rw[List.drop_zero,List.take_length])⟩
 obtain⟨ad,had,hat⟩:=Sl.at_ (cR_length g) hs hk
 obtain rfl:=Option.some.inj had
 have h1:=hat.ok
 have h2:=hat.rd
 rw[cR_length] at h1 h2
 have hao:=add_off b 0 (k * 2)
 rw[Nat.zero_add] at hao
 rw[hao] at h1 h2
 exact⟨h1,h2⟩
def vb (s:ByteArray):Nat→Nat
 | 0=>0
 | k+1=>if bl ((formsL[k+1]?.getD (⟨#[]⟩,0,0)).1)=bl s then k+1 else vb s k
theorem vb_le (s:ByteArray) (k:Nat):vb s k≤k:=by
 induction k with
 | zero=>exact Nat.le_refl _
 | succ k ih =>
  rw[vb]
  split
  ·exact Nat.le_refl _
  ·omega
def flOf (v:Nat):Int:=(formsL[v]?.getD (⟨#[]⟩,0,0)).2.1
theorem cC_set0 (c:Cm) (n:Int):(cC c).set 0 (.int .i64 n)=cC { c with verb:=n }:=rfl
theorem FormsAt.lt0 {w:World} (h:FormsAt w):0<w.heap.size:=by
 obtain⟨ad,had,hat⟩:=h (by decide)
 obtain rfl:=Option.some.inj had
 have h2:=hat.2 0 _ rfl
 rw[add_off] at h2
 unfold World.cell? at h2
 split at h2
 ·rename_i hh
  exact (Array.getElem?_eq_some_iff.1 hh).1
 ·cases h2
theorem FormsAt.w0 {w:World} (h:FormsAt w) {k:Nat} (hk:k<formsL.length):w.cell? ⟨0,k * 3,none⟩=some (.string formsL[k].1):=by
 obtain⟨ad,had,hat⟩:=Sl.at_ cF_length h hk
 obtain rfl:=Option.some.inj had
 have h2:=hat.2 0 (.string formsL[k].1) rfl
 have hao:=add_off 0 0 (k * 3)
 rw[Nat.zero_add] at hao
 rw[hao] at h2
 have hao2:=add_off 0 (k * 3) 0
 rw[hao2] at h2
 exact h2
theorem FormsAt.w1 {w:World} (h:FormsAt w) {k:Nat} (hk:k<formsL.length):w.cell? ⟨0,k * 3+1,none⟩=some (.int .i64 formsL[k].2.1):=by
 obtain⟨ad,had,hat⟩:=Sl.at_ cF_length h hk
 obtain rfl:=Option.some.inj had
 have h2:=hat.2 1 (.int .i64 formsL[k].2.1) rfl
 have hao:=add_off 0 0 (k * 3)
 rw[Nat.zero_add] at hao
 rw[hao,add_off] at h2
 exact h2
theorem FormsAt.keep1 {w w':World} {g:Nat} (h:FormsAt w) (ho:One g w w') (hg:g≠0) (hl:0<w.heap.size):FormsAt w':=by
 intro hne
 obtain⟨ad,had,hat⟩:=h hne
 obtain rfl:=Option.some.inj had
 refine⟨_,rfl,Nat.lt_of_lt_of_le hat.1 ho.size,fun j u hu=>?_⟩
 rw[← hat.2 j u hu,add_off]
 exact World.cell?_of_block (ho.out 0 hl (fun e=>hg e.symm))
theorem Row.rowOk {w:World} {b n:Nat} {cs:List Value} {t:TypeId} (h:Row w b cs t) (hn:cs.length=n):Go.Proofs.YtgojaelkdpabkaaGreatDoor.rowOk w b n=true:=by
 unfold Row at h
 unfold Go.Proofs.YtgojaelkdpabkaaGreatDoor.rowOk
 rw[h]
 simpa using hn
theorem ld_setRow (c:Cm) {w:World} {b:Nat} (h:rowOk w b 39=true):(loadVar 32 ⟨b,0,none⟩).run Tryz.prog (w.setRow b (aC c))=.ok (vC c) (w.setRow b (aC c)) :=
 run_loadVar_at _ ⟨b,0,none⟩ 32 (cC c) _ (at_setRow (cC c) h) Tryz.underlying32 rfl (by rw[cC_length];exact size32)
def WsAt (b:Nat) (ps:List ByteArray) (w:World):Prop:=Row w b (ps.map Value.string) 9
theorem WsAt.cell {b:Nat} {ps:List ByteArray} {w:World} (h:WsAt b ps w) {k:Nat} (hk:k<ps.length):w.cell? ⟨b,k,none⟩=some (.string ps[k]) :=
 (Row.cell h k).trans (by rw[List.getElem?_map,List.getElem?_eq_getElem hk];rfl)
def quitS:ByteArray:=⟨#[113,117,105,116]⟩
def quitT:ByteArray:=⟨#[113,117,105,116,13,10,120]⟩
def cQuit:Cm:={ zC with verb:=11 }
theorem quit_z:∀ p∈rdL,(bits BinOp.and .i64 0 p.1==0)=true:=by decide +kernel
theorem quit_sp:splitGo 32 [] (bl quitS)=[bl quitS]:=by decide +kernel
theorem quit_vb:vb quitS 11=11:=by decide +kernel
set_option maxRecDepth 100000 in
set_option maxHeartbeats 12800000 in
theorem parse_quit (w:World) (hL:Laid w):Calls Tryz.prog 88 #[.string quitS] w fun e w'=>e=.returned (.tuple #[vC cQuit,.bool true])∧Below w.heap.size w w':=by
 obtain⟨s,hsq⟩:∃ s,quitS=s:=⟨_,rfl⟩
 rw[hsq]
 have hs:s.size≤1000000:=by rw[← hsq];decide
 obtain⟨r0,hr0⟩:∃ r0,w.heap.size=r0:=⟨_,rfl⟩
 have HB0:=Lib.hid (below_alloc w (.cells (aC zC) 32))
 have HR0:=Lib.hid (show Row (w.alloc (.cells (aC zC) 32)) r0 (cC zC) 32 by rw[← hr0];exact Row.new w (cC zC) 32)
 obtain⟨W1,hW1⟩:∃ W1,w.alloc (.cells (aC zC) 32)=W1:=⟨_,rfl⟩
 rw[hW1] at HB0 HR0
 have HL1:=Lib.hid (hL.keep HB0.out)
 obtain⟨mx,hmx⟩:=HL1.out.max
 have hg:=splitB_go 32 s
 have hlen:=Lib.splitB_all ⟨#[32]⟩ (by decide) 0 _ s rfl
 have H40:=Lib.hid (Tryz.strings_Split s ⟨#[32]⟩ mx W1 (by omega) hmx (by decide))
 generalize Lib.countB s ⟨#[32]⟩=cnt at hg hlen H40
 obtain⟨ps,hps⟩:∃ ps,Lib.splitB ⟨#[32]⟩ 0 cnt s=ps:=⟨_,rfl⟩
 rw[hps] at hg hlen H40
 rw[← hlen] at H40
 obtain⟨N,hN⟩:∃ N,ps.length=N:=⟨_,rfl⟩
 rw[hN] at H40 hlen
 have hN1:1≤N:=by omega
 have hp1:ps=[s]:=by
  have h:ps.map bl=[bl s]:=by rw[hg,← hsq];exact quit_sp
  cases ps with
  | nil=>simp at h
  | cons a t =>
   cases t with
   | nil=>rw[bl_inj (List.cons.inj h).1]
   | cons b t=>simp at h
 have hN1e:N=1:=by rw[← hN,hp1];rfl
 have HV11:=Lib.hid (show vb (ps.headD ⟨#[]⟩) 11=11 by rw[hp1,← hsq];exact quit_vb)
 obtain⟨b2,hb2⟩:∃ b2,W1.heap.size=b2:=⟨_,rfl⟩
 have HW2:=Lib.hid (show WsAt b2 ps (W1.alloc (.cells (ps.map Value.string).toArray 9)) by rw[← hb2];exact Row.new W1 (ps.map Value.string) 9)
 have HB2:=Lib.hid (below_alloc W1 (.cells (ps.map Value.string).toArray 9))
 obtain⟨W2,hW2⟩:∃ W2,W1.alloc (.cells (ps.map Value.string).toArray 9)=W2:=⟨_,rfl⟩
 rw[hW2,hb2] at H40
 rw[hW2] at HW2 HB2
 obtain⟨g,hgd⟩:∃ g,W2.heap.size=g:=⟨_,rfl⟩
 have HR3:=Lib.hid (show Row (W2.alloc (.cells (aC zC) 32)) g (cC zC) 32 by rw[← hgd];exact Row.new W2 (cC zC) 32)
 have HB3:=Lib.hid (below_alloc W2 (.cells (aC zC) 32))
 obtain⟨W3,hW3⟩:∃ W3,W2.alloc (.cells (aC zC) 32)=W3:=⟨_,rfl⟩
 rw[hW3] at HR3 HB3
 have hg3:g<W3.heap.size:=HR3.out.lt
 have HW3:=Lib.hid hW3
 clear hW3
 have hb2g:b2<g:=by rw[← hgd];exact Row.lt HW2.out
 have hr0b:r0<b2:=by rw[← hb2];exact HR0.out.lt
 have HWS:=Lib.hid (show WsAt b2 ps W3 from Row.keep HW2.out HB3.out)
 have HRR:=Lib.hid ((HR0.out.keep HB2.out).keep HB3.out)
 have HBW:=Lib.hid (Below.step (Below.step HB0.out HB2.out) HB3.out)
 have HL3:=Lib.hid (hL.keep HBW.out)
 have HBR:=Lib.hid (show Below r0 w W3 by rw[← hr0];exact HBW.out)
 have HGG:=Lib.hid (show 0<W3.heap.size from by have h1:0<w.heap.size:=hL.forms.lt0;have:=HBW.out.size;omega)
 have hg0:g≠0:=by have h1:0<w.heap.size:=hL.forms.lt0;omega
 obtain⟨w0,hw0⟩:∃ w0,ps.headD ⟨#[]⟩=w0:=⟨_,rfl⟩
 have c00:ps[0]? = some w0:=by
  rw[← hw0]
  cases ps with
  | nil=>simp at hN;omega
  | cons a t=>rfl
 have HN:=Lib.hid (And.intro hN (And.intro hN1e (And.intro hw0 c00)))
 clear hmx hg hps hlen hN hp1 hN1e HB2 HW2 HR0 hw0 c00 hsq
 go_enter Tryz.func88,Tryz.ntmps88
 go_wp2_with (go_at_call 90;refine H40.out.mono ?_;rintro e w2 ⟨rfl,rfl⟩)
 rw[HW3.out]
 go_loopw [6] (fun i wr=>∃ m:Nat,1≤m∧m≤12∧i=.int .i64 (m:Int)∧Row wr g (cC { zC with verb:=((vb w0 (m - 1):Nat):Int) }) 32∧One g W3 wr) (fun i _=>13 - (intOf i).toNat)
 case atStart=>exact⟨1,by omega,by omega,rfl,HR3.out,One.refl⟩
 case round =>
  obtain⟨m,hm1,hm12,rfl,hr,ho⟩:=hrel
  have HK:=Lib.hid (And.intro hr ho)
  have hgl:=hr.lt
  by_cases hlt:m<12
  ·have hmi:(m:Int)≤11:=by omega
   have hm0:0≤(m:Int):=by omega
   have hmL:(m:Int)<12:=by omega
   have hNi:(0:Int)<(N:Int):=by omega
   have hNn:0<N:=by omega
   have hmf:m<formsL.length:=hlt
   obtain⟨wdm,hwdm⟩:∃ wdm,formsL[m].1=wdm:=⟨_,rfl⟩
   have HLW:=Lib.hid (HL3.out.forms.keep1 ho (by omega) HGG.out)
   have k3:=HLW.out.w0 hmf
   rw[hwdm] at k3
   have k6:wr.cell? ⟨b2,0,none⟩=some (.string w0):=by
    have h:=(ho.row HWS.out (by omega)).cell 0
    rw[h,List.getElem?_map,HN.out.2.2.2]
    rfl
   obtain⟨bb,hbb⟩:∃ bb,(wdm.toList==w0.toList)=bb:=⟨_,rfl⟩
   have HBB:=Lib.hid hbb
   have HV:=Lib.hid (show vb w0 m=if bb=true then m else vb w0 (m - 1) by
    obtain⟨m',rfl⟩:∃ m',m=m'+1:=⟨m - 1,by omega⟩
    rw[vb,List.getElem?_eq_getElem hmf,Nat.add_sub_cancel]
    show (if bl formsL[m'+1].1=bl w0 then _ else _)=_
    rw[hwdm,← hbb,ByteArray.toList_eq,ByteArray.toList_eq]
    simp)
   clear hr ho hwdm hbb
   go_wp2
   refine AnyO.wp_any (by kernel_rfl) (by kernel_rfl) (pstP [isV (.int .i64 (m:Int)),isV (.pointer (some ⟨0,m * 3,none⟩)),isV (.pointer (some ⟨0,m * 3,none⟩)),isV (.string wdm),isV (.slice (some ⟨b2,0,none⟩) N N),isV (.pointer (some ⟨b2,0,none⟩)),isV (.string w0),isV (.bool bb)]) (MonoL.cons (Mono.v _) (MonoL.cons (Mono.v _) (MonoL.cons (Mono.v _) (MonoL.cons (Mono.v _) (MonoL.cons (Mono.v _) (MonoL.cons (Mono.v _) (MonoL.cons (Mono.v _) (MonoL.cons (Mono.v _) MonoL.nil)))))))) ?_ ?_
   ·intro i hi
    have hi2:i=0∨i=1∨i=2∨i=3∨i=4∨i=5∨i=6∨i=7:=by simp only[List.size_toArray,List.length_cons,List.length_nil] at hi;omega
    clear hi
    rcases hi2 with rfl|rfl|rfl|rfl|rfl|rfl|rfl|rfl
    all_goals
     refine AnyO.T rfl ?_;intro vs u hE hp ac hb K hK
     try have s6:ac.tmps[6]?.getD undef=.int .i64 (m:Int):=by rw[hb.out];kernel_rfl
     try have s17:_=_:=AnyO.sw 17 0 hb hp
     try have s18:_=_:=AnyO.sw 18 1 hb hp
     try have s19:_=_:=AnyO.sw 19 2 hb hp
     try have s4:ac.tmps[4]?.getD undef=.slice (some ⟨b2,0,none⟩) N N:=by rw[hb.out];kernel_rfl
     try have s21:_=_:=AnyO.sw 21 4 hb hp
     try have s22:_=_:=AnyO.sw 22 5 hb hp
     try have s20:_=_:=AnyO.sw 20 3 hb hp
     try have s23:_=_:=AnyO.sw 23 6 hb hp
     have rr_0:=cell_below k3 (Below.step (below_drew _) hE)
     have rr_1:=cell_below k6 (Below.step (below_drew _) hE)
     have rr_2:=HBB.out
     go_simp;exact hK _ _ (Below.refl _ _) rfl
   ·intro vs u hE hp
    have e0:_=_:=hp 0 (by decide)
    have e1:_=_:=hp 1 (by decide)
    have e2:_=_:=hp 2 (by decide)
    have e3:_=_:=hp 3 (by decide)
    have e4:_=_:=hp 4 (by decide)
    have e5:_=_:=hp 5 (by decide)
    have e6:_=_:=hp 6 (by decide)
    have e7:_=_:=hp 7 (by decide)
    clear hp
    have HE:=Lib.hid hE
    clear hE
    rw[puts_range [some 17,some 18,some 19,some 20,some 21,some 22,some 23,some 24] (by kernel_rfl)]
    simp only[putL,Nat.reduceAdd,e0,e1,e2,e3,e4,e5,e6,e7]
    clear e0 e1 e2 e3 e4 e5 e6 e7
    go_simp
    have hru:=HK.out.1.keep HE.out
    have hou:=HK.out.2.trans (One.of_below HE.out)
    have q0:u.cell? ⟨g,0,none⟩=some (.int .i64 ((vb w0 (m - 1):Nat):Int)):=hru.cell 0
    have f0:=hru.fz 0
    have HU:=Lib.hid (And.intro hru hou)
    clear hru hou k3 k6
    cases bb with
    | true =>
     go_wp2
     go_roundw
     case rel =>
      refine⟨m+1,by omega,by omega,by go_num,?_,HU.out.2.trans (One.set _ _)⟩
      have h:=HU.out.1.set 0 (.int .i64 (m:Int))
      rw[cC_set0] at h
      rw[Nat.add_sub_cancel,HV.out,if_pos rfl]
      exact h
     case measure=>simp[intOf] <;> omega
    | false =>
     go_wp2
     go_roundw
     case rel=>exact⟨m+1,by omega,by omega,by go_num,by rw[Nat.add_sub_cancel,HV.out,if_neg (by decide)];exact HU.out.1,HU.out.2⟩
     case measure=>simp[intOf] <;> omega
  ·obtain rfl:m=12:=by omega
   have q0:wr.cell? ⟨g,0,none⟩=some (.int .i64 ((vb w0 11:Nat):Int)):=hr.cell 0
   have hrr:=ho.row HRR.out (show r0≠g by omega)
   have ro:=hrr.rowOk (cC_length zC)
   obtain⟨v,hv⟩:∃ v,vb w0 11=v:=⟨_,rfl⟩
   have hv11:v≤11:=by rw[← hv];exact vb_le w0 11
   rw[hv] at q0
   have HV:=Lib.hid hv
   clear hv
   by_cases hv0:v=0
   ·subst hv0
    have h:=HV11.out
    rw[HN.out.2.2.1,HV.out] at h
    cases h
   ·have hv0i:((v:Int)==0)=false:=by simp;omega
    have hv1:1≤v:=by omega
    have hNi:1≤N:=hN1
    have HV1:=Lib.hid (show v=11 by rw[← HV.out,← HN.out.2.2.1];exact HV11.out)
    have HRO:=Lib.hid hrr
    clear hr ho hrr ro
    have hvf:v<formsL.length:=by show v<12;omega
    obtain⟨fl,hfl⟩:∃ fl,formsL[v].2.1=fl:=⟨_,rfl⟩
    have hflv:flOf v=fl:=by unfold flOf;rw[List.getElem?_eq_getElem hvf];exact hfl
    have hvL:(v:Int)<12:=by omega
    obtain⟨tb,htb⟩:∃ tb,wr.heap.size=tb:=⟨_,rfl⟩
    have htl:tb<(wr.alloc (.cells (aRs g rdL) 170)).heap.size:=by rw[← htb];simp
    have HT4:=Lib.hid (show Row (wr.alloc (.cells (aRs g rdL) 170)) tb (rdL.flatMap (cR g)) 170 by rw[← htb];exact Row.new wr (rdL.flatMap (cR g)) 170)
    have HB4:=Lib.hid (below_alloc wr (.cells (aRs g rdL) 170))
    have HG4:=Lib.hid (HK.out.1.keep HB4.out)
    have HW4:=Lib.hid (show WsAt b2 ps (wr.alloc (.cells (aRs g rdL) 170)) from Row.keep (HK.out.2.row HWS.out (by omega)) HB4.out)
    have HF4:=Lib.hid ((HL3.out.forms.keep1 HK.out.2 hg0 HGG.out).keep HB4.out)
    have HO4:=Lib.hid (HRO.out.keep HB4.out)
    have hgt:g<tb:=by rw[← htb];exact hgl
    have HBX:=Lib.hid (show Below r0 w (wr.alloc (.cells (aRs g rdL) 170)) from (HBR.out.trans (HK.out.2.below (show r0≤g by omega) (show r0≤W3.heap.size by omega))).trans (HB4.out.mono (show r0≤wr.heap.size by omega)))
    have h04:0<(wr.alloc (.cells (aRs g rdL) 170)).heap.size:=HF4.out.lt0
    have hfl0:fl=0:=by rw[← hflv,HV1.out];rfl
    have HFL:=Lib.hid (And.intro hfl hfl0)
    clear hfl hflv hfl0 q0
    have q0:wr.cell? ⟨g,0,none⟩=some (.int .i64 (v:Int)):=by
     have h:wr.cell? ⟨g,0,none⟩=some (.int .i64 ((vb w0 (12 - 1):Nat):Int)):=HK.out.1.cell 0
     rw[h,show (12:Nat) - 1=11 from rfl,HV.out]
    have hNN:N=1:=HN.out.2.1
    go_wp2
    change Code.wp _ _ _ _ (wr.alloc (.cells (aRs g rdL) 170))
    try rw[htb]
    generalize (wr.alloc (.cells (aRs g rdL) 170))=W4 at HT4 HB4 HG4 HW4 HF4 HO4 HBX htl h04 ⊢
    clear q0 hNN
    go_loopw [4,7,47] (fun ws ok i w5=>∃ j:Nat,j≤6∧i=.int .i64 (j:Int)∧ok=.bool true∧ws=.slice (some ⟨b2,0,none⟩) 0 0∧Row w5 g (cC { zC with verb:=(v:Int) }) 32∧One g W4 w5) (fun _ _ i _=>6 - (intOf i).toNat)
    case atStart=>exact⟨0,by omega,rfl,rfl,rfl,by rw[← HV.out];exact HG4.out,One.refl⟩
    case round =>
     obtain⟨j,hj,rfl,rfl,rfl,hr5,ho5⟩:=hrel
     have HK5:=Lib.hid (And.intro hr5 ho5)
     by_cases hlt:j<6
     ·have hjl:j<rdL.length:=hlt
      have hji:(j:Int)<6:=by omega
      obtain⟨⟨a,F⟩,hp⟩:∃ p,rdL[j]=p:=⟨_,rfl⟩
      have hmem:((a,F):Int×Nat)∈rdL:=by rw[← hp];exact List.getElem_mem hjl
      obtain⟨t1,t2⟩:=row_rd (ho5.row HT4.out (show tb≠g by omega)) hjl
      rw[hp] at t2
      have hgl5:=hr5.lt
      obtain⟨t9,ht9⟩:∃ t9,wr.heap.size=t9:=⟨_,rfl⟩
      have HB6:=Lib.hid (below_alloc wr (.cells (aR g (a,F)) 170))
      have HG6:=Lib.hid (hr5.keep HB6.out)
      have HT9:=Lib.hid (show Row (wr.alloc (.cells (aR g (a,F)) 170)) t9 (cR g (a,F)) 170 by rw[← ht9];exact Row.new wr (cR g (a,F)) 170)
      have HW6:=Lib.hid (show WsAt b2 ps (wr.alloc (.cells (aR g (a,F)) 170)) from Row.keep (ho5.row HW4.out (show b2≠g by omega)) HB6.out)
      have HF6:=Lib.hid ((HF4.out.keep1 ho5 hg0 h04).keep HB6.out)
      clear hp hr5 ho5
      go_wp2
      try rw[ht9]
      generalize (wr.alloc (.cells (aR g (a,F)) 170))=W6 at HB6 HG6 HT9 HW6 HF6 ⊢
      have k1:W6.cell? ⟨g,0,none⟩=some (.int .i64 (v:Int)):=HG6.out.cell 0
      have k4:=HF6.out.w1 hvf
      rw[HFL.out.1] at k4
      have k6:W6.cell? ⟨t9,0,none⟩=some (.int .i64 a):=HT9.out.cell 0
      have hz:(bits BinOp.and .i64 fl a==0)=true:=by rw[HFL.out.2];exact quit_z (a,F) hmem
      have HZ:=Lib.hid hz
      clear t1 t2 hz hmem
      refine AnyO.wp_any (by kernel_rfl) (by kernel_rfl) (pstP [isV (.pointer (some ⟨g,0,none⟩)),isV (.int .i64 (v:Int)),isV (.pointer (some ⟨0,v * 3,none⟩)),isV (.pointer (some ⟨0,v * 3+1,none⟩)),isV (.int .i64 fl),isV (.pointer (some ⟨t9,0,none⟩)),isV (.int .i64 a),isV (.int .i64 (bits BinOp.and .i64 fl a)),isV (.bool true)]) (MonoL.cons (Mono.v _) (MonoL.cons (Mono.v _) (MonoL.cons (Mono.v _) (MonoL.cons (Mono.v _) (MonoL.cons (Mono.v _) (MonoL.cons (Mono.v _) (MonoL.cons (Mono.v _) (MonoL.cons (Mono.v _) (MonoL.cons (Mono.v _) MonoL.nil))))))))) ?_ ?_
      ·intro i hi
       have hi2:i=0∨i=1∨i=2∨i=3∨i=4∨i=5∨i=6∨i=7∨i=8:=by simp only[List.size_toArray,List.length_cons,List.length_nil] at hi;omega
       clear hi
       rcases hi2 with rfl|rfl|rfl|rfl|rfl|rfl|rfl|rfl|rfl
       all_goals
        refine AnyO.T rfl ?_;intro vs u hE hp ac hb K hK
        try have s5:ac.tmps[5]?.getD undef=.pointer (some ⟨g,0,none⟩):=by rw[hb.out];kernel_rfl
        try have s51:_=_:=AnyO.sw 51 0 hb hp
        try have s52:_=_:=AnyO.sw 52 1 hb hp
        try have s53:_=_:=AnyO.sw 53 2 hb hp
        try have s54:_=_:=AnyO.sw 54 3 hb hp
        try have s9:ac.tmps[9]?.getD undef=.pointer (some ⟨t9,0,none⟩):=by rw[hb.out];kernel_rfl
        try have s56:_=_:=AnyO.sw 56 5 hb hp
        try have s55:_=_:=AnyO.sw 55 4 hb hp
        try have s57:_=_:=AnyO.sw 57 6 hb hp
        try have s58:_=_:=AnyO.sw 58 7 hb hp
        have rr_0:=cell_below k1 (Below.step (below_drew _) hE)
        have rr_1:=cell_below k4 (Below.step (below_drew _) hE)
        have rr_2:=cell_below k6 (Below.step (below_drew _) hE)
        have rr_3:=HZ.out
        go_simp;exact hK _ _ (Below.refl _ _) rfl
      ·intro vs u hE hp
       have e0:_=_:=hp 0 (by decide)
       have e1:_=_:=hp 1 (by decide)
       have e2:_=_:=hp 2 (by decide)
       have e3:_=_:=hp 3 (by decide)
       have e4:_=_:=hp 4 (by decide)
       have e5:_=_:=hp 5 (by decide)
       have e6:_=_:=hp 6 (by decide)
       have e7:_=_:=hp 7 (by decide)
       have e8:_=_:=hp 8 (by decide)
       clear hp
       have HE:=Lib.hid hE
       clear hE
       rw[puts_range [some 51,some 52,some 53,some 54,some 55,some 56,some 57,some 58,some 59] (by kernel_rfl)]
       simp only[putL,Nat.reduceAdd,e0,e1,e2,e3,e4,e5,e6,e7,e8]
       clear e0 e1 e2 e3 e4 e5 e6 e7 e8
       go_simp
       have HG7:=Lib.hid (HG6.out.keep HE.out)
       have HT7:=Lib.hid (HT9.out.keep HE.out)
       have HW7:=Lib.hid (show WsAt b2 ps u from Row.keep HW6.out HE.out)
       have HO7:=Lib.hid (((HK5.out.2).trans (One.of_below HB6.out)).trans (One.of_below HE.out))
       clear k1 k4 k6
       go_wp2
       go_roundw
       case rel=>exact⟨j+1,by omega,by go_num,rfl,rfl,HG7.out,HO7.out⟩
       case measure=>simp[intOf] <;> omega
     ·obtain rfl:j=6:=by omega
      have hrr5:=ho5.row HO4.out (show r0≠g by omega)
      have ro:=hrr5.rowOk (cC_length zC)
      obtain⟨q1,q2⟩:=hr5.okw (cC_length _)
      change rdA _ _ 39=vC _ at q2
      have HBF:=Lib.hid (HBX.out.trans (ho5.below (show r0≤g by omega) (show r0≤W4.heap.size by omega)))
      clear hr5 ho5 hrr5
      go_wp2
      exact bodyPost_ret (v:=.tuple #[vC { zC with verb:=(v:Int) },.bool true]) (results_c2 (ad:=⟨r0,0,none⟩) rfl rfl (ld_setRow _ ro) rfl) rfl ⟨by rw[HV1.out];rfl,Below.setRow HBF.out (Nat.le_refl _) _⟩
theorem Row.setRow {w:World} {b:Nat} {cs:List Value} {t:TypeId} (h:Row w b cs t) (ds:List Value):Row (w.setRow b ds.toArray) b ds t :=
 setRow_heap w b cs.toArray ds.toArray t (0,0) h
theorem setRow_row (c:Cm) {w:World} {b:Nat} {cs:List Value} (h:Row w b cs 32):Row (w.setRow b (aC c)) b (cC c) 32:=Row.setRow h (cC c)
theorem One.setRow {w:World} (b:Nat) (ds:Array Value):One b w (w.setRow b ds):=by
 refine⟨rfl,rfl,rfl,by simp[World.setRow],fun k _ hk=>?_⟩
 show (w.heap.modify b _)[k]? = _
 rw[Array.getElem?_modify,if_neg (fun e=>hk e.symm)]
set_option maxRecDepth 100000 in
set_option maxHeartbeats 6400000 in
theorem decode_quit (w:World) (hL:Laid w):Calls Tryz.prog 77 #[.string quitT] w fun e w'=>e=.returned (.tuple #[vC cQuit,.int .i64 6,.int .i64 0])∧Below w.heap.size w w':=by
 obtain⟨s,hsq⟩:∃ s,quitT=s:=⟨_,rfl⟩
 rw[hsq]
 obtain⟨r0,hr0⟩:∃ r0,w.heap.size=r0:=⟨_,rfl⟩
 have HB0:=Lib.hid (below_alloc w (.cells (aC zC) 32))
 have HR0:=Lib.hid (show Row (w.alloc (.cells (aC zC) 32)) r0 (cC zC) 32 by rw[← hr0];exact Row.new w (cC zC) 32)
 obtain⟨W1,hW1⟩:∃ W1,w.alloc (.cells (aC zC) 32)=W1:=⟨_,rfl⟩
 rw[hW1] at HB0 HR0
 have HL1:=Lib.hid (hL.keep HB0.out)
 have ro:=HR0.out.rowOk (cC_length zC)
 have HBR:=Lib.hid (show Below r0 w W1 by rw[← hr0];exact HB0.out)
 have H29:=Lib.hid (fun w1=>Tryz.strings_IndexByte s 10 w1)
 obtain⟨j,hj4⟩:∃ j:Nat,4=j:=⟨_,rfl⟩
 have hi2:Lib.indexByte s.data.toList (10:Int).toNat.toUInt8=((j+1:Nat):Int):=by rw[← hsq,← hj4];decide +kernel
 rw[hi2] at H29
 have hks:j+1<s.size:=by rw[← hsq,← hj4];decide
 have hki:¬ 201<((j+1:Nat):Int):=by omega
 have hj:j<s.size:=by omega
 have h13:s[j]=13:=by subst hsq hj4;rfl
 have e13:(((s[j].toNat:Nat):Int) != 13)=false:=by
  unfold bne
  rw[show (13:Int)=(((13:UInt8).toNat:Nat):Int) from rfl,byte_is]
  simpa using h13
 have hx:s.extract 0 j=quitS:=by rw[← hsq,← hj4];decide +kernel
 obtain⟨c1,hc1⟩:∃ c1,cQuit=c1:=⟨_,rfl⟩
 obtain⟨v,hv⟩:∃ v:Nat,11=v:=⟨_,rfl⟩
 have hcv:c1.verb=(v:Int):=by rw[← hc1,← hv];rfl
 have hvf:v<formsL.length:=by rw[← hv];decide
 obtain⟨fl,hfl⟩:∃ fl,formsL[v].2.1=fl:=⟨_,rfl⟩
 have hfl0:fl=0:=by subst hv;rw[← hfl];rfl
 have hz:(bits BinOp.and .i64 fl 64==0)=true:=by rw[hfl0];decide
 have hvL:(v:Int)<12:=by omega
 have hr0f:r0≠0:=by have:=hL.forms.lt0;omega
 have H30:=Lib.hid (fun w1 (hl:Laid w1)=>parse_quit w1 hl)
 rw[← hx,hc1] at H30
 have HV:=Lib.hid (And.intro hcv (And.intro hfl hfl0))
 have HC1:=Lib.hid hc1
 have HJ:=Lib.hid (show j=4 from hj4.symm)
 clear hcv hfl hfl0 hc1 hj4 hx h13 hi2 hL hsq hv
 go_enter Tryz.func77,Tryz.ntmps77
 go_wp2_with (first
  | (go_at_call 87;refine (H29.out _).mono ?_;rintro e w1 ⟨rfl,rfl⟩)
  | (go_at_call 88;refine (H30.out _ HL1.out).mono ?_;rintro e w2 ⟨rfl,hb2⟩;have hrow:=HR0.out.keep hb2;have ro1:=hrow.rowOk (cC_length zC);have hrow3:=setRow_row c1 hrow;have ro3:=hrow3.rowOk (cC_length c1);have c0:(w2.setRow r0 (aC c1)).cell? ⟨r0,0,none⟩=some (.int .i64 (v:Int)):=(by rw[← HV.out.1];exact hrow3.cell 0);have hf2:=(HL1.out.keep hb2).forms;have hf3:=hf2.keep1 (One.setRow r0 (aC c1)) hr0f hf2.lt0;have cf:=hf3.w1 hvf;rw[HV.out.2.1] at cf;obtain⟨q1,q2⟩:=hrow3.okw (cC_length c1);change rdA _ _ 39=vC c1 at q2;have H3:=Lib.hid (And.intro hb2 (And.intro hrow3 hf3));clear hb2 hrow hrow3 hf2 hf3))
 exact bodyPost_ret (v:=.tuple #[vC c1,.int .i64 ((j:Int)+1+1),.int .i64 0]) (results_c3 (ad:=⟨r0,0,none⟩) rfl rfl (ld_setRow c1 ro3) rfl rfl) rfl ⟨by rw[← HC1.out,HJ.out];rfl,(Below.setRow (Below.setRow (HB0.out.trans (H3.out.1.mono HB0.out.size)) (Nat.le_of_eq hr0) _) (Nat.le_of_eq hr0) _)⟩
end
section
open Go.RowKit
def cHello:Cm:=⟨1,⟨#[97,98]⟩,zI,0,0,7,0,⟨#[]⟩⟩
theorem isE (s:ByteArray):s.toList.isEmpty=decide (s.size=0):=by
 rw[ByteArray.toList_eq,Bool.eq_iff_iff,List.isEmpty_iff,decide_eq_true_eq,← bl_length]
 exact List.length_eq_zero_iff.symm
theorem chk_hello:chk cHello=0:=by
 unfold chk chkF psC
 simp only[isE]
 decide +kernel
theorem itoa7:Lib.itoa 7=[55]:=by
 rw[show (7:Int)=((7:Nat):Int) from rfl,Lib.itoa_nonneg,Lib.decDigits,dif_pos (by decide)]
 decide
theorem words_hello:(wordsC (formC cHello).1 (formC cHello).2.1 (wdsC cHello)).map bl=[[104,101,108,108,111],[97,98],Lib.itoa 7]:=by rfl
theorem enc_hello:encT cHello=[104,101,108,108,111,32,97,98,32,55,13,10]:=by
 unfold encT lineC
 rw[if_neg (by rw[chk_hello];decide),words_hello,itoa7]
 decide +kernel
theorem stuff_ex:stE [97,10,46,98]=0∧stT [97,10,46,98]=[97,13,10,46,46,98,13,10,46,13,10]:=by decide +kernel
theorem hello_ok:cHello.ok:=⟨by decide,by decide,⟨by decide,by decide⟩,⟨by decide,by decide⟩,⟨by decide,by decide⟩,⟨by decide,by decide⟩⟩
set_option maxRecDepth 100000 in
set_option maxHeartbeats 1600000 in
theorem known11 (w:World) (hL:Laid w):Calls Tryz.prog 62 #[] w fun e w'=>e=.returned (.bool true)∧Below w.heap.size w w':=by
 have H15:=Lib.hid (encode15 cHello w hL hello_ok)
 rw[chk_hello,enc_hello] at H15
 obtain⟨dq,hq⟩:∃ c,cQuit=c:=⟨_,rfl⟩
 have hv:dq.verb=11:=by rw[← hq];rfl
 have H12:=Lib.hid (fun w1 (hl:Laid w1)=>decode_quit w1 hl)
 rw[hq,show quitT=⟨#[113,117,105,116,13,10,120]⟩ from rfl] at H12
 have H17:=Lib.hid (fun w1 (hm:Laid1 w1)=>stuff17 ⟨#[97,10,46,98]⟩ w1 (by decide) hm)
 rw[show bl (⟨#[97,10,46,98]⟩:ByteArray)=[97,10,46,98] from rfl,stuff_ex.1,stuff_ex.2] at H17
 have HL:=Lib.hid hL
 have HV:=Lib.hid hv
 clear hL hv hq
 go_enter Tryz.func62,Tryz.ntmps62
 go_wp2_with (first
  | (go_at_call 76;refine H15.out.mono ?_;rintro e w1 ⟨t,rfl,ht,hb1⟩;have h1:(t.toList==[104,101,108,108,111,32,97,98,32,55,13,10])=true:=(by rw[ByteArray.toList_eq,show t.data.toList=_ from ht];decide);have H1:=Lib.hid hb1;clear ht hb1)
  | (go_at_call 77;refine (H12.out _ (HL.out.keep H1.out)).mono ?_;rintro e w2 ⟨rfl,hb2⟩;have c0:(w2.alloc (.cells (aC dq) 32)).cell? ⟨w2.heap.size,0,none⟩=some (.int .i64 11):=(by rw[← HV.out];exact (Row.new w2 (cC dq) 32).cell 0);have H2:=Lib.hid (And.intro hb2 c0);clear hb2 c0)
  | (go_at_call 78;refine (H17.out _ ((((HL.out.keep H1.out).keep H2.out.1).keep (below_alloc _ _)).max)).mono ?_;rintro e w3 ⟨u,rfl,hu,hb3⟩;have h3:(u.toList==[97,13,10,46,46,98,13,10,46,13,10])=true:=(by rw[ByteArray.toList_eq,show u.data.toList=_ from hu];decide);have c0:=cell_below H2.out.2 hb3;have H3:=Lib.hid hb3;clear hu hb3))
 go_ret
 exact⟨rfl,Below.step (Below.step (Below.step H1.out H2.out.1) (below_alloc _ _)) H3.out⟩
end
end Go.Proofs.YtgojaelkdpabkaaGreatDoor
