/- transfer.NewSender; Sender.want; Sender.end. -/
import Derived.Test.YtdkjgcfhepplbaaGreatDoorMSnDrop
namespace Go.Proofs.YtdkjgcfhepplbaaGreatDoor.Sn
open Go.RowKit
set_option maxRecDepth 100000 in
set_option maxHeartbeats 800000 in
theorem new51 (x:Id) (t:ByteArray) (ch fr:Int) (w:World) (ht:t.size≤65536) (h1:1≤ch) (h2:ch≤4096) (h3:0≤fr) (h4:fr≤(t.size:Int)) :
  Calls Tryz.prog 111 #[vI x,.string t,.int .i64 ch,.int .i64 fr] w fun e w'=>∃ g,e=.returned (.tuple #[.pointer (some ⟨g,0,none⟩),.int .i64 0])∧w.heap.size≤g∧Row w' g (cT (x,t) ch fr false) 159∧Below w.heap.size w w':=by
 have q1:¬ (t.size:Int) > 65536:=by omega
 have q2:¬ ch<1:=by omega
 have q3:¬ ch > 4096:=by omega
 have q4:¬ fr<0:=by omega
 have q5:¬ fr > (t.size:Int):=by omega
 go_enter Tryz.func111,Tryz.ntmps111
 go_wp2
 go_ret2
 refine⟨w.heap.size+1,rfl,by omega,?_,Below.step (below_alloc _ _) (below_alloc _ _)⟩
 have:=Row.new (w.alloc (.cells (aI x) 39)) (cT (x,t) ch fr false) 159
 rwa[show (w.alloc (.cells (aI x) 39)).heap.size=w.heap.size+1 by simp] at this
def isNT (w:World) (cs:List Value) (v:Value) (u:World):Prop:=∃ g,v=.tuple #[.pointer (some ⟨g,0,none⟩),.int .i64 0]∧w.heap.size≤g∧Row u g cs 159
def isPT (w:World) (cs:List Value) (v:Value) (u:World):Prop:=∃ g,v=.pointer (some ⟨g,0,none⟩)∧w.heap.size≤g∧Row u g cs 159
theorem _root_.Go.Proofs.YtdkjgcfhepplbaaGreatDoor.Mono.nt (w:World) (cs:List Value):Mono (isNT w cs):=fun _ _ _ hb ⟨g,e,h,hr⟩=>⟨g,e,h,hr.keep hb⟩
theorem _root_.Go.Proofs.YtdkjgcfhepplbaaGreatDoor.Mono.pt (w:World) (cs:List Value):Mono (isPT w cs):=fun _ _ _ hb ⟨g,e,h,hr⟩=>⟨g,e,h,hr.keep hb⟩
theorem Rp.wanted {b:Nat} {ch:Int} {s:St} {F:List Nat} {vw vo:Value} {q:Option Addr} {w u:World} {g:Nat} {fr:Int} (h:Rp b ch s F vw vo q w) (hb:Below w.heap.size w u) (hg:w.heap.size≤g) (hr:Row u g (cT s.cur ch fr false) 159) :
  ∃ F',Rep b ch { s with state:=2,snd:=some (fr,false) } F' ((u.setCell ⟨b,36,none⟩ (.pointer (some ⟨g,0,none⟩))).setCell ⟨b,2,none⟩ (.int .i64 2))∧Kp F F' w ((u.setCell ⟨b,36,none⟩ (.pointer (some ⟨g,0,none⟩))).setCell ⟨b,2,none⟩ (.int .i64 2)):=by
 have hlt:=h.row.lt
 have hrow:=((h.row.keep hb).set 36 (.pointer (some ⟨g,0,none⟩)))
 rw[cSn_set36] at hrow
 have hrow2:=hrow.set 2 (.int .i64 2)
 rw[cSn_set2] at hrow2
 have hk:∀ k,k≠b→((u.setCell ⟨b,36,none⟩ (.pointer (some ⟨g,0,none⟩))).setCell ⟨b,2,none⟩ (.int .i64 2)).heap[k]? = u.heap[k]?:=fun k hk=>(heap_set_other _ b 2 _ k hk).trans (heap_set_other u b 36 _ k hk)
 refine⟨g :: F,⟨vw,vo,some ⟨g,0,none⟩,⟨hrow2,(h.ow.keep hb).same fun k e=>hk k (h.wF k e).2.1,(h.oo.keep hb).same fun k e=>hk k (h.oF k e).2,fun e=>(by cases e),fun t ht=>?_,List.mem_cons_of_mem _ h.bF,fun k e=>⟨List.mem_cons_of_mem _ (h.wF k e).1,(h.wF k e).2⟩,fun k e=>⟨List.mem_cons_of_mem _ (h.oF k e).1,(h.oF k e).2⟩⟩⟩,⟨hb.os,hb.tape,hb.output,by have:=hb.size;simpa[World.setCell] using this,fun k h1 h2=>⟨fun hm=>?_,(hk k (fun e=>h2 (e▸h.bF))).trans (hb.block k h1)⟩⟩⟩
 ·injection ht with ht
  subst ht
  refine⟨g,rfl,by omega,by simp,hr.same (hk g (by omega)),fun e=>?_,fun e=>?_⟩
  ·have:=(h.ow.lt g e).2;omega
  ·have:=(h.oo.lt g e).2;omega
 ·rcases List.mem_cons.1 hm with e|hm
  ·omega
  ·exact h2 hm
set_option maxRecDepth 100000 in
set_option maxHeartbeats 1600000 in
theorem want42 (b:Nat) (ch:Int) (s:St) (F:List Nat) (x:Id) (t:ByteArray) (fr:Int) (w:World) (h:Rep b ch s F w) (hcur:s.cur=(x,t)) (ht:t.size≤65536) (h1:1≤ch) (h2:ch≤4096) (h3:0≤fr) (h4:fr≤(t.size:Int)) :
  Calls Tryz.prog 77 #[.pointer (some ⟨b,0,none⟩),.int .i64 fr] w fun e w'=>e=.returned (.int .i64 0)∧∃ F',Rep b ch { s with state:=2,snd:=some (fr,false) } F' w'∧Kp F F' w w':=by
 obtain⟨vw,vo,q,h⟩:=h
 have k0:=h.c0
 have r2:=h.c2
 have k35:=h.c35
 have k36:=h.c36
 obtain⟨k3,k3'⟩:=h.id
 rw[hcur] at k35 k3'
 have hlt:=h.row.lt
 have HX:=Lib.hid h
 have HC:=Lib.hid hcur
 generalize s.state=st at r2
 clear h hcur
 go_enter Tryz.func77,Tryz.ntmps77
 go_wp2_with fail
 refine AnyO.wp_any_tail 22 (by kernel_rfl) (by kernel_rfl) (by kernel_rfl) (by kernel_rfl) (by kernel_rfl) (by kernel_rfl) (pstP [isV (.pointer (some ⟨b,0,none⟩)),isV (.pointer (some ⟨b,0,none⟩)),isV (.pointer (some ⟨b,3,none⟩)),isV (.pointer (some ⟨b,3,none⟩)),isV (.pointer (some ⟨b,3,none⟩)),isV (vI x),isV (.pointer (some ⟨b,0,none⟩)),isV (.pointer (some ⟨b,0,none⟩)),isV (.pointer (some ⟨b,3,none⟩)),isV (.pointer (some ⟨b,3,none⟩)),isV (.pointer (some ⟨b,35,none⟩)),isV (.string t),isV (.pointer (some ⟨b,0,none⟩)),isV (.pointer (some ⟨b,0,none⟩)),isV (.pointer (some ⟨b,0,none⟩)),isV (.int .i64 ch),isV (.int .i64 fr),isNT w (cT (x,t) ch fr false),isNT w (cT (x,t) ch fr false),isPT w (cT (x,t) ch fr false),isV (.int .i64 0),isPT w (cT (x,t) ch fr false)]) (MonoL.cons (Mono.v _) (MonoL.cons (Mono.v _) (MonoL.cons (Mono.v _) (MonoL.cons (Mono.v _) (MonoL.cons (Mono.v _) (MonoL.cons (Mono.v _) (MonoL.cons (Mono.v _) (MonoL.cons (Mono.v _) (MonoL.cons (Mono.v _) (MonoL.cons (Mono.v _) (MonoL.cons (Mono.v _) (MonoL.cons (Mono.v _) (MonoL.cons (Mono.v _) (MonoL.cons (Mono.v _) (MonoL.cons (Mono.v _) (MonoL.cons (Mono.v _) (MonoL.cons (Mono.v _) (MonoL.cons (Mono.nt _ _) (MonoL.cons (Mono.nt _ _) (MonoL.cons (Mono.pt _ _) (MonoL.cons (Mono.v _) (MonoL.cons (Mono.pt _ _) MonoL.nil)))))))))))))))))))))) ?_ ?_
 ·intro i hi
  have hi2:i=17∨i=18∨i=19∨i=20∨i=21∨i=0∨i=1∨i=2∨i=3∨i=4∨i=5∨i=6∨i=7∨i=8∨i=9∨i=10∨i=11∨i=12∨i=13∨i=14∨i=15∨i=16:=by omega
  clear hi
  rcases hi2 with rfl|rfl|rfl|rfl|rfl|rfl|rfl|rfl|rfl|rfl|rfl|rfl|rfl|rfl|rfl|rfl|rfl|rfl|rfl|rfl|rfl|rfl
  ·refine AnyO.S rfl [5,11,15,16] ?_;intro vs u hE hp ac hb K hK
   have s13:_=_:=AnyO.sw 13 5 hb hp
   have s19:_=_:=AnyO.sw 19 11 hb hp
   have s23:_=_:=AnyO.sw 23 15 hb hp
   have s24:_=_:=AnyO.sw 24 16 hb hp
   go_simp
   go_at_call 111
   refine (new51 x t ch fr u ht h1 h2 h3 h4).mono ?_
   rintro e w2 ⟨g,rfl,hg,hrow,hb2⟩
   exact hK _ _ hb2 ⟨g,rfl,Nat.le_trans (Below.step (below_drew _) hE).size hg,hrow⟩
  ·refine AnyO.S rfl [17] ?_;intro vs u hE hp ac hb K hK
   obtain⟨g25,e25,h25⟩:=hp.out 17 (by decide)
   have s25:ac.tmps[25]?.getD undef=.tuple #[.pointer (some ⟨g25,0,none⟩),.int .i64 0]:=by rw[hb.out];exact (show _=vs 17 by kernel_rfl).trans e25
   clear e25
   go_simp
   exact hK _ _ (Below.refl _ _) ⟨g25,rfl,h25⟩
  ·refine AnyO.S rfl [18] ?_;intro vs u hE hp ac hb K hK
   obtain⟨g7,e7,h7⟩:=hp.out 18 (by decide)
   have s7:ac.tmps[7]?.getD undef=.tuple #[.pointer (some ⟨g7,0,none⟩),.int .i64 0]:=by rw[hb.out];exact (show _=vs 18 by kernel_rfl).trans e7
   clear e7
   go_simp
   exact hK _ _ (Below.refl _ _) ⟨g7,rfl,h7⟩
  ·refine AnyO.S rfl [18] ?_;intro vs u hE hp ac hb K hK
   obtain⟨g7,e7,h7⟩:=hp.out 18 (by decide)
   have s7:ac.tmps[7]?.getD undef=.tuple #[.pointer (some ⟨g7,0,none⟩),.int .i64 0]:=by rw[hb.out];exact (show _=vs 18 by kernel_rfl).trans e7
   clear e7
   go_simp;exact hK _ _ (Below.refl _ _) rfl
  ·refine AnyO.S rfl [19,17,0,1,2,3,4,5,6,7,8,9,10,11,12,13,14,15,16,17,18,19] ?_;intro vs u hE hp ac hb K hK
   obtain⟨g26,e26,h26⟩:=hp.out 19 (by decide)
   have s26:ac.tmps[26]?.getD undef=.pointer (some ⟨g26,0,none⟩):=by rw[hb.out];exact (show _=vs 19 by kernel_rfl).trans e26
   clear e26
   go_simp
   exact hK _ _ (Below.refl _ _) ⟨g26,rfl,h26⟩
  all_goals
   refine AnyO.T rfl ?_;intro vs u hE hp ac hb K hK
   try have s0:ac.tmps[0]?.getD undef=.pointer (some ⟨b,0,none⟩):=by rw[hb.out];kernel_rfl
   try have s8:_=_:=AnyO.sw 8 0 hb hp
   try have s9:_=_:=AnyO.sw 9 1 hb hp
   try have s10:_=_:=AnyO.sw 10 2 hb hp
   try have s11:_=_:=AnyO.sw 11 3 hb hp
   try have s12:_=_:=AnyO.sw 12 4 hb hp
   try have s14:_=_:=AnyO.sw 14 6 hb hp
   try have s15:_=_:=AnyO.sw 15 7 hb hp
   try have s16:_=_:=AnyO.sw 16 8 hb hp
   try have s17:_=_:=AnyO.sw 17 9 hb hp
   try have s18:_=_:=AnyO.sw 18 10 hb hp
   try have s20:_=_:=AnyO.sw 20 12 hb hp
   try have s21:_=_:=AnyO.sw 21 13 hb hp
   try have s22:_=_:=AnyO.sw 22 14 hb hp
   try have s1:ac.tmps[1]?.getD undef=.int .i64 fr:=by rw[hb.out];kernel_rfl
   have rr_0:=okA_below k3 hlt (Below.step (below_drew _) hE)
   rw[k3'] at rr_0
   obtain⟨rr1_0,rr2_0⟩:=rr_0
   have rr_1:=cell_below k35 (Below.step (below_drew _) hE)
   have rr_2:=cell_below k0 (Below.step (below_drew _) hE)
   go_simp
   exact hK _ _ (Below.refl _ _) rfl
 ·intro vs u hE hp
  have e0:_=_:=hp 0 (by decide)
  have e1:_=_:=hp 1 (by decide)
  have e2:_=_:=hp 2 (by decide)
  have e3:_=_:=hp 3 (by decide)
  have e4:_=_:=hp 4 (by decide)
  have e5:_=_:=hp 5 (by decide)
  have e6:_=_:=hp 6 (by decide)
  have e7:_=_:=hp 7 (by decide)
  have e8:_=_:=hp 8 (by decide)
  have e9:_=_:=hp 9 (by decide)
  have e10:_=_:=hp 10 (by decide)
  have e11:_=_:=hp 11 (by decide)
  have e12:_=_:=hp 12 (by decide)
  have e13:_=_:=hp 13 (by decide)
  have e14:_=_:=hp 14 (by decide)
  have e15:_=_:=hp 15 (by decide)
  have e16:_=_:=hp 16 (by decide)
  obtain⟨g_17,e17,h_17⟩:=show isNT w (cT (x,t) ch fr false) (vs 17) u from hp 17 (by decide)
  obtain⟨g_18,e18,h_18⟩:=show isNT w (cT (x,t) ch fr false) (vs 18) u from hp 18 (by decide)
  obtain⟨g_19,e19,h_19⟩:=show isPT w (cT (x,t) ch fr false) (vs 19) u from hp 19 (by decide)
  have e20:_=_:=hp 20 (by decide)
  obtain⟨g_21,e21,h_21⟩:=show isPT w (cT (x,t) ch fr false) (vs 21) u from hp 21 (by decide)
  clear hp
  have HE:=Lib.hid (And.intro hE h_21)
  have hge:=h_21.1
  clear hE h_17 h_18 h_19 h_21
  have z2:=cell_below r2 HE.out.1
  have z36:=cell_below k36 HE.out.1
  have zf:=(HX.out.row.keep HE.out.1).fz 2
  have zf36:=(HX.out.row.keep HE.out.1).fz 36
  rw[puts_range [some 8,some 9,some 10,some 11,some 12,some 13,some 14,some 15,some 16,some 17,some 18,some 19,some 20,some 21,some 22,some 23,some 24,some 25,some 7,some 26,some 27,some 5] (by kernel_rfl)]
  simp only[putL,Nat.reduceAdd,List.drop_succ_cons,List.drop_zero,e0,e1,e2,e3,e4,e5,e6,e7,e8,e9,e10,e11,e12,e13,e14,e15,e16,e17,e18,e19,e20,e21]
  clear e0 e1 e2 e3 e4 e5 e6 e7 e8 e9 e10 e11 e12 e13 e14 e15 e16 e17 e18 e19 e20 e21
  go_simp
  go_wp2
  go_ret
  exact⟨rfl,Rp.wanted HX.out HE.out.1 HE.out.2.1 (by rw[HC.out];exact HE.out.2.2)⟩
def newO (w1:World) (ys:List Out) (v:Value) (u:World):Prop:=∃ g,v=.slice (some ⟨g,0,none⟩) 1 1∧w1.heap.size≤g∧Row u g (ys.flatMap cO) 49
theorem newO.mk {w1:World} (u:World) {a:Out} (h:w1.heap.size≤u.heap.size):newO w1 [a] (.slice (some ⟨u.heap.size,0,none⟩) 1 1) (u.alloc (.cells (aOs [a]) 49)):=⟨_,rfl,h,Row.new u _ 49⟩
def ApO (vw:Value) (w1:World) (l:List Out) (v:Value) (u:World):Prop :=
 Own u 0 49 34 cO v l∧(v.ownBlock=vw.ownBlock∨∃ g,v.ownBlock=some g∧w1.heap.size≤g)∧w1.heap.size≤u.heap.size∧(u.os=w1.os∧u.tape=w1.tape∧u.output=w1.output)∧∀ k,k<w1.heap.size→vw.ownBlock≠some k→u.heap[k]? = w1.heap[k]?
theorem ApO.mk {vw v2:Value} {w1 u u2:World} {l:List Out} (hB:Below w1.heap.size w1 u) (ho:Own u2 0 49 34 cO v2 l) (hg:u.grownBy u2 vw.ownBlock) (hb:v2.ownBlock=vw.ownBlock∨v2.ownBlock=some u.heap.size):ApO vw w1 l v2 u2 :=
 ⟨ho,hb.imp id fun e=>⟨_,e,hB.size⟩,Nat.le_trans hB.size hg.size,⟨hg.os.trans hB.os,hg.tape.trans hB.tape,hg.output.trans hB.output⟩,fun k hk hne=>(hg.block k (Nat.lt_of_lt_of_le hk hB.size) (fun e=>hne e.symm)).trans (hB.block k hk)⟩
theorem Rp.ended {b:Nat} {ch:Int} {s:St} {F:List Nat} {vw vo v:Value} {q:Option Addr} {w1 u:World} {l:List Out} (h:Rp b ch s F vw vo q w1) (ha:ApO vo w1 l v u) (U1 U2 U3:World) (h1:U1=u.setCell ⟨b,37,none⟩ v) (h2:U2=stD U1 b 3 (cD zA none)) (h3:U3=U2.setCell ⟨b,2,none⟩ (.int .i64 0)) :
  (u.cell? ⟨b,37,none⟩=some vo∧u.frozen? ⟨b,37,none⟩=false)∧stOk U1 b 3 34=true∧(U2.cell? ⟨b,2,none⟩=some (.int .i64 s.state)∧U2.frozen? ⟨b,2,none⟩=false)∧∃ F',Rep b ch ⟨s.wait,0,zA,l,none⟩ F' U3∧Kp F F' w1 U3:=by
 have hbo:vo.ownBlock≠some b:=fun e=>(h.oF b e).2 rfl
 obtain⟨ho,hor,hsz,hos,hk⟩:=ha
 have far:∀ k,k<w1.heap.size→vo.ownBlock≠some k→v.ownBlock≠some k:=fun k hk hne=>by
  rcases hor with e|⟨g,e,hg⟩
  ·rw[e];exact hne
  ·rw[e];intro e2;injection e2 with e2;omega
 have hlt:=h.row.lt
 have hbv:=far b hlt hbo
 have row0:=h.row.same (hk b hlt hbo)
 have row1:Row U1 b (cSn ch vw s.state s.cur q v) 72:=by rw[h1];have:=row0.set 37 v;rwa[cSn_set37] at this
 have row2:Row U2 b (cSn ch vw s.state zA none v) 72:=by rw[h2];exact row_del row1 zA none
 have row3:Row U3 b (cSn ch vw 0 zA none v) 72:=by rw[h3];exact row2.set 2 (.int .i64 0)
 have o1:∀ j,j≠b→U1.heap[j]? = u.heap[j]?:=fun j hj=>by rw[h1];exact heap_set_other u b 37 v j hj
 have o2:∀ j,j≠b→U2.heap[j]? = U1.heap[j]?:=fun j hj=>by rw[h2];exact heap_stD_other U1 b 3 _ j hj
 have o3:∀ j,j≠b→U3.heap[j]? = U2.heap[j]?:=fun j hj=>by rw[h3];exact heap_set_other U2 b 2 _ j hj
 have oo:∀ j,j≠b→U3.heap[j]? = u.heap[j]?:=fun j hj=>(o3 j hj).trans ((o2 j hj).trans (o1 j hj))
 have hon:Only b u U3:=by
  subst h3 h2 h1
  exact ((Only.setCell b 37 u v).trans (Only.stD _ 3 _)).trans (Only.setCell b 2 _ _)
 refine⟨⟨(row0.cell 37).trans (cSn_hi _ _ _ _ _ _ 2),row0.fz 37⟩,Row.ok _ row1 3 34 (by rw[cSn_length];omega),⟨row2.cell 2,row2.fz 2⟩,?_⟩
 obtain⟨F',hF1,hF2,hF3⟩:∃ F':List Nat,(∀ k∈F,k∈F')∧(∀ k,v.ownBlock=some k→k∈F')∧(∀ k,k<w1.heap.size→k∉F→k∉F'):=by
  cases hv:v.ownBlock with
  | none=>exact⟨F,fun _ h=>h,fun _ e=>(by cases e),fun _ _ h=>h⟩
  | some g =>
   refine⟨g :: F,fun _ h=>List.mem_cons_of_mem _ h,fun k e=>by injection e with e;subst e;simp,fun k hk1 hk2 hm=>?_⟩
   rcases List.mem_cons.1 hm with e|hm
   ·subst e
    rcases hor with e|⟨g',e,hg'⟩
    ·exact hk2 (h.oF k (by rw[← e,hv])).1
    ·rw[hv] at e;injection e with e;omega
   ·exact hk2 hm
 refine⟨F',⟨vw,v,none,⟨row3,?_,?_,fun _=>rfl,fun t ht=>(by cases ht),hF1 b h.bF,fun k e=>⟨hF1 k (h.wF k e).1,(h.wF k e).2.1,far k (h.ow.lt k e).2 (h.wF k e).2.2⟩,fun k e=>⟨hF2 k e,fun e2=>hbv (e2▸e)⟩⟩⟩,⟨hon.os.trans hos.1,hon.tape.trans hos.2.1,hon.output.trans hos.2.2,Nat.le_trans hsz hon.size,fun k hk1 hk2=>⟨hF3 k hk1 hk2,(oo k (fun e=>hk2 (e▸h.bF))).trans (hk k hk1 fun e=>hk2 (h.oF k e).1)⟩⟩⟩
 ·exact h.ow.same fun k e=>(oo k (h.wF k e).2.1).trans (hk k (h.ow.lt k e).2 (h.wF k e).2.2)
 ·exact ho.same fun k e=>oo k (fun e2=>hbv (e2▸e))
set_option maxRecDepth 100000 in
set_option maxHeartbeats 1600000 in
theorem end43 (b:Nat) (ch:Int) (s:St) (F:List Nat) (x:Id) (t:ByteArray) (r cd:Int) (w:World) (h:Rep b ch s F w) (hcur:s.cur=(x,t)) (hm:s.outs.length≤100000) :
  Calls Tryz.prog 78 #[.pointer (some ⟨b,0,none⟩),.int .i64 r,.int .i64 cd] w fun e w'=>e=.returned (.tuple #[])∧∃ F',Rep b ch ⟨s.wait,0,zA,s.outs++[(x,r,cd)],none⟩ F' w'∧Kp F F' w w':=by
 obtain⟨vw,vo,q,h⟩:=h
 have r37:=h.c37
 obtain⟨k3,k3'⟩:=h.id
 rw[hcur] at k3'
 have hlt:=h.row.lt
 obtain⟨A,c,hvo,hc,hsl⟩:=h.oo.sl
 subst hvo
 have HX:=Lib.hid h
 generalize hn:s.outs.length=n at *
 clear h hsl hcur
 go_enter Tryz.func78,Tryz.ntmps78
 go_wp2_with fail
 refine AnyO.wp_any_tailI 16 (by kernel_rfl) (by kernel_rfl) (by kernel_rfl) (by kernel_rfl) (by kernel_rfl) (by kernel_rfl) (AnyO.InvA 15 14 (AnyO.pvL [some (.pointer (some ⟨b,0,none⟩)),some (.pointer (some ⟨b,0,none⟩)),some (.pointer (some ⟨b,0,none⟩)),some (.pointer (some ⟨b,37,none⟩)),some (.slice A n c),some (.pointer (some ⟨b,0,none⟩)),some (.pointer (some ⟨b,0,none⟩)),some (.pointer (some ⟨b,3,none⟩)),some (.pointer (some ⟨b,3,none⟩)),some (.pointer (some ⟨b,3,none⟩)),some (vI x),some (.int .i64 r),some (.int .i64 cd),some (vO (x,r,cd)),none,none]) (w) (newO w [(x,r,cd)]) (ApO (.slice A n c) w (s.outs++[(x,r,cd)]))) (AnyO.InvA.start (by decide)) ?_ ?_
 ·intro i hi
  have hi2:i=0∨i=1∨i=2∨i=3∨i=4∨i=5∨i=6∨i=7∨i=8∨i=9∨i=10∨i=11∨i=12∨i=13∨i=14∨i=15:=by omega
  clear hi
  rcases hi2 with rfl|rfl|rfl|rfl|rfl|rfl|rfl|rfl|rfl|rfl|rfl|rfl|rfl|rfl|rfl|rfl
  ·refine AnyO.StepI.mk rfl [] (by kernel_rfl) ?_
   intro D vs u hI h0 hC hp ac hb K hK
   have s0:ac.tmps[0]?.getD undef=.pointer (some ⟨b,0,none⟩):=by rw[hb];kernel_rfl
   rw[if_pos (AnyO.wanted_none rfl)]
   clear hb
   go_simp
   exact hK _ _ (AnyO.InvA.pure hI (by decide) (by decide) rfl)
  ·refine AnyO.StepI.mk rfl [] (by kernel_rfl) ?_
   intro D vs u hI h0 hC hp ac hb K hK
   have s0:ac.tmps[0]?.getD undef=.pointer (some ⟨b,0,none⟩):=by rw[hb];kernel_rfl
   rw[if_pos (AnyO.wanted_none rfl)]
   clear hb
   go_simp
   exact hK _ _ (AnyO.InvA.pure hI (by decide) (by decide) rfl)
  ·refine AnyO.StepI.mk rfl [1] (by kernel_rfl) ?_
   intro D vs u hI h0 hC hp ac hb K hK
   have s7:ac.tmps[7]?.getD undef=.pointer (some ⟨b,0,none⟩):=by rw[hb];exact (show _=vs 1 by kernel_rfl).trans (show vs 1=.pointer (some ⟨b,0,none⟩) from hI.1 1 (hp 1 (by decide)))
   rw[if_pos (AnyO.wanted_none rfl)]
   clear hb
   go_simp
   exact hK _ _ (AnyO.InvA.pure hI (by decide) (by decide) rfl)
  ·refine AnyO.StepI.mk rfl [2] (by kernel_rfl) ?_
   intro D vs u hI h0 hC hp ac hb K hK
   have s8:ac.tmps[8]?.getD undef=.pointer (some ⟨b,0,none⟩):=by rw[hb];exact (show _=vs 2 by kernel_rfl).trans (show vs 2=.pointer (some ⟨b,0,none⟩) from hI.1 2 (hp 2 (by decide)))
   rw[if_pos (AnyO.wanted_none rfl)]
   clear hb
   go_simp
   exact hK _ _ (AnyO.InvA.pure hI (by decide) (by decide) rfl)
  ·refine AnyO.StepI.mk rfl [3] (by kernel_rfl) ?_
   intro D vs u hI h0 hC hp ac hb K hK
   have s9:ac.tmps[9]?.getD undef=.pointer (some ⟨b,37,none⟩):=by rw[hb];exact (show _=vs 3 by kernel_rfl).trans (show vs 3=.pointer (some ⟨b,37,none⟩) from hI.1 3 (hp 3 (by decide)))
   rw[if_pos (AnyO.wanted_none rfl)]
   have hnm:D 15=false:=by
    rcases hd:D 15 with _|_
    ·rfl
    ·have q4:=hC 15 hd 4 (by rw[show AnyO.pre _ 15=[4,14] from by kernel_rfl];decide)
     rw[h0] at q4
     cases q4
   have hB:=(hI.2.1 hnm).1
   clear hb
   have rr:=cell_below r37 hB
   go_simp
   exact hK _ _ (AnyO.InvA.pure hI (by decide) (by decide) rfl)
  ·refine AnyO.StepI.mk rfl [] (by kernel_rfl) ?_
   intro D vs u hI h0 hC hp ac hb K hK
   have s0:ac.tmps[0]?.getD undef=.pointer (some ⟨b,0,none⟩):=by rw[hb];kernel_rfl
   rw[if_pos (AnyO.wanted_none rfl)]
   clear hb
   go_simp
   exact hK _ _ (AnyO.InvA.pure hI (by decide) (by decide) rfl)
  ·refine AnyO.StepI.mk rfl [5] (by kernel_rfl) ?_
   intro D vs u hI h0 hC hp ac hb K hK
   have s11:ac.tmps[11]?.getD undef=.pointer (some ⟨b,0,none⟩):=by rw[hb];exact (show _=vs 5 by kernel_rfl).trans (show vs 5=.pointer (some ⟨b,0,none⟩) from hI.1 5 (hp 5 (by decide)))
   rw[if_pos (AnyO.wanted_none rfl)]
   clear hb
   go_simp
   exact hK _ _ (AnyO.InvA.pure hI (by decide) (by decide) rfl)
  ·refine AnyO.StepI.mk rfl [6] (by kernel_rfl) ?_
   intro D vs u hI h0 hC hp ac hb K hK
   have s12:ac.tmps[12]?.getD undef=.pointer (some ⟨b,0,none⟩):=by rw[hb];exact (show _=vs 6 by kernel_rfl).trans (show vs 6=.pointer (some ⟨b,0,none⟩) from hI.1 6 (hp 6 (by decide)))
   rw[if_pos (AnyO.wanted_none rfl)]
   clear hb
   go_simp
   exact hK _ _ (AnyO.InvA.pure hI (by decide) (by decide) rfl)
  ·refine AnyO.StepI.mk rfl [7] (by kernel_rfl) ?_
   intro D vs u hI h0 hC hp ac hb K hK
   have s13:ac.tmps[13]?.getD undef=.pointer (some ⟨b,3,none⟩):=by rw[hb];exact (show _=vs 7 by kernel_rfl).trans (show vs 7=.pointer (some ⟨b,3,none⟩) from hI.1 7 (hp 7 (by decide)))
   rw[if_pos (AnyO.wanted_none rfl)]
   clear hb
   go_simp
   exact hK _ _ (AnyO.InvA.pure hI (by decide) (by decide) rfl)
  ·refine AnyO.StepI.mk rfl [8] (by kernel_rfl) ?_
   intro D vs u hI h0 hC hp ac hb K hK
   have s14:ac.tmps[14]?.getD undef=.pointer (some ⟨b,3,none⟩):=by rw[hb];exact (show _=vs 8 by kernel_rfl).trans (show vs 8=.pointer (some ⟨b,3,none⟩) from hI.1 8 (hp 8 (by decide)))
   rw[if_pos (AnyO.wanted_none rfl)]
   clear hb
   go_simp
   exact hK _ _ (AnyO.InvA.pure hI (by decide) (by decide) rfl)
  ·refine AnyO.StepI.mk rfl [9] (by kernel_rfl) ?_
   intro D vs u hI h0 hC hp ac hb K hK
   have s15:ac.tmps[15]?.getD undef=.pointer (some ⟨b,3,none⟩):=by rw[hb];exact (show _=vs 9 by kernel_rfl).trans (show vs 9=.pointer (some ⟨b,3,none⟩) from hI.1 9 (hp 9 (by decide)))
   rw[if_pos (AnyO.wanted_none rfl)]
   have hnm:D 15=false:=by
    rcases hd:D 15 with _|_
    ·rfl
    ·have q14:=hC 15 hd 14 (by rw[show AnyO.pre _ 15=[4,14] from by kernel_rfl];decide)
     have q13:=hC 14 q14 13 (by rw[show AnyO.pre _ 14=[13] from by kernel_rfl];decide)
     have q10:=hC 13 q13 10 (by rw[show AnyO.pre _ 13=[10,11,12] from by kernel_rfl];decide)
     rw[h0] at q10
     cases q10
   have hB:=(hI.2.1 hnm).1
   clear hb
   have rr:=okA_below k3 hlt hB
   rw[k3'] at rr
   obtain⟨rr1,rr2⟩:=rr
   go_simp
   exact hK _ _ (AnyO.InvA.pure hI (by decide) (by decide) rfl)
  ·refine AnyO.StepI.mk rfl [] (by kernel_rfl) ?_
   intro D vs u hI h0 hC hp ac hb K hK
   have s1:ac.tmps[1]?.getD undef=.int .i64 r:=by rw[hb];kernel_rfl
   rw[if_pos (AnyO.wanted_none rfl)]
   clear hb
   go_simp
   exact hK _ _ (AnyO.InvA.pure hI (by decide) (by decide) rfl)
  ·refine AnyO.StepI.mk rfl [] (by kernel_rfl) ?_
   intro D vs u hI h0 hC hp ac hb K hK
   have s2:ac.tmps[2]?.getD undef=.int .i64 cd:=by rw[hb];kernel_rfl
   rw[if_pos (AnyO.wanted_none rfl)]
   clear hb
   go_simp
   exact hK _ _ (AnyO.InvA.pure hI (by decide) (by decide) rfl)
  ·refine AnyO.StepI.mk rfl [10,11,12] (by kernel_rfl) ?_
   intro D vs u hI h0 hC hp ac hb K hK
   have s16:ac.tmps[16]?.getD undef=vI x:=by rw[hb];exact (show _=vs 10 by kernel_rfl).trans (show vs 10=vI x from hI.1 10 (hp 10 (by decide)))
   have s17:ac.tmps[17]?.getD undef=.int .i64 r:=by rw[hb];exact (show _=vs 11 by kernel_rfl).trans (show vs 11=.int .i64 r from hI.1 11 (hp 11 (by decide)))
   have s18:ac.tmps[18]?.getD undef=.int .i64 cd:=by rw[hb];exact (show _=vs 12 by kernel_rfl).trans (show vs 12=.int .i64 cd from hI.1 12 (hp 12 (by decide)))
   rw[if_pos (AnyO.wanted_none rfl)]
   clear hb
   go_simp
   exact hK _ _ (AnyO.InvA.pure hI (by decide) (by decide) rfl)
  ·refine AnyO.StepI.mk rfl [13] (by kernel_rfl) ?_
   intro D vs u hI h0 hC hp ac hb K hK
   have s19:ac.tmps[19]?.getD undef=vO (x,r,cd):=by rw[hb];exact (show _=vs 13 by kernel_rfl).trans (show vs 13=vO (x,r,cd) from hI.1 13 (hp 13 (by decide)))
   rw[if_pos (AnyO.wanted_none rfl)]
   have hnm:D 15=false:=by
    rcases hd:D 15 with _|_
    ·rfl
    ·have q14:=hC 15 hd 14 (by rw[show AnyO.pre _ 15=[4,14] from by kernel_rfl];decide)
     rw[h0] at q14
     cases q14
   have hB:=(hI.2.1 hnm).1
   clear hb
   go_simp
   exact hK _ _ (AnyO.InvA.slice hI (by decide) hnm (below_alloc _ _) trivial (newO.mk u hB.size))
  ·refine AnyO.StepI.mk rfl [4,14] (by kernel_rfl) ?_
   intro D vs u hI h0 hC hp ac hb K hK
   have s10:ac.tmps[10]?.getD undef=.slice A n c:=by rw[hb];exact (show _=vs 4 by kernel_rfl).trans (show vs 4=.slice A n c from hI.1 4 (hp 4 (by decide)))
   have s20:ac.tmps[20]?.getD undef=vs 14:=by rw[hb];kernel_rfl
   rw[if_pos (AnyO.wanted_none rfl)]
   have hnm:D 15=false:=h0
   have hB:=(hI.2.1 hnm).1
   clear hb
   obtain⟨g,hg,hge,hrow⟩:=(hI.2.1 hnm).2 (hp 14 (by decide))
   rw[hg] at s20
   refine wp_append_at _ (.tmp 10) (.tmp 20) 44 rfl 0 49 34 48 cO Tryz.underlying44 row68 (by decide) cO_length cO_one (.slice A n c) s.outs (by simpa[Act.eval] using s10) (Own.keep HX.out.oo hB) ⟨g,0,none⟩ 1 1 [(x,r,cd)] rfl (by simpa[Act.eval] using s20) (hrow.at_ (k:=0) (n:=34) (by rw[List.drop_zero,List.take_of_length_le];simp[cO_length])) (by have:=hm;simp;omega) (by have:=hm;simp;omega) (by omega) ?_
   intro v2 u2 ho hgr hbk
   exact hK _ _ (AnyO.InvA.app hI trivial (ApO.mk hB ho hgr hbk))
 ·intro D vs u hI hD
  have e0:vs 0=.pointer (some ⟨b,0,none⟩):=hI.1 0 (hD 0 (by decide))
  have e1:vs 1=.pointer (some ⟨b,0,none⟩):=hI.1 1 (hD 1 (by decide))
  have e2:vs 2=.pointer (some ⟨b,0,none⟩):=hI.1 2 (hD 2 (by decide))
  have e3:vs 3=.pointer (some ⟨b,37,none⟩):=hI.1 3 (hD 3 (by decide))
  have e4:vs 4=.slice A n c:=hI.1 4 (hD 4 (by decide))
  have e5:vs 5=.pointer (some ⟨b,0,none⟩):=hI.1 5 (hD 5 (by decide))
  have e6:vs 6=.pointer (some ⟨b,0,none⟩):=hI.1 6 (hD 6 (by decide))
  have e7:vs 7=.pointer (some ⟨b,3,none⟩):=hI.1 7 (hD 7 (by decide))
  have e8:vs 8=.pointer (some ⟨b,3,none⟩):=hI.1 8 (hD 8 (by decide))
  have e9:vs 9=.pointer (some ⟨b,3,none⟩):=hI.1 9 (hD 9 (by decide))
  have e10:vs 10=vI x:=hI.1 10 (hD 10 (by decide))
  have e11:vs 11=.int .i64 r:=hI.1 11 (hD 11 (by decide))
  have e12:vs 12=.int .i64 cd:=hI.1 12 (hD 12 (by decide))
  have e13:vs 13=vO (x,r,cd):=hI.1 13 (hD 13 (by decide))
  have hA:=hI.2.2 (hD 15 (by decide))
  clear hI hD
  rw[puts_range [some 6,some 7,some 8,some 9,some 10,some 11,some 12,some 13,some 14,some 15,some 16,some 17,some 18,some 19,some 20,some 21] (by kernel_rfl)]
  simp only[putL,Nat.reduceAdd,List.drop_succ_cons,List.drop_zero,e0,e1,e2,e3,e4,e5,e6,e7,e8,e9,e10,e11,e12,e13]
  clear e0 e1 e2 e3 e4 e5 e6 e7 e8 e9 e10 e11 e12 e13
  generalize vs 15=vm at hA ⊢
  generalize vs 14=vl
  have hvm:∃ A2 n2 c2,vm=.slice A2 n2 c2:=by obtain⟨A2,c2,e,_⟩:=hA.1.sl;exact⟨A2,_,c2,e⟩
  obtain⟨A2,n2,c2,rfl⟩:=hvm
  obtain⟨⟨j1,j2⟩,j3,⟨j4,j5⟩,z⟩:=Rp.ended HX.out hA _ _ _ rfl rfl rfl
  have HO:=Lib.hid z
  clear hA z
  go_simp
  go_wp2
  go_end0
  exact⟨rfl,HO.out⟩
end Go.Proofs.YtdkjgcfhepplbaaGreatDoor.Sn
namespace Go.Proofs.YtdkjgcfhepplbaaGreatDoor.Sn
open Go.RowKit
theorem check41 (c:Cm) (w:World) (hL:FormsAt w) (hname:c.name=⟨#[]⟩):Calls Tryz.prog 53 #[vC c] w fun e w'=>e=.returned (.int .i64 (chk c))∧Below w.heap.size w w':=check16 c w hL (by rw[hname];decide)

def effL:List Int:=[0,0,0,0,0,0,0,0,0,0,0,0,0,0,0,1,3,5,4,0,0,0,0,0,0,0,0,0,0,5,4,0,0,0,0,0,0,0,0,0,0,5,4,0,0,2,0,0]
def EffAt (w:World):Prop:=At w ⟨1,0,none⟩ (effL.map (Value.int .i64))
theorem EffAt.cell {w w':World} (h:EffAt w) (hb:Below w.heap.size w w') {k:Nat} {v:Value} (hk:(effL.map (Value.int .i64))[k]? = some v):w'.cell? ⟨1,k,none⟩=some v:=by
 have h1:=h.2 k v hk
 rw[add_off,Nat.zero_add] at h1
 exact (cell_below h1 hb)
theorem hear_facts {b:Nat} {ch:Int} {s:St} {F:List Nat} {vw vo:Value} {q:Option Addr} {w w1:World} {c:Cm} (h:Rp b ch s F vw vo q w) (hb:Below (w.alloc (.cells (aC c) 74)).heap.size (w.alloc (.cells (aC c) 74)) w1) :
  w1.cell? ⟨w.heap.size,0,none⟩=some (.int .i64 c.verb)∧w1.cell? ⟨w.heap.size,35,none⟩=some (.int .i64 c.from_)∧w1.cell? ⟨w.heap.size,37,none⟩=some (.int .i64 c.code)∧(okA w1 ⟨w.heap.size,2,none⟩ 32=true∧rdA w1 ⟨w.heap.size,2,none⟩ 32=vI c.id) ∧
  w1.cell? ⟨b,2,none⟩=some (.int .i64 s.state)∧(okA w1 ⟨b,3,none⟩ 32=true∧rdA w1 ⟨b,3,none⟩ 32=vI s.cur.1)∧Below w.heap.size w w1∧Rp b ch s F vw vo q w1:=by
 have hb1:=Below.step (below_alloc w (.cells (aC c) 74)) hb
 have R:Row w1 w.heap.size (cC c) 74:=(Row.new w (cC c) 74).keep hb
 have rp:=h.keep hb1
 exact⟨R.cell 0,(R.cell 35).trans (cC_at (aC_35 c)),(R.cell 37).trans (cC_at (aC_37 c)),R.idC,rp.c2,rp.id,hb1,rp⟩
def isAns (v:Int):Prop:=v=3∨v=4∨v=5∨v=6∨v=9
def HearP (b:Nat) (ch:Int) (_s:St) (F:List Nat) (w:World) (r:Int) (s':St):Ending→World→Prop:=fun e w'=>e=.returned (.int .i64 r)∧∃ F',Rep b ch s' F' w'∧Kp F F' w w'
section
set_option maxRecDepth 100000
set_option maxHeartbeats 3200000
theorem hear_1_3 (b:Nat) (ch:Int) (s:St) (F:List Nat) (vw vo:Value) (q:Option Addr) (c:Cm) (w:World) (h:Rp b ch s F vw vo q w) (hF:FormsAt w) (hname:c.name=⟨#[]⟩) (hE:EffAt w) (x:Id) (t:ByteArray) (hchk:chk c=0) (hv:c.verb=3) (hst:s.state=1) (hcur:s.cur=(x,t)) (hid:c.id=x) (ht:t.size≤65536) (h1:1≤ch) (h2:ch≤4096) (h3:0≤c.from_) (h4:c.from_≤(t.size:Int)) :
  Calls Tryz.prog 47 #[.pointer (some ⟨b,0,none⟩),vC c] w (HearP b ch s F w 0 { s with state:=2,snd:=some (c.from_,false) }):=by
 have HX:=Lib.hid h
 have HC:=Lib.hid (And.intro hcur trivial)
 clear h 
 go_enter Tryz.func47,Tryz.ntmps47
 go_wp2_with (go_at_call 53;refine (check41 c _ (FormsAt.keep hF (below_alloc w (.cells (aC c) 74))) hname).mono ?_;rintro e w1 ⟨rfl,hb⟩;rw[hchk];obtain⟨n0,n35,n37,⟨n2,n2'⟩,m2,⟨m3,m3'⟩,hb1,rp⟩:=hear_facts HX.out hb;have HY:=Lib.hid (And.intro hb1 rp);rw[hv] at n0;rw[hst] at m2;rw[hid] at n2';rw[hcur] at m3';have HE:=Lib.hid (EffAt.cell hE hb1 (k:=15) rfl);clear hb hb1 rp)
 go_quiet (fail)
 have e9:w1.cell? ⟨1,15,none⟩=some (.int .i64 1):=HE.out
 clear HE
 go_wp2
 go_quiet (fail)
 go_wp2_with (go_at_call 77;refine (want42 b ch s F x t c.from_ _ ⟨vw,vo,q,HY.out.2.keep (below_drewN _ _)⟩ HC.out.1 ht h1 h2 h3 h4).mono ?_;rintro e w2 ⟨rfl,hz⟩;have HZ:=Lib.hid hz;clear hz)
 go_ret
 obtain⟨F2,hr,hk⟩:=HZ.out
 exact⟨rfl,F2,hr,(Kp.of_below (Below.step HY.out.1 (below_drewN _ _))).trans hk⟩
theorem hear_1_4 (b:Nat) (ch:Int) (s:St) (F:List Nat) (vw vo:Value) (q:Option Addr) (c:Cm) (w:World) (h:Rp b ch s F vw vo q w) (hF:FormsAt w) (hname:c.name=⟨#[]⟩) (hE:EffAt w) (x:Id) (t:ByteArray) (hchk:chk c=0) (hv:c.verb=4) (hst:s.state=1) (hcur:s.cur=(x,t)) (hid:c.id=x) (hm:s.outs.length≤100000) :
  Calls Tryz.prog 47 #[.pointer (some ⟨b,0,none⟩),vC c] w (HearP b ch s F w 0 ⟨s.wait,0,zA,s.outs++[(x,1,0)],none⟩):=by
 have HX:=Lib.hid h
 have HC:=Lib.hid (And.intro hcur trivial)
 clear h 
 go_enter Tryz.func47,Tryz.ntmps47
 go_wp2_with (go_at_call 53;refine (check41 c _ (FormsAt.keep hF (below_alloc w (.cells (aC c) 74))) hname).mono ?_;rintro e w1 ⟨rfl,hb⟩;rw[hchk];obtain⟨n0,n35,n37,⟨n2,n2'⟩,m2,⟨m3,m3'⟩,hb1,rp⟩:=hear_facts HX.out hb;have HY:=Lib.hid (And.intro hb1 rp);rw[hv] at n0;rw[hst] at m2;rw[hid] at n2';rw[hcur] at m3';have HE:=Lib.hid (EffAt.cell hE hb1 (k:=16) rfl);clear hb hb1 rp)
 go_quiet (fail)
 have e9:w1.cell? ⟨1,16,none⟩=some (.int .i64 3):=HE.out
 clear HE
 go_wp2
 go_quiet (fail)
 go_wp2_with (go_at_call 78;refine (end43 b ch s F x t 1 0 _ ⟨vw,vo,q,HY.out.2.keep (below_drewN _ _)⟩ HC.out.1 hm).mono ?_;rintro e w2 ⟨rfl,hz⟩;have HZ:=Lib.hid hz;clear hz)
 go_ret
 obtain⟨F2,hr,hk⟩:=HZ.out
 exact⟨rfl,F2,hr,(Kp.of_below (Below.step HY.out.1 (below_drewN _ _))).trans hk⟩
theorem hear_3_9 (b:Nat) (ch:Int) (s:St) (F:List Nat) (vw vo:Value) (q:Option Addr) (c:Cm) (w:World) (h:Rp b ch s F vw vo q w) (hF:FormsAt w) (hname:c.name=⟨#[]⟩) (hE:EffAt w) (x:Id) (t:ByteArray) (hchk:chk c=0) (hv:c.verb=9) (hst:s.state=3) (hcur:s.cur=(x,t)) (hid:c.id=x) (hm:s.outs.length≤100000) :
  Calls Tryz.prog 47 #[.pointer (some ⟨b,0,none⟩),vC c] w (HearP b ch s F w 0 ⟨s.wait,0,zA,s.outs++[(x,0,0)],none⟩):=by
 have HX:=Lib.hid h
 have HC:=Lib.hid (And.intro hcur trivial)
 clear h 
 go_enter Tryz.func47,Tryz.ntmps47
 go_wp2_with (go_at_call 53;refine (check41 c _ (FormsAt.keep hF (below_alloc w (.cells (aC c) 74))) hname).mono ?_;rintro e w1 ⟨rfl,hb⟩;rw[hchk];obtain⟨n0,n35,n37,⟨n2,n2'⟩,m2,⟨m3,m3'⟩,hb1,rp⟩:=hear_facts HX.out hb;have HY:=Lib.hid (And.intro hb1 rp);rw[hv] at n0;rw[hst] at m2;rw[hid] at n2';rw[hcur] at m3';have HE:=Lib.hid (EffAt.cell hE hb1 (k:=45) rfl);clear hb hb1 rp)
 go_quiet (fail)
 have e9:w1.cell? ⟨1,45,none⟩=some (.int .i64 2):=HE.out
 clear HE
 go_wp2
 go_quiet (fail)
 go_wp2_with (go_at_call 78;refine (end43 b ch s F x t 0 0 _ ⟨vw,vo,q,HY.out.2.keep (below_drewN _ _)⟩ HC.out.1 hm).mono ?_;rintro e w2 ⟨rfl,hz⟩;have HZ:=Lib.hid hz;clear hz)
 go_ret
 obtain⟨F2,hr,hk⟩:=HZ.out
 exact⟨rfl,F2,hr,(Kp.of_below (Below.step HY.out.1 (below_drewN _ _))).trans hk⟩
end
end Go.Proofs.YtdkjgcfhepplbaaGreatDoor.Sn
namespace Go.Proofs.YtdkjgcfhepplbaaGreatDoor.Sn
open Go.RowKit
def okArt (a:Art):Prop:=a.1≠zI∧a.2.toList.isEmpty=false∧a.2.size≤65536∧crL a.2=false
structure Good (ch:Int) (s:St):Prop where
 c1:1≤ch
 c2:ch≤4096
 st:s.state=0∨s.state=1∨s.state=2∨s.state=3
 low:s.state=0∨s.state=1→s.snd=none
 idle:s.state=0→s.cur=zA
 mid:s.state=2→∃ a,s.snd=some (a,false)∧0≤a∧a≤(s.cur.2.size:Int)
 last:s.state=3→s.snd=some ((s.cur.2.size:Int),true)
 cur:s.state≠0→okArt s.cur
 wait:∀ a∈s.wait,okArt a
 len:s.wait.length≤1025
 len2:s.state≠0→s.wait.length≤1024
theorem Good.zero {ch:Int} (h1:1≤ch) (h2:ch≤4096):Good ch St.zero:=⟨h1,h2,Or.inl rfl,fun _=>rfl,fun _=>rfl,fun h=>(by simp[St.zero] at h),fun h=>(by simp[St.zero] at h),fun h=>absurd rfl h,fun a h=>(by simp[St.zero] at h),by decide,fun _=>by decide⟩
/-! ### Say -/
def sentS (s:St):Int:=(s.snd.map (·.1)).getD 0
def offerC (a:Art):Cm:=⟨2,⟨#[]⟩,a.1,(a.2.size:Int),0,0,0,⟨#[]⟩⟩
def doneC (x:Id):Cm:=⟨8,⟨#[]⟩,x,0,0,0,0,⟨#[]⟩⟩
def dataC (x:Id) (t:ByteArray) (fr nx:Int):Cm:=⟨7,⟨#[]⟩,x,0,fr,0,0,t.extract fr.toNat nx.toNat⟩
def sayS (ch:Int) (s:St):St×Cm×Bool :=
 if s.state=0 then
  match s.wait with
  | []=>(s,zC,false)
  | a :: r=>(⟨r,1,a,s.outs,none⟩,offerC a,true)
 else if s.state=2 then
  if sentS s=(s.cur.2.size:Int) then ({ s with state:=3,snd:=some ((s.cur.2.size:Int),true) },doneC s.cur.1,true)
  else ({ s with snd:=some (min (sentS s+ch) (s.cur.2.size:Int),false) },dataC s.cur.1 s.cur.2 (sentS s) (min (sentS s+ch) (s.cur.2.size:Int)),true)
 else (s,zC,false)
theorem say18 (b:Nat) (ch:Int) (s:St) (F:List Nat) (w:World) (h:Rep b ch s F w) (g:Good ch s) :
  Calls Tryz.prog 23 #[.pointer (some ⟨b,0,none⟩)] w fun e w'=>e=.returned (.tuple #[vC (sayS ch s).2.1,.bool (sayS ch s).2.2])∧∃ F',Rep b ch (sayS ch s).1 F' w'∧Kp F F' w w':=by
 by_cases h0:s.state=0
 ·cases hw:s.wait with
  | nil =>
   have e:sayS ch s=(s,zC,false):=by unfold sayS;rw[if_pos h0,hw]
   rw[e]
   exact (say18_none b ch s F w h (by omega) (fun _=>hw)).mono fun e w' ⟨h1,h2,h3⟩=>⟨h1,F,h2,h3⟩
  | cons a r =>
   have e:sayS ch s=(⟨r,1,a,s.outs,none⟩,offerC a,true):=by unfold sayS;rw[if_pos h0,hw]
   rw[e]
   obtain⟨x,t⟩:=a
   exact say18_offer b ch s F x t r w h h0 hw (by have:=g.len;omega)
 ·by_cases h2:s.state=2
  ·obtain⟨a,ha,ha0,ha1⟩:=g.mid h2
   have hsent:sentS s=a:=by unfold sentS;rw[ha];rfl
   have hc:=g.cur h0
   by_cases hd:a=(s.cur.2.size:Int)
   ·have e:sayS ch s=({ s with state:=3,snd:=some ((s.cur.2.size:Int),true) },doneC s.cur.1,true):=by unfold sayS;rw[if_neg h0,if_pos h2,hsent,if_pos hd]
    rw[e]
    exact (say18_done b ch s F s.cur.1 s.cur.2 w h h2 rfl (by rw[ha,hd]) (by have:=hc.2.2.1;omega)).mono fun e w' ⟨h1,h2,h3⟩=>⟨h1,F,h2,h3⟩
   ·have e:sayS ch s=({ s with snd:=some (min (a+ch) (s.cur.2.size:Int),false) },dataC s.cur.1 s.cur.2 a (min (a+ch) (s.cur.2.size:Int)),true):=by unfold sayS;rw[if_neg h0,if_pos h2,hsent,if_neg hd]
    rw[e]
    exact (say18_data b ch s F s.cur.1 s.cur.2 a w h h2 rfl ha (by have:=hc.2.2.1;omega) ha0 (by omega) g.c1 g.c2).mono fun e w' ⟨h1,h2,h3⟩=>⟨h1,F,h2,h3⟩
  ·have e:sayS ch s=(s,zC,false):=by unfold sayS;rw[if_neg h0,if_neg h2]
   rw[e]
   exact (say18_none b ch s F w h h2 (fun h=>absurd h h0)).mono fun e w' ⟨h1,h2,h3⟩=>⟨h1,F,h2,h3⟩
theorem Good.say {ch:Int} {s:St} (g:Good ch s):Good ch (sayS ch s).1:=by
 unfold sayS
 by_cases h0:s.state=0
 ·rw[if_pos h0]
  cases hw:s.wait with
  | nil=>exact g
  | cons a r =>
   have hl:=g.len
   rw[hw,List.length_cons] at hl
   exact⟨g.c1,g.c2,Or.inr (Or.inl rfl),fun _=>rfl,fun h=>(by simp at h),fun h=>(by simp at h),fun h=>(by simp at h),fun _=>g.wait a (by rw[hw];simp),fun b hb=>g.wait b (by rw[hw];exact List.mem_cons_of_mem _ hb),show r.length≤1025 by omega,fun _=>show r.length≤1024 by omega⟩
 ·rw[if_neg h0]
  by_cases h2:s.state=2
  ·rw[if_pos h2]
   obtain⟨a,ha,ha0,ha1⟩:=g.mid h2
   have hsent:sentS s=a:=by unfold sentS;rw[ha];rfl
   rw[hsent]
   by_cases hd:a=(s.cur.2.size:Int)
   ·rw[if_pos hd]
    exact⟨g.c1,g.c2,Or.inr (Or.inr (Or.inr rfl)),fun h=>(by simp at h),fun h=>(by simp at h),fun h=>(by simp at h),fun _=>rfl,fun _=>g.cur h0,g.wait,g.len,fun _=>g.len2 h0⟩
   ·rw[if_neg hd]
    have:=g.c1
    exact⟨g.c1,g.c2,g.st,fun h=>absurd h (by show ¬ (s.state=0∨s.state=1);omega),fun h=>absurd h h0,fun _=>⟨_,rfl,by omega,by show min _ (s.cur.2.size:Int)≤(s.cur.2.size:Int);omega⟩,fun h=>absurd (show s.state=3 from h) (by omega),fun _=>g.cur h0,g.wait,g.len,fun _=>g.len2 h0⟩
  ·rw[if_neg h2]
   exact g
/-! ### Hear -/
instance (v:Int):Decidable (isAns v):=by unfold isAns;infer_instance
def endS (s:St) (r cd:Int):St:=⟨s.wait,0,zA,s.outs++[(s.cur.1,r,cd)],none⟩
def effS (s:St) (v:Int):Int:=effL[(s.state * 12+v).toNat]?.getD 0
def hearS (s:St) (c:Cm):St×Int :=
 if chk c≠0 then (s,chk c)
 else if ¬ isAns c.verb then (s,11)
 else if s.state=0∨c.id≠s.cur.1 then (s,8)
 else if effS s c.verb=1 then (if c.from_≤(s.cur.2.size:Int) then ({ s with state:=2,snd:=some (c.from_,false) },0) else (s,2))
 else if effS s c.verb=2 then (endS s 0 0,0)
 else if effS s c.verb=3 then (endS s 1 0,0)
 else if effS s c.verb=4 then (endS s 2 c.code,0)
 else if effS s c.verb=5 then (endS s 3 0,0)
 else (s,10)
theorem chk_from {c:Cm} (h:chk c=0) (hv:c.verb=3):0≤c.from_:=by
 unfold chk at h
 rw[hv,if_neg (by decide)] at h
 have h2:chkF c 10 0=0:=h
 unfold chkF at h2
 have hall:(rgs c).all (okR 10)=true:=by
  cases hq:(rgs c).all (okR 10) with
  | true=>rfl
  | false =>
   rw[hq] at h2
   split at h2
   ·cases h2
   ·rw[if_neg (by rw[show (bits BinOp.and .i64 10 1 != 0)=false by decide +kernel];simp)] at h2
    split at h2
    ·cases h2
    ·rw[if_pos rfl] at h2
     cases h2
 have h3:=List.all_eq_true.1 hall (8,c.from_,0,65536) (by unfold rgs;simp)
 unfold okR at h3
 rw[show (bits BinOp.and .i64 10 8==0)=false by decide +kernel] at h3
 simp at h3
 exact h3.1
def Hk (s:St) (c:Cm):Prop:=chk c=0∧c.id=s.cur.1∧((s.state=1∧c.verb=3∧c.from_≤(s.cur.2.size:Int))∨(s.state=1∧c.verb=4)∨(s.state=3∧c.verb=9))
theorem hear19 (b:Nat) (ch:Int) (s:St) (F:List Nat) (c:Cm) (w:World) (h:Rep b ch s F w) (g:Good ch s) (hF:FormsAt w) (hE:EffAt w) (hname:c.name=⟨#[]⟩) (hm:s.outs.length≤100000) (hk:Hk s c) :
  Calls Tryz.prog 47 #[.pointer (some ⟨b,0,none⟩),vC c] w (HearP b ch s F w (hearS s c).2 (hearS s c).1):=by
 obtain⟨vw,vo,q,h⟩:=h
 obtain⟨hchk,hid,hk⟩:=hk
 have h0:s.state≠0:=by omega
 have hv0:isAns c.verb:=by unfold isAns;omega
 have hc:=g.cur h0
 have hbase:hearS s c=if effS s c.verb=1 then (if c.from_≤(s.cur.2.size:Int) then ({ s with state:=2,snd:=some (c.from_,false) },0) else (s,2)) else if effS s c.verb=2 then (endS s 0 0,0) else if effS s c.verb=3 then (endS s 1 0,0) else if effS s c.verb=4 then (endS s 2 c.code,0) else if effS s c.verb=5 then (endS s 3 0,0) else (s,10):=by
  unfold hearS
  rw[if_neg (by omega),if_neg (by simpa using hv0),if_neg (fun e=>e.elim h0 (fun e=>e hid))]
 rcases hk with⟨hst,hv,hf⟩|⟨hst,hv⟩|⟨hst,hv⟩
 ·have he:effS s c.verb=1:=by unfold effS;rw[hst,hv];rfl
  rw[hbase,if_pos he,if_pos hf]
  exact hear_1_3 b ch s F vw vo q c w h hF hname hE s.cur.1 s.cur.2 hchk hv hst rfl hid hc.2.2.1 g.c1 g.c2 (chk_from hchk hv) hf
 ·have he:effS s c.verb=3:=by unfold effS;rw[hst,hv];rfl
  rw[hbase,if_neg (by omega),if_neg (by omega),if_pos he]
  exact hear_1_4 b ch s F vw vo q c w h hF hname hE s.cur.1 s.cur.2 hchk hv hst rfl hid hm
 ·have he:effS s c.verb=2:=by unfold effS;rw[hst,hv];rfl
  rw[hbase,if_neg (by omega),if_pos he]
  exact hear_3_9 b ch s F vw vo q c w h hF hname hE s.cur.1 s.cur.2 hchk hv hst rfl hid hm
theorem Good.ended {ch:Int} {s:St} (g:Good ch s) (_h0:s.state≠0) (r cd:Int):Good ch (endS s r cd) :=
 ⟨g.c1,g.c2,Or.inl rfl,fun _=>rfl,fun _=>rfl,fun h=>(by simp[endS] at h),fun h=>(by simp[endS] at h),fun h=>absurd rfl h,g.wait,g.len,fun h=>absurd rfl h⟩
theorem Good.hear {ch:Int} {s:St} (g:Good ch s) (c:Cm):Good ch (hearS s c).1:=by
 unfold hearS
 split
 ·exact g
 ·rename_i hbad
  split
  ·exact g
  ·split
   ·exact g
   ·rename_i hv h8
    have h0:s.state≠0:=fun e=>h8 (Or.inl e)
    split
    ·rename_i he
     split
     ·rename_i hf
      have hst:s.state=1∧c.verb=3:=by
       have hv':isAns c.verb:=by simpa using hv
       unfold effS at he
       rcases g.st with hst|hst|hst|hst <;> rcases hv' with hv'|hv'|hv'|hv'|hv' <;> rw[hst,hv'] at he <;> first|exact⟨hst,hv'⟩|exact absurd he (by decide)
      exact⟨g.c1,g.c2,Or.inr (Or.inr (Or.inl rfl)),fun h=>(by simp at h),fun h=>(by simp at h),fun _=>⟨_,rfl,chk_from (by omega) hst.2,hf⟩,fun h=>(by simp at h),fun _=>g.cur h0,g.wait,g.len,fun _=>g.len2 h0⟩
     ·exact g
    ·split
     ·exact g.ended h0 _ _
     ·split
      ·exact g.ended h0 _ _
      ·split
       ·exact g.ended h0 _ _
       ·split
        ·exact g.ended h0 _ _
        ·exact g
/-! ### Drop, Add -/
def dropS (s:St):St:=if s.state=0 then s else ⟨s.cur :: s.wait,0,zA,s.outs,none⟩
theorem drop31_all (b:Nat) (ch:Int) (s:St) (F:List Nat) (w:World) (h:Rep b ch s F w) (g:Good ch s) :
  Calls Tryz.prog 40 #[.pointer (some ⟨b,0,none⟩)] w fun e w'=>e=.returned (.int .i64 0)∧∃ F',Rep b ch (dropS s) F' w'∧Kp F F' w w':=by
 unfold dropS
 by_cases h0:s.state=0
 ·rw[if_pos h0]
  exact (drop31_idle b ch s F w h h0).mono fun e w' ⟨h1,h2⟩=>⟨h1,F,by rw[h2];exact h,by rw[h2];exact Kp.refl _ _⟩
 ·rw[if_neg h0]
  exact drop31 b ch s F s.cur.1 s.cur.2 w h h0 rfl (by have:=g.len;omega)
theorem Good.drop {ch:Int} {s:St} (g:Good ch s):Good ch (dropS s):=by
 unfold dropS
 by_cases h0:s.state=0
 ·rw[if_pos h0];exact g
 ·rw[if_neg h0]
  refine⟨g.c1,g.c2,Or.inl rfl,fun _=>rfl,fun _=>rfl,fun h=>(by simp at h),fun h=>(by simp at h),fun h=>absurd rfl h,fun a ha=>?_,?_,fun h=>absurd rfl h⟩
  ·rcases List.mem_cons.1 ha with rfl|ha
   ·exact g.cur h0
   ·exact g.wait a ha
  ·have:=g.len2 h0
   show (s.cur :: s.wait).length≤1025
   rw[List.length_cons]
   omega
end Go.Proofs.YtdkjgcfhepplbaaGreatDoor.Sn
namespace Go.Proofs.YtdkjgcfhepplbaaGreatDoor.Sn
open Go.RowKit
theorem row40:(Tryz.prog.info? 39).map (fun i=>(i.zero.map (·.cells.size),i.size,i.bytes))=some (some 32,32,32):=by kernel_rfl
section
variable (w : World)
@[go_sem ↓] theorem bs64 (n:Nat) (parts:Array (Nat×Value)):Instr.buildSlice 42 n parts=bsA 42 n parts:=rfl
theorem run_bs64 (xs:List Id) (h:xs.length≤100):(bsA 42 xs.length (xs.zipIdx.map fun x=>(x.2,vI x.1)).toArray).run Tryz.prog w=.ok (.slice (some ⟨w.heap.size,0,none⟩) xs.length xs.length) (w.alloc (.cells (aIs xs) 39)):=by
 obtain⟨i,z,h1,h2,h3⟩:=info_of row40
 exact run_bsA w vI 42 39 i z 32 Tryz.underlying42 h1 h2 h3 vI_cells xs (by omega)
@[go_sem] theorem run_bs64_1 (x:Id):(bsA 42 1 #[(0,vI x)]).run Tryz.prog w=.ok (.slice (some ⟨w.heap.size,0,none⟩) 1 1) (w.alloc (.cells (aIs [x]) 39)):=run_bs64 w [x] (by simp)
end

set_option maxRecDepth 100000 in
set_option maxHeartbeats 1600000 in
theorem waiting26 (b:Nat) (ch:Int) (s:St) (F:List Nat) (w:World) (h:Rep b ch s F w) (hm:s.wait.length≤100000) :
  Calls Tryz.prog 10 #[.pointer (some ⟨b,0,none⟩)] w fun e w'=>∃ A n c,e=.returned (.slice A n c)∧s.wait.length=n∧Sl w' cI A (s.wait.map (·.1))∧Below w.heap.size w w':=by
 obtain⟨vw,vo,q,h⟩:=h
 have r1:=h.c1
 have hlt:=h.row.lt
 obtain⟨A,c,hvw,hc,hsl⟩:=h.ow.sl
 subst hvw
 generalize s.wait=xs at *
 obtain⟨n,hn⟩:∃ n,xs.length=n:=⟨_,rfl⟩
 rw[hn] at r1 hm
 have HX:=Lib.hid (And.intro hsl (And.intro hn hm))
 clear h hsl hc hn hm
 go_enter Tryz.func10,Tryz.ntmps10
 go_wp2
 go_loopw [3,13] (fun v i wr=>∃ k:Nat,k≤n∧i=.int .i64 k∧Own wr w.heap.size 39 32 cI v ((xs.take k).map (·.1))∧Below w.heap.size w wr) (fun _ i _=>n - (intOf i).toNat)
 case atStart=>exact⟨0,Nat.zero_le _,rfl,by simpa using Own.nil _ _ _ _ _,Below.refl _ _⟩
 case round =>
  obtain⟨k,hk,rfl,ho,hb⟩:=hrel
  by_cases hlt2:k<n
  ·have hlk:(k:Int)<(n:Int):=by omega
   have hkb:k≤100000:=by have:=HX.out.2.2;omega
   obtain⟨ad,rfl,hok,hrd⟩:=Sl.art (HX.out.1.keep hb) (show k<xs.length by rw[HX.out.2.1];exact hlt2)
   have HT:=Lib.hid (show (xs.take (k+1)).map (·.1)=(xs.take k).map (·.1)++[(xs[k]'(by rw[HX.out.2.1];exact hlt2)).1] by rw[List.take_succ_eq_append_getElem (by rw[HX.out.2.1];exact hlt2),List.map_append];rfl)
   generalize (xs[k]'(by rw[HX.out.2.1];exact hlt2))=a at hok hrd HT
   obtain⟨x,t⟩:=a
   have HO:=Lib.hid (And.intro ho hb)
   clear ho hb
   go_wp2_with (at_builtin;refine wpList_append_sl _ rfl (.tmp 17) (.tmp 20) 42 rfl w.heap.size 39 32 32 cI Tryz.underlying42 row40 (by decide) cI_length cI_one u3 ((xs.take k).map (·.1)) rfl (HO.out.1.keep (Below.step (below_alloc wr (.cells (aA (x,t)) 67)) (below_alloc _ (.cells (aIs [x]) 39)))) (some ⟨wr.heap.size+1,0,none⟩) 1 1 [x] rfl rfl (fun _=>⟨_,rfl,at_new (wr.alloc (.cells (aA (x,t)) 67)) ([x].flatMap cI) 39 _ (by simp)⟩) (by have:=HX.out.2;simp;omega) (by have:=HX.out.2;simp;omega) (Nat.le_trans HO.out.2.size (Below.step (below_alloc wr (.cells (aA (x,t)) 67)) (below_alloc _ (.cells (aIs [x]) 39))).size) ?_)
   intro v2 w2 ho2 hg
   have hB1:=Below.step (below_alloc wr (.cells (aA (x,t)) 67)) (below_alloc _ (.cells (aIs [x]) 39))
   have hW:=Below.step HO.out.2 hB1
   have hb2:=Own.grew (HO.out.1.keep hB1) hg hW (Nat.le_refl _) hW.size
   have ho3:Own w2 w.heap.size 39 32 cI v2 ((xs.take (k+1)).map (·.1)):=by rw[HT.out];simpa[List.map_take] using ho2
   clear ho2 hg hB1 hW
   go_wp2
   go_roundw
   case rel=>exact⟨k+1,hlt2,by go_num,ho3,hb2⟩
   case measure=>simp[intOf] <;> omega
  ·have hkn:k=n:=by omega
   subst hkn
   have hall:xs.take k=xs:=List.take_of_length_le (by rw[HX.out.2.1];exact Nat.le_refl _)
   rw[hall] at ho
   obtain⟨A2,c2,rfl,_,hs2⟩:=ho.sl
   have HO:=Lib.hid (And.intro hs2 hb)
   obtain⟨m,hm⟩:∃ m,(xs.map (·.1)).length=m:=⟨_,rfl⟩
   rw[hm]
   have hmk:xs.length=m:=by rw[← hm,List.length_map]
   clear ho hb hs2 hall hm
   go_wp2
   go_ret
   exact⟨A2,m,c2,rfl,hmk,HO.out.1,HO.out.2⟩
end Go.Proofs.YtdkjgcfhepplbaaGreatDoor.Sn
