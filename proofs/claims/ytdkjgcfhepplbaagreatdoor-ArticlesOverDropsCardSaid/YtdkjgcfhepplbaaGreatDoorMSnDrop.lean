/- transfer.Sender: Say, NewSender, Sent. -/
import Derived.Test.YtdkjgcfhepplbaaGreatDoorMSnAdd
namespace Go.Proofs.YtdkjgcfhepplbaaGreatDoor.Sn
open Go.RowKit
theorem _root_.Go.Proofs.YtdkjgcfhepplbaaGreatDoor.Row.rok {w:World} {b n:Nat} {cs:List Value} {t:TypeId} (h:Row w b cs t) (hn:cs.length=n):rowOk w b n=true:=by
 unfold Row at h
 simp only[rowOk,h]
 simpa using hn
theorem heap_setRow_other (w:World) (b j:Nat) (c:Array Value) (h:j≠b):(w.setRow b c).heap[j]? = w.heap[j]?:=by
 simp only[World.setRow,Array.getElem?_modify]
 rw[if_neg (by omega)]
theorem load_C {w:World} {b:Nat} {c:Cm} (h:Row w b (cC c) 74):(loadVar 74 ⟨b,0,none⟩).run Tryz.prog w=.ok (vC c) w :=
 run_loadVar_at w ⟨b,0,none⟩ 74 (cC c) _ (h.at_ (k:=0) (n:=39) (by rw[List.drop_zero,List.take_of_length_le (by rw[cC_length];omega)])) Tryz.underlying74 rfl (by rw[cC_length];exact size45)
theorem cT_hi (a:Art) (ch sent:Int) (e:Bool) (k:Nat):(cT a ch sent e)[32+k]? = [Value.string a.2,.int .i64 ch,.int .i64 sent,.bool e][k]?:=by
 unfold cT cA
 rw[List.append_assoc,List.getElem?_append_right (by rw[cI_length];omega),cI_length,show 32+k - 32=k by omega]
 rfl
theorem cT_32 (a:Art) (ch sent:Int) (e:Bool):(cT a ch sent e)[32]? = some (.string a.2):=cT_hi a ch sent e 0
theorem cT_33 (a:Art) (ch sent:Int) (e:Bool):(cT a ch sent e)[33]? = some (.int .i64 ch):=cT_hi a ch sent e 1
theorem cT_34 (a:Art) (ch sent:Int) (e:Bool):(cT a ch sent e)[34]? = some (.int .i64 sent):=cT_hi a ch sent e 2
theorem cT_35 (a:Art) (ch sent:Int) (e:Bool):(cT a ch sent e)[35]? = some (.bool e):=cT_hi a ch sent e 3
theorem set_hi (l r:List Value) (k:Nat) (v:Value):(l++r).set (l.length+k) v=l++r.set k v:=by
 rw[List.set_append_right _ _ (by omega),show l.length+k - l.length=k by omega]
theorem cT_set34 (a:Art) (ch sent n:Int) (e:Bool):(cT a ch sent e).set 34 (.int .i64 n)=cT a ch n e:=by
 unfold cT
 rw[show 34=(cA a).length+1 by rw[cA_length],set_hi]
 rfl
theorem cT_set35 (a:Art) (ch sent:Int) (e e':Bool):(cT a ch sent e).set 35 (.bool e')=cT a ch sent e':=by
 unfold cT
 rw[show 35=(cA a).length+2 by rw[cA_length],set_hi]
 rfl
theorem cT_id (a:Art) (ch sent:Int) (e:Bool):((cT a ch sent e).drop 0).take 32=cI a.1:=by
 unfold cT cA
 rw[List.drop_zero,List.append_assoc,List.take_append_of_le_length (by rw[cI_length];omega),List.take_of_length_le (by rw[cI_length];omega)]
theorem _root_.Go.Proofs.YtdkjgcfhepplbaaGreatDoor.Row.idT {w:World} {g:Nat} {a:Art} {ch sent:Int} {e:Bool} (h:Row w g (cT a ch sent e) 159):okA w ⟨g,0,none⟩ 32=true∧rdA w ⟨g,0,none⟩ 32=vI a.1:=by
 have:=h.at_ (cT_id a ch sent e)
 have h1:=this.ok
 have h2:=this.rd
 rw[cI_length] at h1 h2
 exact⟨h1,h2⟩
structure Only (g:Nat) (w w':World):Prop where
 os:w'.os=w.os
 tape:w'.tape=w.tape
 output:w'.output=w.output
 size:w.heap.size≤w'.heap.size
 out:∀ k,k<w.heap.size→k≠g→w'.heap[k]? = w.heap[k]?
theorem Only.of_below {g:Nat} {w w':World} (h:Below w.heap.size w w'):Only g w w':=⟨h.os,h.tape,h.output,h.size,fun k hk _=>h.block k hk⟩
theorem Only.trans {g:Nat} {a b c:World} (h:Only g a b) (k:Only g b c):Only g a c :=
 ⟨k.os.trans h.os,k.tape.trans h.tape,k.output.trans h.output,Nat.le_trans h.size k.size,fun j hj hg=>(k.out j (Nat.lt_of_lt_of_le hj h.size) hg).trans (h.out j hj hg)⟩
theorem Only.setCell (g k:Nat) (w:World) (v:Value):Only g w (w.setCell ⟨g,k,none⟩ v):=⟨rfl,rfl,rfl,by simp[World.setCell],fun j _ hj=>heap_set_other w g k v j hj⟩
theorem Only.setRow {g r:Nat} {w w':World} (h:Only g w w') (hr:w.heap.size≤r) (c:Array Value):Only g w (w'.setRow r c) :=
 ⟨h.os,h.tape,h.output,by have:=h.size;simpa[World.setRow] using this,fun k hk hg=>(heap_setRow_other w' r k c (by omega)).trans (h.out k hk hg)⟩
def sayT (a:Art) (ch sent:Int) (ended:Bool):Cm×Bool×Int×Bool :=
 if ended=true then (zC,false,sent,true)
 else if sent=(a.2.size:Int) then (⟨8,⟨#[]⟩,a.1,0,0,0,0,⟨#[]⟩⟩,true,sent,true)
 else (⟨7,⟨#[]⟩,a.1,0,sent,0,0,a.2.extract sent.toNat (min (sent+ch) (a.2.size:Int)).toNat⟩,true,min (sent+ch) (a.2.size:Int),false)
def SayP (g:Nat) (a:Art) (ch sent:Int) (ended:Bool) (w:World) (e:Ending) (w':World):Prop :=
 e=.returned (.tuple #[vC (sayT a ch sent ended).1,.bool (sayT a ch sent ended).2.1])∧Row w' g (cT a ch (sayT a ch sent ended).2.2.1 (sayT a ch sent ended).2.2.2) 159∧Only g w w'
set_option maxRecDepth 100000 in
set_option maxHeartbeats 800000 in
theorem say40_done (g:Nat) (x:Id) (t:ByteArray) (ch:Int) (w:World) (h:Row w g (cT (x,t) ch (t.size:Int) false) 159) (_hs:t.size≤1000000) :
  Calls Tryz.prog 49 #[.pointer (some ⟨g,0,none⟩)] w (SayP g (x,t) ch (t.size:Int) false w):=by
 have hsay:sayT (x,t) ch (t.size:Int) false=(⟨8,⟨#[]⟩,x,0,0,0,0,⟨#[]⟩⟩,true,(t.size:Int),true):=by unfold sayT;rw[if_neg (by simp),if_pos rfl]
 have HY:=Lib.hid hsay
 have k35:=(h.cell 35).trans (cT_35 _ _ _ _)
 have k34:=(h.cell 34).trans (cT_34 _ _ _ _)
 have k32:=(h.cell 32).trans (cT_32 _ _ _ _)
 obtain⟨k0,k0'⟩:=h.idT
 have hlt:=h.lt
 have hf:=h.fz 35
 have HR:=Lib.hid h
 clear h hsay
 unfold SayP
 rw[HY.out]
 go_enter Tryz.func49,Tryz.ntmps49
 go_wp2
 go_quiet (fail)
 have hW:Below w.heap.size w ((w.alloc (.cells (aC zC) 74)).drewN nq):=Below.step (below_alloc w (.cells (aC zC) 74)) (below_drewN _ nq)
 have hrow:=(HR.out.keep hW).set 35 (.bool true)
 rw[cT_set35] at hrow
 have hres:Row (((w.alloc (.cells (aC zC) 74)).drewN nq).setCell ⟨g,35,none⟩ (.bool true)) w.heap.size (cC zC) 74:=((Row.new w (cC zC) 74).keep (below_drewN _ nq)).same (heap_set_other _ g 35 _ _ (by omega))
 obtain⟨r1,r2⟩:=hrow.idT
 have r3:=hres.rok (cC_length zC)
 have HE:=Lib.hid (And.intro hrow (And.intro hres hW))
 clear hrow hres hW
 go_wp2
 exact bodyPost_ret (v:=.tuple #[vC ⟨8,⟨#[]⟩,x,0,0,0,0,⟨#[]⟩⟩,.bool true]) (results_c2 (ad:=⟨w.heap.size,0,none⟩) rfl rfl (load_C (HE.out.2.1.setRow (ds:=cC ⟨8,⟨#[]⟩,x,0,0,0,0,⟨#[]⟩⟩))) rfl) rfl ⟨rfl,HE.out.1.same (heap_setRow_other _ _ _ _ (by omega)),((Only.of_below HE.out.2.2).trans (Only.setCell g 35 _ _)).setRow (Nat.le_refl _) _⟩
set_option maxRecDepth 100000 in
set_option maxHeartbeats 1600000 in
theorem say40_data (g:Nat) (x:Id) (t:ByteArray) (ch sent:Int) (w:World) (h:Row w g (cT (x,t) ch sent false) 159) (hs:t.size≤1000000) (h0:0≤sent) (h1:sent<(t.size:Int)) (h2:1≤ch) (h3:ch≤4096) :
  Calls Tryz.prog 49 #[.pointer (some ⟨g,0,none⟩)] w (SayP g (x,t) ch sent false w):=by
 obtain⟨sn,hsn⟩:∃ sn:Nat,sent=(sn:Int):=⟨sent.toNat,by omega⟩
 obtain⟨nx,hnx⟩:∃ nx,min (sent+ch) (t.size:Int)=nx:=⟨_,rfl⟩
 obtain⟨nn,hnn⟩:∃ nn:Nat,nx=(nn:Int):=⟨nx.toNat,by omega⟩
 have hsay:sayT (x,t) ch sent false=(⟨7,⟨#[]⟩,x,0,sent,0,0,t.extract sn nn⟩,true,nx,false):=by
  unfold sayT
  rw[if_neg (by simp),if_neg (show ¬ sent=(t.size:Int) by omega),hnx,hsn,hnn]
  rfl
 have HY:=Lib.hid hsay
 have k35:=(h.cell 35).trans (cT_35 _ _ _ _)
 have k34:=(h.cell 34).trans (cT_34 _ _ _ _)
 have k33:=(h.cell 33).trans (cT_33 _ _ _ _)
 have k32:=(h.cell 32).trans (cT_32 _ _ _ _)
 have hlt:=h.lt
 have hne:(sent==(t.size:Int))=false:=beq_eq_false_iff_ne.2 (by omega)
 have q1:sent≤nx:=by omega
 have q2:nx≤(t.size:Int):=by omega
 have HN:=Lib.hid (And.intro hnx (And.intro hsn (And.intro hnn (And.intro q1 q2))))
 have HR0:=Lib.hid h
 clear h hsay hnx hsn hnn q1 q2
 unfold SayP
 rw[HY.out]
 go_enter Tryz.func49,Tryz.ntmps49
 go_wp2
 go_quiet (fail)
 have HW:Below w.heap.size w ((w.alloc (.cells (aC zC) 74)).drewN nq):=Below.step (below_alloc w (.cells (aC zC) 74)) (below_drewN _ nq)
 have k34b:=cell_below k34 HW
 have hrow7:=HR0.out.keep HW
 have hres7:Row ((w.alloc (.cells (aC zC) 74)).drewN nq) w.heap.size (cC zC) 74:=(Row.new w (cC zC) 74).keep (below_drewN _ nq)
 go_wp2
 generalize (w.alloc (.cells (aC zC) 74)).drewN nq=W7 at HW k34b hrow7 hres7 ⊢
 have j33:=(hrow7.cell 33).trans (cT_33 _ _ _ _)
 have j32:=(hrow7.cell 32).trans (cT_32 _ _ _ _)
 have HR:=Lib.hid (And.intro hrow7 hres7)
 clear k35 k34 k33 k32 hrow7 hres7
 refine AnyO.wp_any_tail 13 (by kernel_rfl) (by kernel_rfl) (by kernel_rfl) (by kernel_rfl) (by kernel_rfl) (by kernel_rfl) (pstP [isV (.pointer (some ⟨g,0,none⟩)),isV (.int .i64 sent),isV (.pointer (some ⟨g,0,none⟩)),isV (.pointer (some ⟨g,0,none⟩)),isV (.pointer (some ⟨g,33,none⟩)),isV (.int .i64 ch),isV (.int .i64 (sent+ch)),isV (.pointer (some ⟨g,0,none⟩)),isV (.pointer (some ⟨g,0,none⟩)),isV (.pointer (some ⟨g,32,none⟩)),isV (.string t),isV (.int .i64 (t.size:Int)),isV (.int .i64 nx)]) (MonoL.cons (Mono.v _) (MonoL.cons (Mono.v _) (MonoL.cons (Mono.v _) (MonoL.cons (Mono.v _) (MonoL.cons (Mono.v _) (MonoL.cons (Mono.v _) (MonoL.cons (Mono.v _) (MonoL.cons (Mono.v _) (MonoL.cons (Mono.v _) (MonoL.cons (Mono.v _) (MonoL.cons (Mono.v _) (MonoL.cons (Mono.v _) (MonoL.cons (Mono.v _) MonoL.nil))))))))))))) ?_ ?_
 ·intro i hi
  have hi2:i=0∨i=1∨i=2∨i=3∨i=4∨i=5∨i=6∨i=7∨i=8∨i=9∨i=10∨i=11∨i=12:=by omega
  clear hi
  rcases hi2 with rfl|rfl|rfl|rfl|rfl|rfl|rfl|rfl|rfl|rfl|rfl|rfl|rfl
  all_goals
   refine AnyO.T rfl ?_;intro vs u hE hp ac hb K hK
   try have s0:ac.tmps[0]?.getD undef=.pointer (some ⟨g,0,none⟩):=by rw[hb.out];kernel_rfl
   try have s4:ac.tmps[4]?.getD undef=.int .i64 sent:=by rw[hb.out];kernel_rfl
   try have s38:_=_:=AnyO.sw 38 2 hb hp
   try have s39:_=_:=AnyO.sw 39 3 hb hp
   try have s40:_=_:=AnyO.sw 40 4 hb hp
   try have s37:_=_:=AnyO.sw 37 1 hb hp
   try have s41:_=_:=AnyO.sw 41 5 hb hp
   try have s43:_=_:=AnyO.sw 43 7 hb hp
   try have s44:_=_:=AnyO.sw 44 8 hb hp
   try have s45:_=_:=AnyO.sw 45 9 hb hp
   try have s46:_=_:=AnyO.sw 46 10 hb hp
   try have s42:_=_:=AnyO.sw 42 6 hb hp
   try have s47:_=_:=AnyO.sw 47 11 hb hp
   have rr_0:=cell_below j33 (Below.step (below_drew _) hE)
   have rr_1:IntKind.i64.wrap (sent+ch)=sent+ch:=IntWalk.i64_in _ (by omega)
   have rr_2:=cell_below j32 (Below.step (below_drew _) hE)
   have rr_3:=HN.out.1
   go_simp
   exact hK _ _ (Below.refl _ _) rfl
 ·intro vs u hE hp
  have e0:_=_:=hp 0 (by decide)
  have e1:_=_:=hp 1 (by decide)
  have e2:_=_:=hp 2 (by decide)
  have e3:_=_:=hp 3 (by decide)
  have e4:_=_:=hp 4 (by decide)
  have e5:_=_:=hp 5 (by decide)
  have e6:_=_:=hp 6 (by decide)
  have e7:_=_:=hp 7 (by decide)
  have e8:_=_:=hp 8 (by decide)
  have e9:_=_:=hp 9 (by decide)
  have e10:_=_:=hp 10 (by decide)
  have e11:_=_:=hp 11 (by decide)
  have e12:_=_:=hp 12 (by decide)
  clear hp
  have hu:=hE
  clear hE
  rw[puts_range [some 36,some 37,some 38,some 39,some 40,some 41,some 42,some 43,some 44,some 45,some 46,some 47,some 48] (by kernel_rfl)]
  simp only[putL,Nat.reduceAdd,List.drop_succ_cons,List.drop_zero,e0,e1,e2,e3,e4,e5,e6,e7,e8,e9,e10,e11,e12]
  clear e0 e1 e2 e3 e4 e5 e6 e7 e8 e9 e10 e11 e12
  go_simp
  have hrowu:=HR.out.1.keep hu
  have j34:=(hrowu.cell 34).trans (cT_34 _ _ _ _)
  have f34:=hrowu.fz 34
  have hrow8:=hrowu.set 34 (.int .i64 nx)
  rw[cT_set34] at hrow8
  have hres8:=(HR.out.2.keep hu).same (heap_set_other u g 34 (.int .i64 nx) w.heap.size (by omega))
  have HO8:=Lib.hid (((Only.of_below (g:=g) HW).trans (Only.of_below hu)).trans (Only.setCell g 34 u (.int .i64 nx)))
  clear hrowu hu j32 j33
  go_wp2
  generalize u.setCell ⟨g,34,none⟩ (.int .i64 nx)=W8 at hrow8 hres8 HO8 ⊢
  have l32:=(hrow8.cell 32).trans (cT_32 _ _ _ _)
  have l34:=(hrow8.cell 34).trans (cT_34 _ _ _ _)
  obtain⟨l0,l0'⟩:=hrow8.idT
  have hlt8:=hrow8.lt
  have HR8:=Lib.hid (And.intro hrow8 hres8)
  clear hrow8 hres8 j34 f34 k34b HW
  refine AnyO.wp_any_tail 16 (by kernel_rfl) (by kernel_rfl) (by kernel_rfl) (by kernel_rfl) (by kernel_rfl) (by kernel_rfl) (pstP [isV (.pointer (some ⟨g,0,none⟩)),isV (.pointer (some ⟨g,0,none⟩)),isV (.pointer (some ⟨g,0,none⟩)),isV (vI x),isV (.int .i64 sent),isV (.pointer (some ⟨g,0,none⟩)),isV (.pointer (some ⟨g,0,none⟩)),isV (.pointer (some ⟨g,32,none⟩)),isV (.string t),isV (.int .i64 sent),isV (.pointer (some ⟨g,0,none⟩)),isV (.pointer (some ⟨g,0,none⟩)),isV (.pointer (some ⟨g,34,none⟩)),isV (.int .i64 nx),isV (.string (t.extract sn nn)),isV (vC ⟨7,⟨#[]⟩,x,0,sent,0,0,t.extract sn nn⟩)]) (MonoL.cons (Mono.v _) (MonoL.cons (Mono.v _) (MonoL.cons (Mono.v _) (MonoL.cons (Mono.v _) (MonoL.cons (Mono.v _) (MonoL.cons (Mono.v _) (MonoL.cons (Mono.v _) (MonoL.cons (Mono.v _) (MonoL.cons (Mono.v _) (MonoL.cons (Mono.v _) (MonoL.cons (Mono.v _) (MonoL.cons (Mono.v _) (MonoL.cons (Mono.v _) (MonoL.cons (Mono.v _) (MonoL.cons (Mono.v _) (MonoL.cons (Mono.v _) MonoL.nil)))))))))))))))) ?_ ?_
  ·intro i hi
   have hi2:i=0∨i=1∨i=2∨i=3∨i=4∨i=5∨i=6∨i=7∨i=8∨i=9∨i=10∨i=11∨i=12∨i=13∨i=14∨i=15:=by omega
   clear hi
   rcases hi2 with rfl|rfl|rfl|rfl|rfl|rfl|rfl|rfl|rfl|rfl|rfl|rfl|rfl|rfl|rfl|rfl
   all_goals
    refine AnyO.T rfl ?_;intro vs u hE hp ac hb K hK
    try have s0:ac.tmps[0]?.getD undef=.pointer (some ⟨g,0,none⟩):=by rw[hb.out];kernel_rfl
    try have s51:_=_:=AnyO.sw 51 0 hb hp
    try have s52:_=_:=AnyO.sw 52 1 hb hp
    try have s53:_=_:=AnyO.sw 53 2 hb hp
    try have s4:ac.tmps[4]?.getD undef=.int .i64 sent:=by rw[hb.out];kernel_rfl
    try have s56:_=_:=AnyO.sw 56 5 hb hp
    try have s57:_=_:=AnyO.sw 57 6 hb hp
    try have s58:_=_:=AnyO.sw 58 7 hb hp
    try have s61:_=_:=AnyO.sw 61 10 hb hp
    try have s62:_=_:=AnyO.sw 62 11 hb hp
    try have s63:_=_:=AnyO.sw 63 12 hb hp
    try have s59:_=_:=AnyO.sw 59 8 hb hp
    try have s60:_=_:=AnyO.sw 60 9 hb hp
    try have s64:_=_:=AnyO.sw 64 13 hb hp
    try have s54:_=_:=AnyO.sw 54 3 hb hp
    try have s55:_=_:=AnyO.sw 55 4 hb hp
    try have s65:_=_:=AnyO.sw 65 14 hb hp
    have rr_0:=okA_below l0 hlt8 (Below.step (below_drew _) hE)
    rw[l0'] at rr_0
    obtain⟨rr1_0,rr2_0⟩:=rr_0
    have rr_1:=cell_below l32 (Below.step (below_drew _) hE)
    have rr_2:=cell_below l34 (Below.step (below_drew _) hE)
    have rr1_3:=HN.out.2.2.2.1
    have rr2_3:=HN.out.2.2.2.2
    have rr3_3:sent.toNat=sn:=by have:=HN.out.2.1;omega
    have rr4_3:nx.toNat=nn:=by have:=HN.out.2.2.1;omega
    go_simp
    exact hK _ _ (Below.refl _ _) rfl
  ·intro vs u hE hp
   have e0:_=_:=hp 0 (by decide)
   have e1:_=_:=hp 1 (by decide)
   have e2:_=_:=hp 2 (by decide)
   have e3:_=_:=hp 3 (by decide)
   have e4:_=_:=hp 4 (by decide)
   have e5:_=_:=hp 5 (by decide)
   have e6:_=_:=hp 6 (by decide)
   have e7:_=_:=hp 7 (by decide)
   have e8:_=_:=hp 8 (by decide)
   have e9:_=_:=hp 9 (by decide)
   have e10:_=_:=hp 10 (by decide)
   have e11:_=_:=hp 11 (by decide)
   have e12:_=_:=hp 12 (by decide)
   have e13:_=_:=hp 13 (by decide)
   have e14:_=_:=hp 14 (by decide)
   have e15:_=_:=hp 15 (by decide)
   clear hp
   have hu:=hE
   clear hE
   rw[puts_range [some 51,some 52,some 53,some 54,some 55,some 56,some 57,some 58,some 59,some 60,some 61,some 62,some 63,some 64,some 65,some 66] (by kernel_rfl)]
   simp only[putL,Nat.reduceAdd,List.drop_succ_cons,List.drop_zero,e0,e1,e2,e3,e4,e5,e6,e7,e8,e9,e10,e11,e12,e13,e14,e15]
   clear e0 e1 e2 e3 e4 e5 e6 e7 e8 e9 e10 e11 e12 e13 e14 e15
   go_simp
   have hrow9:=HR8.out.1.keep hu
   have hres9:=HR8.out.2.keep hu
   have r3:=hres9.rok (cC_length zC)
   have HE:=Lib.hid (And.intro hrow9 (And.intro hres9 (HO8.out.trans (Only.of_below hu))))
   clear hrow9 hres9 hu l32 l34 l0 l0'
   go_wp2
   exact bodyPost_ret (v:=.tuple #[vC ⟨7,⟨#[]⟩,x,0,sent,0,0,t.extract sn nn⟩,.bool true]) (results_c2 (ad:=⟨w.heap.size,0,none⟩) rfl rfl (load_C (HE.out.2.1.setRow (ds:=cC ⟨7,⟨#[]⟩,x,0,sent,0,0,t.extract sn nn⟩))) rfl) rfl ⟨rfl,HE.out.1.same (heap_setRow_other _ _ _ _ (by omega)),HE.out.2.2.setRow (Nat.le_refl _) _⟩
end Go.Proofs.YtdkjgcfhepplbaaGreatDoor.Sn
namespace Go.Proofs.YtdkjgcfhepplbaaGreatDoor.Sn
open Go.RowKit
theorem eql_nil {P:Program} (w:World) (t e:TypeId) (a:Option Addr) (n c:Nat) (h:P.underlying t=some (.slice e)):(binOp .eql t (.slice a n c) (.slice none 0 0)).run P w=.ok (.bool a.isNone) w:=by
 simp only[binOp]
 simp[Op.equal,Op.maxDepth,Lib.run_equalIn_slice_nil w 9999 t e a n c 0 0 h]
@[go_sem] theorem eql84_nil (w:World) (a:Option Addr) (n c:Nat):(binOp .eql 65 (.slice a n c) (.slice none 0 0)).run Tryz.prog w=.ok (.bool a.isNone) w:=eql_nil w 65 67 a n c Tryz.underlying65
theorem _root_.Go.Proofs.YtdkjgcfhepplbaaGreatDoor.Sl.none_ {α:Type} {w:World} {enc:α→List Value} {xs:List α} (h:Sl w enc none xs):xs=[]:=by
 cases xs with
 | nil=>rfl
 | cons x xs =>
  obtain⟨ad,h,_⟩:=h (by simp)
  cases h
set_option maxRecDepth 100000 in
set_option maxHeartbeats 800000 in
theorem clone39 (A:Option Addr) (n c:Nat) (xs:List Art) (w:World) (hn:xs.length=n) (hx:Sl w cA A xs) (hm:n≤100000) :
  Calls Tryz.prog 48 #[.slice A n c] w fun e w'=>∃ A' n' c',e=.returned (.slice A' n' c')∧Own w' w.heap.size 67 33 cA (.slice A' n' c') xs∧Below w.heap.size w w':=by
 have HX:=Lib.hid (And.intro hx (And.intro hn hm))
 cases A with
 | none =>
  have h0:=hx.none_
  subst h0
  clear hx hn hm
  go_enter Tryz.func48,Tryz.ntmps48
  go_wp2
  go_ret
  exact⟨none,0,0,rfl,Own.nil _ _ _ _ _,Below.refl _ _⟩
 | some ad =>
  clear hx hn hm
  go_enter Tryz.func48,Tryz.ntmps48
  go_wp2_with (at_builtin;refine wpList_append_sl _ rfl (.tmp 5) (.tmp 6) 65 rfl w.heap.size 67 33 48 cA Tryz.underlying65 row86 (by decide) cA_length cA_one (.slice (some ⟨w.heap.size,0,none⟩) 0 0) [] rfl (Own.lit (w:=w) cA_length [] (Nat.le_refl _) (by simp)) (some ad) n c xs HX.out.2.1 rfl (HX.out.1.keep (below_alloc w (.cells (aAs []) 67))) (by have:=HX.out.2.2;simp;omega) (by have:=HX.out.2.2;simp;omega) (by simp) ?_)
  intro v2 w2 ho hg
  have hb:=Own.grew (Own.lit (w:=w) (e:=67) cA_length [] (Nat.le_refl _) (by simp)) hg (below_alloc w (.cells (aAs []) 67)) (Nat.le_refl _) (by simp)
  have H2:=Lib.hid (And.intro ho hb)
  obtain⟨A2,c2,rfl,_,_⟩:=ho.sl
  clear ho hg hb
  go_wp2
  go_ret
  exact⟨A2,xs.length,c2,rfl,H2.out.1,H2.out.2⟩
theorem cSn_set2 (ch:Int) (vw:Value) (st:Int) (a:Art) (q:Option Addr) (vo:Value) (n:Int):(cSn ch vw st a q vo).set 2 (.int .i64 n)=cSn ch vw n a q vo:=rfl
theorem cSn_set36 (ch:Int) (vw:Value) (st:Int) (a:Art) (q p:Option Addr) (vo:Value):(cSn ch vw st a q vo).set 36 (.pointer p)=cSn ch vw st a p vo:=by
 unfold cSn cD
 rw[show (36:Nat)=33+1+1+1 from rfl,List.set_cons_succ,List.set_cons_succ,List.set_cons_succ,List.append_assoc,show (33:Nat)=(cA a).length+0 by rw[cA_length],set_hi]
 simp
theorem cSn_set37 (ch:Int) (vw:Value) (st:Int) (a:Art) (q:Option Addr) (vo v:Value):(cSn ch vw st a q vo).set 37 v=cSn ch vw st a q v:=by
 unfold cSn
 rw[show (37:Nat)=34+1+1+1 from rfl,List.set_cons_succ,List.set_cons_succ,List.set_cons_succ,show (34:Nat)=(cD a q).length+0 by rw[cD_length],set_hi]
 rfl
theorem cSn_del (ch:Int) (vw:Value) (st:Int) (a a':Art) (q q':Option Addr) (vo:Value):(cSn ch vw st a q vo).take 3++cD a' q'++(cSn ch vw st a q vo).drop (3+(cD a' q').length)=cSn ch vw st a' q' vo:=by
 rw[cD_length]
 unfold cSn
 rw[show (3+34:Nat)=34+1+1+1 from rfl,List.drop_succ_cons,List.drop_succ_cons,List.drop_succ_cons,List.drop_append_of_le_length (by rw[cD_length];omega),List.drop_of_length_le (by rw[cD_length];omega)]
 rfl
theorem row_del {w:World} {b:Nat} {ch:Int} {vw:Value} {st:Int} {a:Art} {q:Option Addr} {vo:Value} (h:Row w b (cSn ch vw st a q vo) 72) (a':Art) (q':Option Addr):Row (stD w b 3 (cD a' q')) b (cSn ch vw st a' q' vo) 72:=by
 have:=h.stD 3 (cD a' q') (by rw[cSn_length,cD_length];omega)
 rwa[cSn_del] at this
theorem Rp.moved {b:Nat} {ch:Int} {s s':St} {F:List Nat} {vw vo v:Value} {q:Option Addr} {w u:World} (h:Rp b ch s F vw vo q w) (ho:Own u w.heap.size 67 33 cA v s'.wait)
  (hrow:Row u b (cSn ch v s'.state s'.cur none vo) 72) (hout:s'.outs=s.outs) (hsnd:s'.snd=none) (hon:Only b w u):∃ F',Rep b ch s' F' u∧Kp F F' w u:=by
 obtain⟨F',hF1,hF2,hF3⟩:∃ F':List Nat,(∀ k∈F,k∈F')∧(∀ k,v.ownBlock=some k→k∈F')∧(∀ k,k<w.heap.size→k∉F→k∉F'):=by
  cases hv:v.ownBlock with
  | none=>exact⟨F,fun _ h=>h,fun _ e=>(by cases e),fun _ _ h=>h⟩
  | some g =>
   refine⟨g :: F,fun _ h=>List.mem_cons_of_mem _ h,fun k e=>by injection e with e;subst e;simp,fun k hk1 hk2 hm=>?_⟩
   rcases List.mem_cons.1 hm with e|hm
   ·have:=(ho.lt g hv).1;omega
   ·exact hk2 hm
 have hlt:=h.row.lt
 refine⟨F',⟨v,vo,none,⟨hrow,ho.mono (Nat.zero_le _),?_,fun _=>rfl,fun t ht=>(by rw[hsnd] at ht;cases ht),hF1 b h.bF,fun k e=>⟨hF2 k e,fun e2=>?_,fun e2=>?_⟩,fun k e=>⟨hF1 k (h.oF k e).1,(h.oF k e).2⟩⟩⟩,⟨hon.os,hon.tape,hon.output,hon.size,fun k hk1 hk2=>⟨hF3 k hk1 hk2,hon.out k hk1 fun e=>hk2 (e▸h.bF)⟩⟩⟩
 ·rw[hout]
  exact h.oo.same fun k e=>hon.out k (h.oo.lt k e).2 (h.oF k e).2
 ·have:=(ho.lt k e).1;omega
 ·have h1:=(ho.lt k e).1
  have h2:=(h.oo.lt k e2).2
  omega
theorem rowA_id {w:World} {g:Nat} {a:Art} (h:Row w g (cA a) 67):okA w ⟨g,0,none⟩ 32=true∧rdA w ⟨g,0,none⟩ 32=vI a.1:=by
 have:=h.at_ (cA_id a)
 have h1:=this.ok
 have h2:=this.rd
 rw[cI_length] at h1 h2
 exact⟨h1,h2⟩
theorem rowA_all {w:World} {g:Nat} {a:Art} (h:Row w g (cA a) 67):okA w ⟨g,0,none⟩ 33=true∧rdA w ⟨g,0,none⟩ 33=vA a:=by
 have:=h.at_ (k:=0) (n:=33) (ds:=cA a) (by rw[List.drop_zero,List.take_of_length_le (by rw[cA_length];omega)])
 have h1:=this.ok
 have h2:=this.rd
 rw[cA_length] at h1 h2
 exact⟨h1,h2⟩
theorem Only.stD {g:Nat} (w:World) (k:Nat) (ds:List Value):Only g w (stD w g k ds) :=
 ⟨(setCells_os g ds k w).1,(setCells_os g ds k w).2.1,(setCells_os g ds k w).2.2,Nat.le_of_eq (setCells_size g ds k w).symm,fun j _ hj=>heap_stD_other w g k ds j hj⟩
theorem cA_32 (a:Art):(cA a)[32]? = some (.string a.2):=by
 unfold cA
 rw[List.getElem?_append_right (by rw[cI_length];omega),cI_length]
 rfl
theorem offer_facts {b:Nat} {ch:Int} {s:St} {F:List Nat} {vw vo:Value} {q:Option Addr} {w w5:World} (h:Rp b ch s F vw vo q w) (hst:s.state=0) (x:Id) (t:ByteArray) (v:Value)
  (hb5:Below ((w.alloc (.cells (aC zC) 74)).alloc (.cells (aA (x,t)) 67)).heap.size ((w.alloc (.cells (aC zC) 74)).alloc (.cells (aA (x,t)) 67)) w5) (U1 U2 U3:World) (h1:U1=w5.setCell ⟨b,1,none⟩ v) (h2:U2=stD U1 b 3 (cD (x,t) none)) (h3:U3=U2.setCell ⟨b,2,none⟩ (.int .i64 1)) :
  (w5.cell? ⟨b,1,none⟩=some vw∧w5.frozen? ⟨b,1,none⟩=false)∧(stOk U1 b 3 34=true∧okA U1 ⟨w.heap.size+1,0,none⟩ 33=true∧rdA U1 ⟨w.heap.size+1,0,none⟩ 33=vA (x,t)) ∧
  (U2.cell? ⟨b,2,none⟩=some (.int .i64 0)∧U2.frozen? ⟨b,2,none⟩=false)∧(okA U3 ⟨w.heap.size+1,0,none⟩ 32=true∧rdA U3 ⟨w.heap.size+1,0,none⟩ 32=vI x∧U3.cell? ⟨w.heap.size+1,32,none⟩=some (.string t)∧rowOk U3 w.heap.size 39=true) ∧
  Row U3 b (cSn ch v 1 (x,t) none vo) 72∧Row U3 w.heap.size (cC zC) 74∧Only b w U3∧(∀ j,j≠b→U3.heap[j]? = w5.heap[j]?):=by
 have hlt:=h.row.lt
 have hW2:Below w.heap.size w ((w.alloc (.cells (aC zC) 74)).alloc (.cells (aA (x,t)) 67)):=Below.step (below_alloc w (.cells (aC zC) 74)) (below_alloc _ (.cells (aA (x,t)) 67))
 have hsz:(w.alloc (.cells (aC zC) 74)).heap.size=w.heap.size+1:=by simp
 have row5:=h.row.keep (Below.step hW2 hb5)
 rw[hst] at row5
 have rowT5:Row w5 (w.heap.size+1) (cA (x,t)) 67:=by
  have:=(Row.new (w.alloc (.cells (aC zC) 74)) (cA (x,t)) 67).keep hb5
  rwa[hsz] at this
 have rowR5:Row w5 w.heap.size (cC zC) 74:=((Row.new w (cC zC) 74).keep (below_alloc _ (.cells (aA (x,t)) 67))).keep hb5
 have row1:Row U1 b (cSn ch v 0 s.cur q vo) 72:=by rw[h1];exact row5.set 1 v
 have row2:Row U2 b (cSn ch v 0 (x,t) none vo) 72:=by rw[h2];exact row_del row1 (x,t) none
 have row3:Row U3 b (cSn ch v 1 (x,t) none vo) 72:=by rw[h3];exact row2.set 2 (.int .i64 1)
 have o1:∀ j,j≠b→U1.heap[j]? = w5.heap[j]?:=fun j hj=>by rw[h1];exact heap_set_other w5 b 1 v j hj
 have o2:∀ j,j≠b→U2.heap[j]? = U1.heap[j]?:=fun j hj=>by rw[h2];exact heap_stD_other U1 b 3 _ j hj
 have o3:∀ j,j≠b→U3.heap[j]? = U2.heap[j]?:=fun j hj=>by rw[h3];exact heap_set_other U2 b 2 _ j hj
 have rowT1:=rowT5.same (o1 _ (by omega))
 have rowT3:=(rowT1.same (o2 _ (by omega))).same (o3 _ (by omega))
 have rowR3:=((rowR5.same (o1 _ (by omega))).same (o2 _ (by omega))).same (o3 _ (by omega))
 refine⟨⟨row5.cell 1,row5.fz 1⟩,⟨Row.ok _ row1 3 34 (by rw[cSn_length];omega),rowA_all rowT1⟩,⟨row2.cell 2,row2.fz 2⟩,⟨(rowA_id rowT3).1,(rowA_id rowT3).2,(rowT3.cell 32).trans (cA_32 (x,t)),rowR3.rok (cC_length zC)⟩,row3,rowR3,?_,fun j hj=>(o3 j hj).trans ((o2 j hj).trans (o1 j hj))⟩
 subst h3 h2 h1
 exact (((Only.of_below (Below.step hW2 hb5)).trans (Only.setCell b 1 w5 v)).trans (Only.stD _ 3 _)).trans (Only.setCell b 2 _ _)
set_option maxRecDepth 100000 in
set_option maxHeartbeats 1600000 in
theorem say18_offer (b:Nat) (ch:Int) (s:St) (F:List Nat) (x:Id) (t:ByteArray) (r:List Art) (w:World) (h:Rep b ch s F w) (h0:s.state=0) (hw:s.wait=(x,t) :: r) (hm:s.wait.length≤100000) :
  Calls Tryz.prog 23 #[.pointer (some ⟨b,0,none⟩)] w fun e w'=>e=.returned (.tuple #[vC ⟨2,⟨#[]⟩,x,(t.size:Int),0,0,0,⟨#[]⟩⟩,.bool true])∧∃ F',Rep b ch ⟨r,1,(x,t),s.outs,none⟩ F' w'∧Kp F F' w w':=by
 obtain⟨vw,vo,q,h⟩:=h
 have r1:=h.c1
 have r2:=h.c2
 rw[h0] at r2
 have hlt:=h.row.lt
 obtain⟨A,c,hvw,hc,hsl⟩:=h.ow.sl
 rw[hw,List.length_cons] at hvw hc
 rw[hw] at hsl
 obtain⟨ad,hA,hok,hrd⟩:=Sl.art hsl (k:=0) (by simp)
 subst hA
 have hadlt:ad.block<w.heap.size:=by
  obtain⟨ad',e,hat⟩:=Sl.at_ cA_length hsl (k:=0) (by simp)
  obtain rfl:ad=ad':=by injection e
  have:=hat.1
  rwa[block_of_add] at this
 rw[Nat.zero_mul,show ad.add 0=ad from rfl] at hok hrd
 rw[List.getElem_cons_zero] at hrd
 have hcut:=Sl.cut cA_length hsl (c:=c) (k:=1) (by rw[List.length_cons];exact hc)
 rw[List.drop_succ_cons,List.drop_zero] at hcut
 have hrl:r.length≤100000:=by rw[hw,List.length_cons] at hm;omega
 subst hvw
 obtain⟨n,hn⟩:∃ n,r.length=n:=⟨_,rfl⟩
 rw[hn] at r1 hc hrl
 have hc1:c=1→Sl w cA (some ad) r:=fun e=>by rwa[if_pos e] at hcut
 have hc2:¬ c=1→Sl w cA (some ⟨ad.block,ad.off+33,none⟩) r:=fun e=>by
  rw[if_neg e] at hcut
  rwa[show Option.map (fun x:Addr=>x.add (1 * 33)) (some ad)=some ⟨ad.block,ad.off+33,none⟩ from rfl] at hcut
 have HX:=Lib.hid (And.intro h (And.intro hc1 (And.intro hc2 (And.intro hn h0))))
 clear h hsl hcut hw hm h0 hc1 hc2
 have q0:(0:Int)<(n:Int)+1:=by omega
 go_enter Tryz.func23,Tryz.ntmps23
 go_wp2_with (go_at_call 48;refine (clone39 _ n _ r _ HX.out.2.2.2.1 ?_ hrl).mono ?_;(first|exact (HX.out.2.1 (by assumption)).keep (Below.step (below_alloc w (.cells (aC zC) 74)) (below_alloc _ (.cells (aA (x,t)) 67)))|exact (HX.out.2.2.1 (by assumption)).keep (Below.step (below_alloc w (.cells (aC zC) 74)) (below_alloc _ (.cells (aA (x,t)) 67))));rintro e w5 ⟨A5,n5,c5,rfl,ho5,hb5⟩;obtain⟨⟨j1,j2⟩,⟨j3,j4,j5⟩,⟨j6,j7⟩,⟨j8,j9,j10,j11⟩,z1,z2,z3,z4⟩:=offer_facts HX.out.1 HX.out.2.2.2.2 x t (.slice A5 n5 c5) hb5 _ _ _ rfl rfl rfl;have HO:=Lib.hid (And.intro ho5 (And.intro z1 (And.intro z2 (And.intro z3 z4))));clear ho5 hb5 z1 z2 z3 z4)
 all_goals
  have ho:=HO.out.1
  have hsz:w.heap.size+2≤((w.alloc (.cells (aC zC) 74)).alloc (.cells (aA (x,t)) 67)).heap.size:=by simp
  exact bodyPost_ret (v:=.tuple #[vC ⟨2,⟨#[]⟩,x,(t.size:Int),0,0,0,⟨#[]⟩⟩,.bool true]) (results_c2 (ad:=⟨w.heap.size,0,none⟩) rfl rfl (load_C (HO.out.2.2.1.setRow (ds:=cC ⟨2,⟨#[]⟩,x,(t.size:Int),0,0,0,⟨#[]⟩⟩))) rfl) rfl
   ⟨rfl,Rp.moved (s':=⟨r,1,(x,t),s.outs,none⟩) HX.out.1 ((ho.mono (by omega)).same fun k e=>(heap_setRow_other _ _ _ _ (by have:=(ho.lt k e).1;omega)).trans (HO.out.2.2.2.2 k (by have:=(ho.lt k e).1;omega))) (HO.out.2.1.same (heap_setRow_other _ _ _ _ (by omega))) rfl rfl (HO.out.2.2.2.1.setRow (Nat.le_refl _) _)⟩
end Go.Proofs.YtdkjgcfhepplbaaGreatDoor.Sn
namespace Go.Proofs.YtdkjgcfhepplbaaGreatDoor.Sn
open Go.RowKit
theorem Rp.said {b:Nat} {ch:Int} {s s':St} {F:List Nat} {vw vo:Value} {q:Option Addr} {w u:World} {g:Nat} {tt:Int×Bool} (h:Rp b ch s F vw vo q w) (hg:q=some ⟨g,0,none⟩) (hgF:g∈F) (hgb:g≠b) (hgw:vw.ownBlock≠some g) (hgo:vo.ownBlock≠some g)
  (hrow:Row u b (cSn ch vw s'.state s'.cur q vo) 72) (htr:Row u g (cT s'.cur ch tt.1 tt.2) 159) (hwt:s'.wait=s.wait) (hout:s'.outs=s.outs) (hsnd:s'.snd=some tt) (hon:∀ k,k<w.heap.size→k≠b→k≠g→u.heap[k]? = w.heap[k]?):Rep b ch s' F u:=by
 refine⟨vw,vo,q,⟨hrow,?_,?_,fun e=>(by rw[hsnd] at e;cases e),fun t ht=>?_,h.bF,h.wF,h.oF⟩⟩
 ·rw[hwt]
  exact h.ow.same fun k e=>hon k (h.ow.lt k e).2 (h.wF k e).2.1 fun e2=>hgw (e2▸e)
 ·rw[hout]
  exact h.oo.same fun k e=>hon k (h.oo.lt k e).2 (h.oF k e).2 fun e2=>hgo (e2▸e)
 ·rw[hsnd] at ht
  injection ht with ht
  subst ht
  exact⟨g,hg,hgb,hgF,htr,hgw,hgo⟩
theorem said_world {w w2:World} {g:Nat} (ho2:Only g (w.alloc (.cells (aC zC) 74)) w2) (c:Cm) (W:World) (hW:W=(w2.setRow w.heap.size (aC c)).alloc (.cells (aC c) 74)) :
  (W.os=w.os∧W.tape=w.tape∧W.output=w.output∧w.heap.size≤W.heap.size)∧∀ k,k<w.heap.size→k≠g→W.heap[k]? = w.heap[k]?:=by
 subst hW
 have hs:=ho2.size
 have hs1:(w.alloc (.cells (aC zC) 74)).heap.size=w.heap.size+1:=by simp
 have hs2:(w2.setRow w.heap.size (aC c)).heap.size=w2.heap.size:=by simp[World.setRow]
 refine⟨⟨ho2.os,ho2.tape,ho2.output,?_⟩,fun k hk hg=>?_⟩
 ·have:((w2.setRow w.heap.size (aC c)).alloc (.cells (aC c) 74)).heap.size=(w2.setRow w.heap.size (aC c)).heap.size+1:=by simp
  omega
 ·exact (Below.heap_alloc _ _ k (by omega)).trans ((heap_setRow_other w2 _ k _ (by omega)).trans ((ho2.out k (by omega) hg).trans (Below.heap_alloc w _ k hk)))
section
set_option maxRecDepth 100000
set_option maxHeartbeats 1600000
theorem say18_data (b:Nat) (ch:Int) (s:St) (F:List Nat) (x:Id) (t:ByteArray) (sent:Int) (w:World) (h:Rep b ch s F w) (hst:s.state=2) (hcur:s.cur=(x,t)) (hsnd:s.snd=some (sent,false)) (hs:t.size≤1000000) (h0:0≤sent) (h1:sent<(t.size:Int)) (h2:1≤ch) (h3:ch≤4096) :
  Calls Tryz.prog 23 #[.pointer (some ⟨b,0,none⟩)] w fun e w'=>e=.returned (.tuple #[vC ⟨7,⟨#[]⟩,x,0,sent,0,0,t.extract sent.toNat (min (sent+ch) (t.size:Int)).toNat⟩,.bool true])∧Rep b ch { s with snd:=some (min (sent+ch) (t.size:Int),false) } F w'∧Kp F F w w':=by
 obtain⟨vw,vo,q,h⟩:=h
 obtain⟨g,rfl,hgb,hgF,hrow,hgw,hgo⟩:=h.some_ _ hsnd
 rw[hcur] at hrow
 have r2:=h.c2
 rw[hst] at r2
 have r36:=h.c36
 have hlt:=h.row.lt
 have hglt:=hrow.lt
 have hsay:sayT (x,t) ch sent false=(⟨7,⟨#[]⟩,x,0,sent,0,0,t.extract sent.toNat (min (sent+ch) (t.size:Int)).toNat⟩,true,min (sent+ch) (t.size:Int),false):=by
  unfold sayT
  rw[if_neg (by simp),if_neg (show ¬ sent=(t.size:Int) by omega)]
 obtain⟨cc,hcc⟩:∃ cc,t.extract sent.toNat (min (sent+ch) (t.size:Int)).toNat=cc:=⟨_,rfl⟩
 obtain⟨nx,hnx⟩:∃ nx,min (sent+ch) (t.size:Int)=nx:=⟨_,rfl⟩
 have hcall:Calls Tryz.prog 49 #[.pointer (some ⟨g,0,none⟩)] (w.alloc (.cells (aC zC) 74)) (SayP g (x,t) ch sent false (w.alloc (.cells (aC zC) 74))):=say40_data g x t ch sent _ (hrow.keep (below_alloc _ _)) hs h0 h1 h2 h3
 unfold SayP at hcall
 rw[hsay,hcc,hnx] at hcall
 rw[hcc,hnx]
 have HX:=Lib.hid (And.intro h (And.intro hgb (And.intro hgF (And.intro hgw (And.intro hgo (And.intro hst (And.intro hcur hcall)))))))
 clear h hrow hgF hgw hgo hcall hsay hcc hnx h0 h1 h2 h3 hs hcur hsnd hst
 have q0:(2:Int)≠0:=by decide
 go_enter Tryz.func23,Tryz.ntmps23
 go_wp2_with (go_at_call 49;refine HX.out.2.2.2.2.2.2.2.mono ?_;rintro e w2 ⟨rfl,hr2,ho2⟩;have hres2:Row w2 w.heap.size (cC zC) 74:=(Row.new w (cC zC) 74).same (ho2.out _ (by simp) (by omega));have hro:=hres2.rok (cC_length zC);have H2:=Lib.hid (And.intro hr2 (And.intro ho2 hres2));have hlt2:w.heap.size<w2.heap.size:=hres2.lt;clear hr2 ho2 hres2)
 obtain⟨⟨e1,e2,e3,e4⟩,hk⟩:=said_world H2.out.2.1 ⟨7,⟨#[]⟩,x,0,sent,0,0,cc⟩ _ rfl
 have hp:=HX.out.1
 have hres:Row ((w2.setRow w.heap.size (aC ⟨7,⟨#[]⟩,x,0,sent,0,0,cc⟩)).alloc (.cells (aC ⟨7,⟨#[]⟩,x,0,sent,0,0,cc⟩) 74)) w.heap.size (cC ⟨7,⟨#[]⟩,x,0,sent,0,0,cc⟩) 74:=(H2.out.2.2.setRow (ds:=cC ⟨7,⟨#[]⟩,x,0,sent,0,0,cc⟩)).keep (below_alloc _ _)
 have htr:Row ((w2.setRow w.heap.size (aC ⟨7,⟨#[]⟩,x,0,sent,0,0,cc⟩)).alloc (.cells (aC ⟨7,⟨#[]⟩,x,0,sent,0,0,cc⟩) 74)) g (cT (x,t) ch nx false) 159:=(H2.out.1.same (heap_setRow_other _ _ _ _ (by omega))).keep (below_alloc _ _)
 exact bodyPost_ret (v:=.tuple #[vC ⟨7,⟨#[]⟩,x,0,sent,0,0,cc⟩,.bool true]) (results_c2 (ad:=⟨w.heap.size,0,none⟩) rfl rfl (load_C hres) rfl) rfl
  ⟨rfl,Rp.said (tt:=(nx,false)) hp rfl HX.out.2.2.1 hgb HX.out.2.2.2.1 HX.out.2.2.2.2.1 (hp.row.same (hk b hlt (fun e=>hgb e.symm))) (by dsimp only;rw[HX.out.2.2.2.2.2.2.1];exact htr) rfl rfl rfl (fun k h1 _ h3=>hk k h1 h3),⟨e1,e2,e3,e4,fun k h1 h2=>⟨h2,hk k h1 (fun e=>h2 (e▸HX.out.2.2.1))⟩⟩⟩
theorem say18_done (b:Nat) (ch:Int) (s:St) (F:List Nat) (x:Id) (t:ByteArray) (w:World) (h:Rep b ch s F w) (hst:s.state=2) (hcur:s.cur=(x,t)) (hsnd:s.snd=some ((t.size:Int),false)) (hs:t.size≤1000000) :
  Calls Tryz.prog 23 #[.pointer (some ⟨b,0,none⟩)] w fun e w'=>e=.returned (.tuple #[vC ⟨8,⟨#[]⟩,x,0,0,0,0,⟨#[]⟩⟩,.bool true])∧Rep b ch { s with state:=3,snd:=some ((t.size:Int),true) } F w'∧Kp F F w w':=by
 obtain⟨vw,vo,q,h⟩:=h
 obtain⟨g,rfl,hgb,hgF,hrow,hgw,hgo⟩:=h.some_ _ hsnd
 rw[hcur] at hrow
 have r2:=h.c2
 rw[hst] at r2
 have r36:=h.c36
 have hlt:=h.row.lt
 have hglt:=hrow.lt
 have hsay:sayT (x,t) ch (t.size:Int) false=(⟨8,⟨#[]⟩,x,0,0,0,0,⟨#[]⟩⟩,true,(t.size:Int),true):=by
  unfold sayT
  rw[if_neg (by simp),if_pos rfl]
 have hcall:Calls Tryz.prog 49 #[.pointer (some ⟨g,0,none⟩)] (w.alloc (.cells (aC zC) 74)) (SayP g (x,t) ch (t.size:Int) false (w.alloc (.cells (aC zC) 74))):=say40_done g x t ch _ (hrow.keep (below_alloc _ _)) hs
 unfold SayP at hcall
 rw[hsay] at hcall
 have HX:=Lib.hid (And.intro h (And.intro hgb (And.intro hgF (And.intro hgw (And.intro hgo (And.intro hst (And.intro hcur hcall)))))))
 clear h hrow hgF hgw hgo hcall hsay hs hcur hsnd hst
 have q0:(2:Int)≠0:=by decide
 go_enter Tryz.func23,Tryz.ntmps23
 go_wp2_with (go_at_call 49;refine HX.out.2.2.2.2.2.2.2.mono ?_;rintro e w2 ⟨rfl,hr2,ho2⟩;have hres2:Row w2 w.heap.size (cC zC) 74:=(Row.new w (cC zC) 74).same (ho2.out _ (by simp) (by omega));have hro:=hres2.rok (cC_length zC);have hb2:w2.heap[b]? = w.heap[b]?:=(ho2.out b (by simp;omega) (fun e=>hgb e.symm)).trans (Below.heap_alloc w _ b hlt);have hbc:=(World.cell?_of_block (a:=⟨b,2,none⟩) hb2).trans r2;have hbf:=(World.frozen?_of_block (a:=⟨b,2,none⟩) hb2).trans (HX.out.1.row.fz 2);have hro2:rowOk (w2.setCell ⟨b,2,none⟩ (.int .i64 3)) w.heap.size 39=true:=(hres2.same (heap_set_other w2 b 2 _ _ (by omega))).rok (cC_length zC);have H2:=Lib.hid (And.intro hr2 (And.intro ho2 (And.intro hres2 hb2)));have hlt2:w.heap.size<w2.heap.size:=hres2.lt;have hblt:b<w2.heap.size:=Nat.lt_trans hlt hlt2;clear hr2 ho2 hres2 hb2)
 have hp:=HX.out.1
 have ho2:=H2.out.2.1
 have hs:=ho2.size
 have hs1:(w.alloc (.cells (aC zC) 74)).heap.size=w.heap.size+1:=by simp
 have hsV:((w2.setCell ⟨b,2,none⟩ (.int .i64 3)).setRow w.heap.size (aC ⟨8,⟨#[]⟩,x,0,0,0,0,⟨#[]⟩⟩)).heap.size=w2.heap.size:=by simp[World.setRow,World.setCell]
 have hkW:∀ k,k<w2.heap.size→k≠b→k≠w.heap.size→(((w2.setCell ⟨b,2,none⟩ (.int .i64 3)).setRow w.heap.size (aC ⟨8,⟨#[]⟩,x,0,0,0,0,⟨#[]⟩⟩)).alloc (.cells (aC ⟨8,⟨#[]⟩,x,0,0,0,0,⟨#[]⟩⟩) 74)).heap[k]? = w2.heap[k]?:=fun k hk h1 h2 =>
  (Below.heap_alloc _ _ k (by omega)).trans ((heap_setRow_other _ _ k _ h2).trans (heap_set_other w2 b 2 _ k h1))
 have hk:∀ k,k<w.heap.size→k≠b→k≠g→(((w2.setCell ⟨b,2,none⟩ (.int .i64 3)).setRow w.heap.size (aC ⟨8,⟨#[]⟩,x,0,0,0,0,⟨#[]⟩⟩)).alloc (.cells (aC ⟨8,⟨#[]⟩,x,0,0,0,0,⟨#[]⟩⟩) 74)).heap[k]? = w.heap[k]?:=fun k hk h1 h2 =>
  (hkW k (by omega) h1 (by omega)).trans ((ho2.out k (by omega) h2).trans (Below.heap_alloc w _ k hk))
 have hrowb:Row (((w2.setCell ⟨b,2,none⟩ (.int .i64 3)).setRow w.heap.size (aC ⟨8,⟨#[]⟩,x,0,0,0,0,⟨#[]⟩⟩)).alloc (.cells (aC ⟨8,⟨#[]⟩,x,0,0,0,0,⟨#[]⟩⟩) 74)) b (cSn ch vw 3 s.cur (some ⟨g,0,none⟩) vo) 72:=by
  have r0:=(hp.row.same H2.out.2.2.2).set 2 (.int .i64 3)
  rw[cSn_set2] at r0
  exact (r0.same (heap_setRow_other _ _ _ _ (by omega))).keep (below_alloc _ _)
 have hres:Row (((w2.setCell ⟨b,2,none⟩ (.int .i64 3)).setRow w.heap.size (aC ⟨8,⟨#[]⟩,x,0,0,0,0,⟨#[]⟩⟩)).alloc (.cells (aC ⟨8,⟨#[]⟩,x,0,0,0,0,⟨#[]⟩⟩) 74)) w.heap.size (cC ⟨8,⟨#[]⟩,x,0,0,0,0,⟨#[]⟩⟩) 74:=(((H2.out.2.2.1).same (heap_set_other w2 b 2 _ _ (by omega))).setRow (ds:=cC ⟨8,⟨#[]⟩,x,0,0,0,0,⟨#[]⟩⟩)).keep (below_alloc _ _)
 have htr:Row (((w2.setCell ⟨b,2,none⟩ (.int .i64 3)).setRow w.heap.size (aC ⟨8,⟨#[]⟩,x,0,0,0,0,⟨#[]⟩⟩)).alloc (.cells (aC ⟨8,⟨#[]⟩,x,0,0,0,0,⟨#[]⟩⟩) 74)) g (cT (x,t) ch (t.size:Int) true) 159:=H2.out.1.same (hkW g (by omega) hgb (by omega))
 have hsW:w.heap.size≤(((w2.setCell ⟨b,2,none⟩ (.int .i64 3)).setRow w.heap.size (aC ⟨8,⟨#[]⟩,x,0,0,0,0,⟨#[]⟩⟩)).alloc (.cells (aC ⟨8,⟨#[]⟩,x,0,0,0,0,⟨#[]⟩⟩) 74)).heap.size:=by
  have:(((w2.setCell ⟨b,2,none⟩ (.int .i64 3)).setRow w.heap.size (aC ⟨8,⟨#[]⟩,x,0,0,0,0,⟨#[]⟩⟩)).alloc (.cells (aC ⟨8,⟨#[]⟩,x,0,0,0,0,⟨#[]⟩⟩) 74)).heap.size=((w2.setCell ⟨b,2,none⟩ (.int .i64 3)).setRow w.heap.size (aC ⟨8,⟨#[]⟩,x,0,0,0,0,⟨#[]⟩⟩)).heap.size+1:=by simp
  omega
 exact bodyPost_ret (v:=.tuple #[vC ⟨8,⟨#[]⟩,x,0,0,0,0,⟨#[]⟩⟩,.bool true]) (results_c2 (ad:=⟨w.heap.size,0,none⟩) rfl rfl (load_C hres) rfl) rfl
  ⟨rfl,Rp.said (s':={ s with state:=3,snd:=some ((t.size:Int),true) }) (tt:=((t.size:Int),true)) hp rfl HX.out.2.2.1 hgb HX.out.2.2.2.1 HX.out.2.2.2.2.1 hrowb (by dsimp only;rw[HX.out.2.2.2.2.2.2.1];exact htr) rfl rfl rfl hk,⟨ho2.os,ho2.tape,ho2.output,hsW,fun k h1 h2=>⟨h2,hk k h1 (fun e=>h2 (e▸hp.bF)) (fun e=>h2 (e▸HX.out.2.2.1))⟩⟩⟩
theorem say18_none (b:Nat) (ch:Int) (s:St) (F:List Nat) (w:World) (h:Rep b ch s F w) (hst:s.state≠2) (hw:s.state=0→s.wait=[]) :
  Calls Tryz.prog 23 #[.pointer (some ⟨b,0,none⟩)] w fun e w'=>e=.returned (.tuple #[vC zC,.bool false])∧Rep b ch s F w'∧Kp F F w w':=by
 obtain⟨vw,vo,q,h⟩:=h
 have r1:=h.c1
 have r2:=h.c2
 have hlt:=h.row.lt
 obtain⟨A,c,hvw,hc,hsl⟩:=h.ow.sl
 subst hvw
 generalize hn:s.wait.length=n at *
 obtain⟨st,hs2⟩:∃ st,s.state=st:=⟨_,rfl⟩
 rw[hs2] at r2 hst hw
 have hn0:st=0→(n:Int)=0:=fun e=>by rw[← hn,hw e];rfl
 have HX:=Lib.hid h
 clear h hsl hw hs2
 have hr:=load_C (Row.new w (cC zC) 74)
 by_cases h0:st=0
 ·have hn1:¬ (n:Int) > 0:=by have:=hn0 h0;omega
  subst h0
  clear hn0 hst
  go_enter Tryz.func23,Tryz.ntmps23
  go_wp2
  exact bodyPost_ret (v:=.tuple #[vC zC,.bool false]) (results_c2 (ad:=⟨w.heap.size,0,none⟩) rfl rfl hr rfl) rfl ⟨rfl,⟨_,_,_,HX.out.keep (below_alloc _ _)⟩,Kp.of_below (below_alloc _ _)⟩
 ·clear hn0
  go_enter Tryz.func23,Tryz.ntmps23
  go_wp2
  exact bodyPost_ret (v:=.tuple #[vC zC,.bool false]) (results_c2 (ad:=⟨w.heap.size,0,none⟩) rfl rfl hr rfl) rfl ⟨rfl,⟨_,_,_,HX.out.keep (below_alloc _ _)⟩,Kp.of_below (below_alloc _ _)⟩
end
end Go.Proofs.YtdkjgcfhepplbaaGreatDoor.Sn
namespace Go.Proofs.YtdkjgcfhepplbaaGreatDoor.Sn
open Go.RowKit
theorem store_facts {b:Nat} {ch:Int} {vw vo:Value} {st:Int} {a:Art} {q:Option Addr} {w5:World} (h:Row w5 b (cSn ch vw st a q vo) 72) (v:Value) (a':Art) (q':Option Addr) (n:Int) (U1 U2 U3:World) (h1:U1=w5.setCell ⟨b,1,none⟩ v) (h2:U2=stD U1 b 3 (cD a' q')) (h3:U3=U2.setCell ⟨b,2,none⟩ (.int .i64 n)) :
  (w5.cell? ⟨b,1,none⟩=some vw∧w5.frozen? ⟨b,1,none⟩=false)∧stOk U1 b 3 34=true∧(U2.cell? ⟨b,2,none⟩=some (.int .i64 st)∧U2.frozen? ⟨b,2,none⟩=false) ∧
  Row U3 b (cSn ch v n a' q' vo) 72∧Only b w5 U3∧(∀ j,j≠b→U3.heap[j]? = w5.heap[j]?):=by
 have row1:Row U1 b (cSn ch v st a q vo) 72:=by rw[h1];exact h.set 1 v
 have row2:Row U2 b (cSn ch v st a' q' vo) 72:=by rw[h2];exact row_del row1 a' q'
 have row3:Row U3 b (cSn ch v n a' q' vo) 72:=by rw[h3];exact row2.set 2 (.int .i64 n)
 have o1:∀ j,j≠b→U1.heap[j]? = w5.heap[j]?:=fun j hj=>by rw[h1];exact heap_set_other w5 b 1 v j hj
 have o2:∀ j,j≠b→U2.heap[j]? = U1.heap[j]?:=fun j hj=>by rw[h2];exact heap_stD_other U1 b 3 _ j hj
 have o3:∀ j,j≠b→U3.heap[j]? = U2.heap[j]?:=fun j hj=>by rw[h3];exact heap_set_other U2 b 2 _ j hj
 refine⟨⟨h.cell 1,h.fz 1⟩,Row.ok _ row1 3 34 (by rw[cSn_length];omega),⟨row2.cell 2,row2.fz 2⟩,row3,?_,fun j hj=>(o3 j hj).trans ((o2 j hj).trans (o1 j hj))⟩
 subst h3 h2 h1
 exact ((Only.setCell b 1 w5 v).trans (Only.stD _ 3 _)).trans (Only.setCell b 2 _ _)
section
set_option maxRecDepth 100000
set_option maxHeartbeats 800000
theorem outcomes25 (b:Nat) (ch:Int) (s:St) (F:List Nat) (w:World) (h:Rep b ch s F w) :
  Calls Tryz.prog 11 #[.pointer (some ⟨b,0,none⟩)] w fun e w'=>∃ A n c,e=.returned (.slice A n c)∧s.outs.length=n∧Sl w' cO A s.outs∧Rep b ch { s with outs:=[] } F w'∧Kp F F w w':=by
 obtain⟨vw,vo,q,h⟩:=h
 have r37:=h.c37
 have f37:=h.row.fz 37
 have hlt:=h.row.lt
 obtain⟨A,c,hvo,hc,hsl⟩:=h.oo.sl
 subst hvo
 have HX:=Lib.hid (And.intro h hsl)
 generalize hn:s.outs.length=n at *
 clear h hsl
 go_enter Tryz.func11,Tryz.ntmps11
 go_wp2
 go_ret
 have hp:=HX.out.1
 have hset:∀ k,k≠b→(w.setCell ⟨b,37,none⟩ (.slice none 0 0)).heap[k]? = w.heap[k]?:=fun k hk=>heap_set_other w b 37 _ k hk
 have hrow:=hp.row.set 37 (.slice none 0 0)
 rw[cSn_set37] at hrow
 refine⟨A,n,c,rfl,rfl,?_,⟨vw,.slice none 0 0,q,⟨hrow,hp.ow.same fun k e=>hset k (hp.wF k e).2.1,Own.nil _ _ _ _ _,hp.none_,fun t ht=>?_,hp.bF,fun k e=>⟨(hp.wF k e).1,(hp.wF k e).2.1,fun e2=>by cases e2⟩,fun k e=>by cases e⟩⟩,⟨rfl,rfl,rfl,by simp[World.setCell],fun k _ h2=>⟨h2,hset k (fun e=>h2 (e▸hp.bF))⟩⟩⟩
 ·obtain⟨A2,c2,e,_,hs⟩:=(hp.oo.same (w':=w.setCell ⟨b,37,none⟩ (.slice none 0 0)) fun k e=>hset k (hp.oF k e).2).sl
  injection e with e1 _ _
  rw[e1]
  exact hs
 ·obtain⟨g,e1,e2,e3,e4,e5,e6⟩:=hp.some_ t ht
  exact⟨g,e1,e2,e3,e4.same (hset g e2),e5,fun e=>by cases e⟩
theorem drop31_idle (b:Nat) (ch:Int) (s:St) (F:List Nat) (w:World) (h:Rep b ch s F w) (h0:s.state=0) :
  Calls Tryz.prog 40 #[.pointer (some ⟨b,0,none⟩)] w fun e w'=>e=.returned (.int .i64 0)∧w'=w:=by
 obtain⟨vw,vo,q,h⟩:=h
 have r2:=h.c2
 rw[h0] at r2
 clear h h0
 go_enter Tryz.func40,Tryz.ntmps40
 go_wp2
 go_ret
 exact⟨rfl,rfl⟩
end
set_option maxRecDepth 100000 in
set_option maxHeartbeats 1600000 in
theorem drop31 (b:Nat) (ch:Int) (s:St) (F:List Nat) (x:Id) (t:ByteArray) (w:World) (h:Rep b ch s F w) (h0:s.state≠0) (hcur:s.cur=(x,t)) (hm:s.wait.length≤100000) :
  Calls Tryz.prog 40 #[.pointer (some ⟨b,0,none⟩)] w fun e w'=>e=.returned (.int .i64 0)∧∃ F',Rep b ch ⟨(x,t) :: s.wait,0,zA,s.outs,none⟩ F' w'∧Kp F F' w w':=by
 obtain⟨vw,vo,q,h⟩:=h
 have r1:=h.c1
 have r2:=h.c2
 obtain⟨k3,k3'⟩:=h.art
 rw[hcur] at k3'
 have hlt:=h.row.lt
 obtain⟨A,c,hvw,hc,hsl⟩:=h.ow.sl
 subst hvw
 generalize hn:s.wait.length=n at *
 obtain⟨st,hst⟩:∃ st,s.state=st:=⟨_,rfl⟩
 rw[hst] at r2 h0
 have HX:=Lib.hid (And.intro h (And.intro hsl hn))
 clear h hsl hcur hst
 go_enter Tryz.func40,Tryz.ntmps40
 go_wp2_with fail
 refine AnyO.wp_any_tailI 12 (by kernel_rfl) (by kernel_rfl) (by kernel_rfl) (by kernel_rfl) (by kernel_rfl) (by kernel_rfl) (AnyO.InvA 11 6 (AnyO.pvL [some (.pointer (some ⟨b,0,none⟩)),some (.pointer (some ⟨b,0,none⟩)),some (.pointer (some ⟨b,0,none⟩)),some (.pointer (some ⟨b,3,none⟩)),some (.pointer (some ⟨b,3,none⟩)),some (vA (x,t)),none,some (.pointer (some ⟨b,0,none⟩)),some (.pointer (some ⟨b,0,none⟩)),some (.pointer (some ⟨b,1,none⟩)),some (.slice A n c),none]) (w) (fun v u=>Own u w.heap.size 67 33 cA v [(x,t)]) (fun v u=>Own u w.heap.size 67 33 cA v ((x,t) :: s.wait)∧Below w.heap.size w u)) (AnyO.InvA.start (by decide)) ?_ ?_
 ·intro i hi
  have hi2:i=0∨i=1∨i=2∨i=3∨i=4∨i=5∨i=6∨i=7∨i=8∨i=9∨i=10∨i=11:=by omega
  clear hi
  rcases hi2 with rfl|rfl|rfl|rfl|rfl|rfl|rfl|rfl|rfl|rfl|rfl|rfl
  ·refine AnyO.StepI.mk rfl [] (by kernel_rfl) ?_
   intro D vs u hI h0 hC hp ac hb K hK
   have s0:ac.tmps[0]?.getD undef=.pointer (some ⟨b,0,none⟩):=by rw[hb];kernel_rfl
   rw[if_pos (AnyO.wanted_none rfl)]
   clear hb
   go_simp
   exact hK _ _ (AnyO.InvA.pure hI (by decide) (by decide) rfl)
  ·refine AnyO.StepI.mk rfl [] (by kernel_rfl) ?_
   intro D vs u hI h0 hC hp ac hb K hK
   have s0:ac.tmps[0]?.getD undef=.pointer (some ⟨b,0,none⟩):=by rw[hb];kernel_rfl
   rw[if_pos (AnyO.wanted_none rfl)]
   clear hb
   go_simp
   exact hK _ _ (AnyO.InvA.pure hI (by decide) (by decide) rfl)
  ·refine AnyO.StepI.mk rfl [1] (by kernel_rfl) ?_
   intro D vs u hI h0 hC hp ac hb K hK
   have s11:ac.tmps[11]?.getD undef=.pointer (some ⟨b,0,none⟩):=by rw[hb];exact (show _=vs 1 by kernel_rfl).trans (show vs 1=.pointer (some ⟨b,0,none⟩) from hI.1 1 (hp 1 (by decide)))
   rw[if_pos (AnyO.wanted_none rfl)]
   clear hb
   go_simp
   exact hK _ _ (AnyO.InvA.pure hI (by decide) (by decide) rfl)
  ·refine AnyO.StepI.mk rfl [2] (by kernel_rfl) ?_
   intro D vs u hI h0 hC hp ac hb K hK
   have s12:ac.tmps[12]?.getD undef=.pointer (some ⟨b,0,none⟩):=by rw[hb];exact (show _=vs 2 by kernel_rfl).trans (show vs 2=.pointer (some ⟨b,0,none⟩) from hI.1 2 (hp 2 (by decide)))
   rw[if_pos (AnyO.wanted_none rfl)]
   clear hb
   go_simp
   exact hK _ _ (AnyO.InvA.pure hI (by decide) (by decide) rfl)
  ·refine AnyO.StepI.mk rfl [3] (by kernel_rfl) ?_
   intro D vs u hI h0 hC hp ac hb K hK
   have s13:ac.tmps[13]?.getD undef=.pointer (some ⟨b,3,none⟩):=by rw[hb];exact (show _=vs 3 by kernel_rfl).trans (show vs 3=.pointer (some ⟨b,3,none⟩) from hI.1 3 (hp 3 (by decide)))
   rw[if_pos (AnyO.wanted_none rfl)]
   clear hb
   go_simp
   exact hK _ _ (AnyO.InvA.pure hI (by decide) (by decide) rfl)
  ·refine AnyO.StepI.mk rfl [4] (by kernel_rfl) ?_
   intro D vs u hI h0 hC hp ac hb K hK
   have s14:ac.tmps[14]?.getD undef=.pointer (some ⟨b,3,none⟩):=by rw[hb];exact (show _=vs 4 by kernel_rfl).trans (show vs 4=.pointer (some ⟨b,3,none⟩) from hI.1 4 (hp 4 (by decide)))
   rw[if_pos (AnyO.wanted_none rfl)]
   have hnm:D 11=false:=by
    rcases hd:D 11 with _|_
    ·rfl
    ·have q6:=hC 11 hd 6 (by rw[show AnyO.pre _ 11=[6,10] from by kernel_rfl];decide)
     have q5:=hC 6 q6 5 (by rw[show AnyO.pre _ 6=[5] from by kernel_rfl];decide)
     rw[h0] at q5
     cases q5
   have hB:=(hI.2.1 hnm).1
   clear hb
   have rr:=okA_below k3 hlt hB
   rw[k3'] at rr
   obtain⟨rr1,rr2⟩:=rr
   go_simp
   exact hK _ _ (AnyO.InvA.pure hI (by decide) (by decide) rfl)
  ·refine AnyO.StepI.mk rfl [5] (by kernel_rfl) ?_
   intro D vs u hI h0 hC hp ac hb K hK
   have s15:ac.tmps[15]?.getD undef=vA (x,t):=by rw[hb];exact (show _=vs 5 by kernel_rfl).trans (show vs 5=vA (x,t) from hI.1 5 (hp 5 (by decide)))
   rw[if_pos (AnyO.wanted_none rfl)]
   have hnm:D 11=false:=by
    rcases hd:D 11 with _|_
    ·rfl
    ·have q6:=hC 11 hd 6 (by rw[show AnyO.pre _ 11=[6,10] from by kernel_rfl];decide)
     rw[h0] at q6
     cases q6
   have hB:=(hI.2.1 hnm).1
   clear hb
   go_simp
   exact hK _ _ (AnyO.InvA.slice hI (by decide) hnm (below_alloc _ _) trivial (Own.lit (w:=u) cA_length [(x,t)] hB.size (by simp)))
  ·refine AnyO.StepI.mk rfl [] (by kernel_rfl) ?_
   intro D vs u hI h0 hC hp ac hb K hK
   have s0:ac.tmps[0]?.getD undef=.pointer (some ⟨b,0,none⟩):=by rw[hb];kernel_rfl
   rw[if_pos (AnyO.wanted_none rfl)]
   clear hb
   go_simp
   exact hK _ _ (AnyO.InvA.pure hI (by decide) (by decide) rfl)
  ·refine AnyO.StepI.mk rfl [7] (by kernel_rfl) ?_
   intro D vs u hI h0 hC hp ac hb K hK
   have s17:ac.tmps[17]?.getD undef=.pointer (some ⟨b,0,none⟩):=by rw[hb];exact (show _=vs 7 by kernel_rfl).trans (show vs 7=.pointer (some ⟨b,0,none⟩) from hI.1 7 (hp 7 (by decide)))
   rw[if_pos (AnyO.wanted_none rfl)]
   clear hb
   go_simp
   exact hK _ _ (AnyO.InvA.pure hI (by decide) (by decide) rfl)
  ·refine AnyO.StepI.mk rfl [8] (by kernel_rfl) ?_
   intro D vs u hI h0 hC hp ac hb K hK
   have s18:ac.tmps[18]?.getD undef=.pointer (some ⟨b,0,none⟩):=by rw[hb];exact (show _=vs 8 by kernel_rfl).trans (show vs 8=.pointer (some ⟨b,0,none⟩) from hI.1 8 (hp 8 (by decide)))
   rw[if_pos (AnyO.wanted_none rfl)]
   clear hb
   go_simp
   exact hK _ _ (AnyO.InvA.pure hI (by decide) (by decide) rfl)
  ·refine AnyO.StepI.mk rfl [9] (by kernel_rfl) ?_
   intro D vs u hI h0 hC hp ac hb K hK
   have s19:ac.tmps[19]?.getD undef=.pointer (some ⟨b,1,none⟩):=by rw[hb];exact (show _=vs 9 by kernel_rfl).trans (show vs 9=.pointer (some ⟨b,1,none⟩) from hI.1 9 (hp 9 (by decide)))
   rw[if_pos (AnyO.wanted_none rfl)]
   have hnm:D 11=false:=by
    rcases hd:D 11 with _|_
    ·rfl
    ·have q10:=hC 11 hd 10 (by rw[show AnyO.pre _ 11=[6,10] from by kernel_rfl];decide)
     rw[h0] at q10
     cases q10
   have hB:=(hI.2.1 hnm).1
   clear hb
   have rr:=cell_below r1 hB
   go_simp
   exact hK _ _ (AnyO.InvA.pure hI (by decide) (by decide) rfl)
  ·refine AnyO.StepI.mk rfl [6,10] (by kernel_rfl) ?_
   intro D vs u hI h0 hC hp ac hb K hK
   have s16:ac.tmps[16]?.getD undef=vs 6:=by rw[hb];kernel_rfl
   have s20:ac.tmps[20]?.getD undef=.slice A n c:=by rw[hb];exact (show _=vs 10 by kernel_rfl).trans (show vs 10=.slice A n c from hI.1 10 (hp 10 (by decide)))
   rw[if_pos (AnyO.wanted_none rfl)]
   have hnm:D 11=false:=h0
   have hB:=(hI.2.1 hnm).1
   clear hb
   have hown:=(hI.2.1 hnm).2 (hp 6 (by decide))
   refine wp_append_sl u (.tmp 16) (.tmp 20) 65 rfl w.heap.size 67 33 48 cA Tryz.underlying65 row86 (by decide) cA_length cA_one (vs 6) [(x,t)] (by simpa[Act.eval] using s16) hown A n c s.wait HX.out.2.2 (by simpa[Act.eval] using s20) (HX.out.2.1.keep hB) (by have:=hm;simp;omega) (by have:=hm;simp;omega) hB.size ?_
   intro v2 u2 ho hgr
   exact hK _ _ (AnyO.InvA.app hI trivial ⟨ho,Own.grew hown hgr hB (Nat.le_refl _) hB.size⟩)
 ·intro D vs u hI hD
  have e0:vs 0=.pointer (some ⟨b,0,none⟩):=hI.1 0 (hD 0 (by decide))
  have e1:vs 1=.pointer (some ⟨b,0,none⟩):=hI.1 1 (hD 1 (by decide))
  have e2:vs 2=.pointer (some ⟨b,0,none⟩):=hI.1 2 (hD 2 (by decide))
  have e3:vs 3=.pointer (some ⟨b,3,none⟩):=hI.1 3 (hD 3 (by decide))
  have e4:vs 4=.pointer (some ⟨b,3,none⟩):=hI.1 4 (hD 4 (by decide))
  have e5:vs 5=vA (x,t):=hI.1 5 (hD 5 (by decide))
  have e7:vs 7=.pointer (some ⟨b,0,none⟩):=hI.1 7 (hD 7 (by decide))
  have e8:vs 8=.pointer (some ⟨b,0,none⟩):=hI.1 8 (hD 8 (by decide))
  have e9:vs 9=.pointer (some ⟨b,1,none⟩):=hI.1 9 (hD 9 (by decide))
  have e10:vs 10=.slice A n c:=hI.1 10 (hD 10 (by decide))
  have hA:=hI.2.2 (hD 11 (by decide))
  clear hI hD
  rw[puts_range [some 10,some 11,some 12,some 13,some 14,some 15,some 16,some 17,some 18,some 19,some 20,some 21] (by kernel_rfl)]
  simp only[putL,Nat.reduceAdd,List.drop_succ_cons,List.drop_zero,e0,e1,e2,e3,e4,e5,e7,e8,e9,e10]
  clear e0 e1 e2 e3 e4 e5 e7 e8 e9 e10
  generalize vs 11=vm at hA ⊢
  generalize vs 6=vl
  have hvm:∃ A2 n2 c2,vm=.slice A2 n2 c2:=by obtain⟨A2,c2,e,_⟩:=hA.1.sl;exact⟨A2,_,c2,e⟩
  obtain⟨A2,n2,c2,rfl⟩:=hvm
  obtain⟨⟨j1,j2⟩,j3,⟨j4,j5⟩,z1,z2,z3⟩:=store_facts (HX.out.1.row.keep hA.2) (.slice A2 n2 c2) zA none 0 _ _ _ rfl rfl rfl
  have HO:=Lib.hid (And.intro hA (And.intro z1 (And.intro z2 z3)))
  clear hA z1 z2 z3
  go_simp
  go_wp2
  go_ret
  have ho:=HO.out.1.1
  exact⟨rfl,Rp.moved (s':=⟨(x,t) :: s.wait,0,zA,s.outs,none⟩) HX.out.1 (ho.same fun k e=>HO.out.2.2.2 k (by have:=(ho.lt k e).1;omega)) HO.out.2.1 rfl rfl ((Only.of_below HO.out.1.2).trans HO.out.2.2.1)⟩
end Go.Proofs.YtdkjgcfhepplbaaGreatDoor.Sn
