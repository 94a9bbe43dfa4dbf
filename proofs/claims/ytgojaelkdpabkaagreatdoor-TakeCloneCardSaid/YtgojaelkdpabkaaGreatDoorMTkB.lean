/- A taker's part of an article, active or else kept: lookup, State, Received, Size. The identities of a taker's parts: ids, Active, Partial. What holds of a taker at any time: at most as many active parts as the window has, at most eight kept ones, none of them empty, and no part in both lists unless it is asked for again. Taker's Hear, whatever it hears. Taker's Answer, whatever it is told. A taker beside the law's own memory: what is kept of it from step to step. -/
import Derived.Test.YtgojaelkdpabkaaGreatDoorMDd
import Derived.Test.YtgojaelkdpabkaaGreatDoorMNil
import Derived.Test.YtgojaelkdpabkaaGreatDoorMRcv
import Derived.Test.YtgojaelkdpabkaaGreatDoorMAns
import Derived.Test.YtgojaelkdpabkaaGreatDoorMOff
import Derived.Test.YtgojaelkdpabkaaGreatDoorMAnw
import Derived.Test.YtgojaelkdpabkaaGreatDoorMAnsV
import Derived.Test.YtgojaelkdpabkaaGreatDoorMSml
namespace Go.Proofs.YtgojaelkdpabkaaGreatDoor
section
open Go.RowKit
theorem underPs2:Tryz.prog.underlying 125=some (.array 2 78):=by kernel_rfl
theorem sizePs:(Tryz.prog.info? 78).map (·.size)=some 1:=by kernel_rfl
section
variable (w : World) (a b : Option Addr) (n m c d : Nat)
theorem run_ix0:(Instr.index 125 (.agg #[.slice a n c,.slice b m d]) (.int .i64 0)).run Tryz.prog w=.ok (.slice a n c) w:=by
 have hp:=part_c w 78 #[.slice a n c,.slice b m d] 0 _ _ underPAs rfl rfl
 cases hq:Tryz.prog.info? 78 with
 | none=>have:=sizePs;rw[hq] at this;cases this
 | some x =>
  simp[Instr.index,run_underlying underPs2,asIntOf,go_sem,sizeOf,typeInfo,run_program,hq]
theorem run_ix1:(Instr.index 125 (.agg #[.slice a n c,.slice b m d]) (.int .i64 1)).run Tryz.prog w=.ok (.slice b m d) w:=by
 have hp:=part_c w 78 #[.slice a n c,.slice b m d] 1 _ _ underPAs rfl rfl
 cases hq:Tryz.prog.info? 78 with
 | none=>have:=sizePs;rw[hq] at this;cases this
 | some x =>
  have hx:x.size=1:=by have:=sizePs;rw[hq] at this;simpa using this
  simp[Instr.index,run_underlying underPs2,asIntOf,go_sem,sizeOf,typeInfo,run_program,hq,hx]
end
def lookL (s:Tk) (x:Id):Pt:=match posL s.act x with|some k=>ptK s.act k|none=>match posL s.kept x with|some k=>ptK s.kept k|none=>zA
theorem look_act {s:Tk} {x:Id} {k:Nat} (h:posL s.act x=some k) (hk:k<s.act.length):lookL s x=s.act[k]:=by unfold lookL;rw[h];exact ptK_eq hk
theorem look_kept {s:Tk} {x:Id} {k:Nat} (h:posL s.act x=none) (h2:posL s.kept x=some k) (hk:k<s.kept.length):lookL s x=s.kept[k]:=by unfold lookL;rw[h,h2];exact ptK_eq hk
theorem look_none {s:Tk} {x:Id} (h:posL s.act x=none) (h2:posL s.kept x=none):lookL s x=zA:=by unfold lookL;rw[h,h2]
set_option maxRecDepth 100000 in
set_option maxHeartbeats 3200000 in
theorem lookup45 (b:Nat) (s:Tk) (F:List Nat) (va vk:SlV) (x:Id) (w:World) (h:TkR b s F va vk w) (hna:s.act.length≤1000000) (hnk:s.kept.length≤1000000) :
  Calls Tryz.prog 45 #[.pointer (some ⟨b,0,none⟩),vI x] w fun e w'=>e=.returned (vA (lookL s x))∧Below w.heap.size w w':=by
 obtain⟨g,hg⟩:∃ g,w.heap.size=g:=⟨_,rfl⟩
 obtain⟨W1,hW1⟩:∃ W1,w.alloc (.cells (aI x) 30)=W1:=⟨_,rfl⟩
 have hb1:Below w.heap.size w W1:=by rw[← hW1];exact below_alloc _ _
 have hr1:Row W1 g (cI x) 30:=by rw[← hW1,← hg];exact Row.new w (cI x) _
 obtain⟨r0,hr0⟩:∃ r0,W1.heap.size=r0:=⟨_,rfl⟩
 obtain⟨W2,hW2⟩:∃ W2,W1.alloc (.cells (aA zA) 86)=W2:=⟨_,rfl⟩
 have hb2:Below W1.heap.size W1 W2:=by rw[← hW2];exact below_alloc _ _
 have hr2:Row W2 r0 (cA zA) 86:=by rw[← hW2,← hr0];exact Row.new W1 (cA zA) _
 have hT:TkR b s F va vk W2:=h.keep (Below.step hb1 hb2)
 have H:=Lib.hid (And.intro (hr1.keep hb2) (And.intro hr2 (And.intro hT (And.intro (Below.step hb1 hb2) (show w.heap.size≤r0 by rw[← hr0];exact hb1.size)))))
 have c2:=hT.c2
 rw[hT.la] at c2
 have c3:=hT.c3
 rw[hT.lk] at c3
 have HN:=Lib.hid (And.intro hna hnk)
 clear hb1 hr1 hb2 hr2 hT h hna hnk
 go_enter Tryz.func45,Tryz.ntmps45
 go_wp2
 go_quiet (fail)
 go_wp2
 have HQ:=Lib.hid (below_drewN W2 nq)
 go_loopw [20,6,7] (fun i _ _ wr=>∃ k:Nat,i=.int .i64 k∧k≤2∧(0<k→posL s.act x=none)∧(1<k→posL s.kept x=none)∧Below w.heap.size w wr∧Row wr g (cI x) 30∧Row wr r0 (cA zA) 86∧TkR b s F va vk wr) (fun i _ _ _=>3 - (intOf i).toNat)
 case atStart=>exact⟨0,rfl,by omega,fun h=>absurd h (by omega),fun h=>absurd h (by omega),Below.step H.out.2.2.2.1 HQ.out,H.out.1.keep HQ.out,H.out.2.1.keep HQ.out,H.out.2.2.1.keep HQ.out⟩
 case round =>
  obtain⟨k,rfl,hk,h1,h2,hb,hg,hr,hT⟩:=hrel
  have rr:=Row.okw hg (cI_length x)
  have r1:=rr.1
  have r2:rdA wr ⟨g,0,none⟩ 32=vI x:=rr.2
  have HB:=Lib.hid (And.intro h1 h2)
  have HK:=Lib.hid (And.intro hT (And.intro hb (And.intro hg hr)))
  clear h1 h2 hb hg hr hT rr
  have hk3:k=0∨k=1∨k=2:=by omega
  rcases hk3 with hk0|hk0|hk0
  ·obtain rfl:k=0:=by omega
   have rx:=run_ix0 wr va.1 vk.1 s.act.length s.kept.length va.2.2 vk.2.2
   cases hp:posL s.act x with
   | none =>
    have HX:=Lib.hid (idx_none hp)
    have HP:=Lib.hid hp
    clear hp
    go_wp2_with (go_at_call 40;refine (find40 va.1 va.2.2 s.act x wr (Own.slOf ((HK.out.1).oa)) HN.out.1).mono ?_;rw[HX.out];rintro e w3 ⟨rfl,hb3⟩;have H3:=Lib.hid hb3;clear hb3)
    go_roundw
    case rel=>exact⟨1,by go_num,by omega,fun _=>(by first|exact HP.out|trivial),fun h=>absurd h (by omega),Below.step HK.out.2.1 H3.out,HK.out.2.2.1.keep H3.out,HK.out.2.2.2.keep H3.out,HK.out.1.keep H3.out⟩
    case measure=>simp[intOf] <;> omega
   | some j =>
    obtain⟨hj, -, -⟩:=pos_some hp
    have HX:=Lib.hid (idx_some hp)
    have HP:=Lib.hid hp
    clear hp
    have hj1:(j:Int)<(s.act.length:Int):=by omega
    obtain⟨ad,hae, -⟩:=Sl.pt (Own.slOf (HK.out.1.oa)) hj
    have HAE:=Lib.hid hae
    rw[hae] at rx
    go_wp2_with (go_at_call 40;refine (find40 (some ad) va.2.2 s.act x wr (by have hq:=Own.slOf (HK.out.1.oa);rw[HAE.out] at hq;exact hq) HN.out.1).mono ?_;rw[HX.out];rintro e w3 ⟨rfl,hb3⟩;have H3:=Lib.hid hb3;clear hb3;obtain⟨ad2,hae2,ok1,rd1, -⟩:=Sl.pt (Own.slOf ((HK.out.1.keep H3.out).oa)) hj;obtain rfl:ad=ad2:=Option.some.inj (HAE.out.symm.trans hae2);clear hae2;have ro:rowOk w3 r0 35=true:=(HK.out.2.2.2.keep H3.out).rowOk (cA_length zA))
    exact bodyPost_ret (v:=vA s.act[j]) (results_c1 (ad:=⟨r0,0,none⟩) rfl rfl (ld_setRowP _ ro)) rfl ⟨by rw[look_act HP.out hj],(by first|exact Below.setRow' (Below.step HK.out.2.1 H3.out) H.out.2.2.2.2 _|(rw[← hg];exact Below.setRow' HK.out.2.1 H.out.2.2.2.2 _))⟩
  ·obtain rfl:k=1:=by omega
   have rx:=run_ix1 wr va.1 vk.1 s.act.length s.kept.length va.2.2 vk.2.2
   cases hp:posL s.kept x with
   | none =>
    have HX:=Lib.hid (idx_none hp)
    have HP:=Lib.hid hp
    clear hp
    go_wp2_with (go_at_call 40;refine (find40 vk.1 vk.2.2 s.kept x wr (Own.slOf ((HK.out.1).ok)) HN.out.2).mono ?_;rw[HX.out];rintro e w3 ⟨rfl,hb3⟩;have H3:=Lib.hid hb3;clear hb3)
    go_roundw
    case rel=>exact⟨2,by go_num,by omega,fun _=>HB.out.1 (by omega),fun _=>(by first|exact HP.out|trivial),Below.step HK.out.2.1 H3.out,HK.out.2.2.1.keep H3.out,HK.out.2.2.2.keep H3.out,HK.out.1.keep H3.out⟩
    case measure=>simp[intOf] <;> omega
   | some j =>
    obtain⟨hj, -, -⟩:=pos_some hp
    have HX:=Lib.hid (idx_some hp)
    have HP:=Lib.hid hp
    clear hp
    have hj1:(j:Int)<(s.kept.length:Int):=by omega
    obtain⟨ad,hae, -⟩:=Sl.pt (Own.slOf (HK.out.1.ok)) hj
    have HAE:=Lib.hid hae
    rw[hae] at rx
    go_wp2_with (go_at_call 40;refine (find40 (some ad) vk.2.2 s.kept x wr (by have hq:=Own.slOf (HK.out.1.ok);rw[HAE.out] at hq;exact hq) HN.out.2).mono ?_;rw[HX.out];rintro e w3 ⟨rfl,hb3⟩;have H3:=Lib.hid hb3;clear hb3;obtain⟨ad2,hae2,ok1,rd1, -⟩:=Sl.pt (Own.slOf ((HK.out.1.keep H3.out).ok)) hj;obtain rfl:ad=ad2:=Option.some.inj (HAE.out.symm.trans hae2);clear hae2;have ro:rowOk w3 r0 35=true:=(HK.out.2.2.2.keep H3.out).rowOk (cA_length zA))
    exact bodyPost_ret (v:=vA s.kept[j]) (results_c1 (ad:=⟨r0,0,none⟩) rfl rfl (ld_setRowP _ ro)) rfl ⟨by rw[look_kept (HB.out.1 (by omega)) HP.out hj],(by first|exact Below.setRow' (Below.step HK.out.2.1 H3.out) H.out.2.2.2.2 _|(rw[← hg];exact Below.setRow' HK.out.2.1 H.out.2.2.2.2 _))⟩
  ·obtain rfl:k=2:=by omega
   have ro:rowOk wr r0 35=true:=HK.out.2.2.2.rowOk (cA_length zA)
   go_wp2
   exact bodyPost_ret (v:=vA zA) (results_c1 (ad:=⟨r0,0,none⟩) rfl rfl (ld_setRowP zA ro)) rfl ⟨by rw[look_none (HB.out.1 (by omega)) (HB.out.2 (by omega))],(by first|exact Below.setRow' (Below.step HK.out.2.1 H3.out) H.out.2.2.2.2 _|(rw[← hg];exact Below.setRow' HK.out.2.1 H.out.2.2.2.2 _))⟩
section
set_option maxRecDepth 100000
theorem state22 (b:Nat) (s:Tk) (F:List Nat) (x:Id) (w:World) (h:TkAt b s F w) (hna:s.act.length≤1000000) (hnk:s.kept.length≤1000000):Calls Tryz.prog 22 #[.pointer (some ⟨b,0,none⟩),vI x] w fun e w'=>e=.returned (.int .i64 (lookL s x).state)∧Below w.heap.size w w':=by
 obtain⟨va,vk,h⟩:=h
 obtain⟨g,hg⟩:∃ g,w.heap.size=g:=⟨_,rfl⟩
 obtain⟨W1,hW1⟩:∃ W1,w.alloc (.cells (aI x) 30)=W1:=⟨_,rfl⟩
 have hrow:Row W1 g (cI x) 30:=by rw[← hW1,← hg];exact Row.new w (cI x) _
 have q:=Row.okw hrow (cI_length x)
 have r1:=q.1
 have r2:rdA W1 ⟨g,0,none⟩ 32=vI x:=q.2
 have hb1:Below w.heap.size w W1:=by rw[← hW1];exact below_alloc _ _
 have HB:=Lib.hid (And.intro hb1 (And.intro (h.keep hb1) (And.intro hna hnk)))
 clear q hrow hb1 h hna hnk
 obtain⟨p,hp⟩:∃ p,lookL s x=p:=⟨_,rfl⟩
 have HP:=Lib.hid hp
 rw[hp]
 clear hp
 go_enter Tryz.func22,Tryz.ntmps22
 go_wp2_with (go_at_call 45;refine (lookup45 b s F va vk x W1 HB.out.2.1 HB.out.2.2.1 HB.out.2.2.2).mono ?_;rw[HP.out];rintro e w2 ⟨rfl,hb2⟩;have rf:=run_field_st w2 p;have H2:=Lib.hid (Below.step HB.out.1 hb2);clear hb2)
 go_ret
 exact⟨rfl,H2.out⟩
theorem size24 (b:Nat) (s:Tk) (F:List Nat) (x:Id) (w:World) (h:TkAt b s F w) (hna:s.act.length≤1000000) (hnk:s.kept.length≤1000000):Calls Tryz.prog 24 #[.pointer (some ⟨b,0,none⟩),vI x] w fun e w'=>e=.returned (.int .i64 (lookL s x).size)∧Below w.heap.size w w':=by
 obtain⟨va,vk,h⟩:=h
 obtain⟨g,hg⟩:∃ g,w.heap.size=g:=⟨_,rfl⟩
 obtain⟨W1,hW1⟩:∃ W1,w.alloc (.cells (aI x) 30)=W1:=⟨_,rfl⟩
 have hrow:Row W1 g (cI x) 30:=by rw[← hW1,← hg];exact Row.new w (cI x) _
 have q:=Row.okw hrow (cI_length x)
 have r1:=q.1
 have r2:rdA W1 ⟨g,0,none⟩ 32=vI x:=q.2
 have hb1:Below w.heap.size w W1:=by rw[← hW1];exact below_alloc _ _
 have HB:=Lib.hid (And.intro hb1 (And.intro (h.keep hb1) (And.intro hna hnk)))
 clear q hrow hb1 h hna hnk
 obtain⟨p,hp⟩:∃ p,lookL s x=p:=⟨_,rfl⟩
 have HP:=Lib.hid hp
 rw[hp]
 clear hp
 go_enter Tryz.func24,Tryz.ntmps24
 go_wp2_with (go_at_call 45;refine (lookup45 b s F va vk x W1 HB.out.2.1 HB.out.2.2.1 HB.out.2.2.2).mono ?_;rw[HP.out];rintro e w2 ⟨rfl,hb2⟩;have rf:=run_field_sz w2 p;have H2:=Lib.hid (Below.step HB.out.1 hb2);clear hb2)
 go_ret
 exact⟨rfl,H2.out⟩
end
def rcvdL (s:Tk) (x:Id):Int:=if (lookL s x).state=1 then gotL s.kept x else ((lookL s x).bytes.size:Int)
set_option maxRecDepth 100000 in
theorem received23 (b:Nat) (s:Tk) (F:List Nat) (x:Id) (w:World) (h:TkAt b s F w) (hna:s.act.length≤1000000) (hnk:s.kept.length≤1000000):Calls Tryz.prog 23 #[.pointer (some ⟨b,0,none⟩),vI x] w fun e w'=>e=.returned (.int .i64 (rcvdL s x))∧Below w.heap.size w w':=by
 obtain⟨va,vk,h⟩:=h
 obtain⟨g,hg⟩:∃ g,w.heap.size=g:=⟨_,rfl⟩
 obtain⟨W1,hW1⟩:∃ W1,w.alloc (.cells (aI x) 30)=W1:=⟨_,rfl⟩
 have hrow:Row W1 g (cI x) 30:=by rw[← hW1,← hg];exact Row.new w (cI x) _
 have q:=Row.okw hrow (cI_length x)
 have r1:=q.1
 have r2:rdA W1 ⟨g,0,none⟩ 32=vI x:=q.2
 have hb1:Below w.heap.size w W1:=by rw[← hW1];exact below_alloc _ _
 have HB:=Lib.hid (And.intro hb1 (And.intro (h.keep hb1) (And.intro (And.intro hna hnk) hrow)))
 clear q hrow hb1 h hna hnk
 obtain⟨p,hp⟩:∃ p,lookL s x=p:=⟨_,rfl⟩
 have HP:=Lib.hid hp
 by_cases h1:p.state=1
 ·have HN:=Lib.hid (show rcvdL s x=gotL s.kept x by unfold rcvdL;rw[hp,if_pos h1])
  rw[HN.out]
  clear hp
  go_enter Tryz.func23,Tryz.ntmps23
  go_wp2_with (first
   | (go_at_call 41;refine (keptBytes41 b s F va vk x W3 H2.out.2.1 HB.out.2.2.1.2).mono ?_;rintro e w4 ⟨rfl,hb4⟩;have H4:=Lib.hid (Below.step H2.out.1 hb4);clear hb4)
   | (go_at_call 45;refine (lookup45 b s F va vk x W1 HB.out.2.1 HB.out.2.2.1.1 HB.out.2.2.1.2).mono ?_;rw[HP.out];rintro e w2 ⟨rfl,hb2⟩;obtain⟨r5,W3,hr5,ro,hW3,k33,k34,hb3⟩:=zero_part w2 p;rw[h1] at k33;have qq:=Row.okw ((HB.out.2.2.2.keep hb2).keep hb3) (cI_length x);have q1:=qq.1;have q2:rdA W3 ⟨g,0,none⟩ 32=vI x:=qq.2;have H2:=Lib.hid (And.intro (Below.step (Below.step HB.out.1 hb2) hb3) (And.intro ((HB.out.2.1.keep hb2).keep hb3) h1));clear hb2 hb3 qq h1))
  go_ret
  exact⟨rfl,H4.out⟩
 ·have HN:=Lib.hid (show rcvdL s x=(p.bytes.size:Int) by unfold rcvdL;rw[hp,if_neg h1])
  rw[HN.out]
  have q1:(p.state != 1)=true:=by simpa using h1
  clear hp
  go_enter Tryz.func23,Tryz.ntmps23
  go_wp2_with (go_at_call 45;refine (lookup45 b s F va vk x W1 HB.out.2.1 HB.out.2.2.1.1 HB.out.2.2.1.2).mono ?_;rw[HP.out];rintro e w2 ⟨rfl,hb2⟩;obtain⟨r5,W3,hr5,ro,hW3,k33,k34,hb3⟩:=zero_part w2 p;have H2:=Lib.hid (Below.step (Below.step HB.out.1 hb2) hb3);clear hb2 hb3)
  go_ret
  exact⟨rfl,H2.out⟩
end
section
open Go.RowKit
theorem rowIds:(Tryz.prog.info? 30).map (fun i=>(i.zero.map (·.cells.size),i.size,i.bytes))=some (some 32,32,32):=by kernel_rfl
def aIs (xs:List Id):Array Value:=(xs.flatMap cI).toArray
theorem vI_cells (x:Id):(vI x).cells.size=32:=by simp[vI,Value.cells,cI_length]
theorem underIds:Tryz.prog.underlying 45=some (.slice 30):=by kernel_rfl
section
variable (w : World)
@[go_sem ↓] theorem bsIds (n:Nat) (parts:Array (Nat×Value)):Instr.buildSlice 45 n parts=bsA 45 n parts:=rfl
theorem run_bsIds (xs:List Id) (h:xs.length≤100):(bsA 45 xs.length (xs.zipIdx.map fun x=>(x.2,vI x.1)).toArray).run Tryz.prog w=.ok (.slice (some ⟨w.heap.size,0,none⟩) xs.length xs.length) (w.alloc (.cells (aIs xs) 30)):=by
 obtain⟨i,z,h1,h2,h3⟩:=info_of rowIds
 exact run_bsA w vI 45 30 i z 32 underIds h1 h2 h3 vI_cells xs (by omega)
@[go_sem] theorem run_bsIds1 (x:Id):(bsA 45 1 #[(0,vI x)]).run Tryz.prog w=.ok (.slice (some ⟨w.heap.size,0,none⟩) 1 1) (w.alloc (.cells (aIs [x]) 30)):=run_bsIds w [x] (by simp)
end
set_option maxRecDepth 100000 in
set_option maxHeartbeats 1600000 in
theorem ids44 (A:Option Addr) (n c:Nat) (xs:List Pt) (w:World) (hsl:Sl w cA A xs) (hn:xs.length=n) (hm:n≤1000000) :
  Calls Tryz.prog 44 #[.slice A n c] w fun e w'=>∃ B m d,e=.returned (.slice B m d)∧xs.length=m∧Own w' w.heap.size 30 32 cI (.slice B m d) (xs.map Pt.id)∧Below w.heap.size w w':=by
 have HX:=Lib.hid (And.intro hsl (And.intro hn hm))
 clear hsl hn hm
 go_enter Tryz.func44,Tryz.ntmps44
 go_wp2
 go_loopw [3,8] (fun v i wr=>∃ k:Nat,k≤n∧i=.int .i64 k∧Own wr w.heap.size 30 32 cI v ((xs.take k).map Pt.id)∧Below w.heap.size w wr) (fun _ i _=>n - (intOf i).toNat)
 case atStart=>exact⟨0,Nat.zero_le _,rfl,by simpa using Own.nil _ _ _ _ _,Below.refl _ _⟩
 case round =>
  obtain⟨k,hk,rfl,ho,hb⟩:=hrel
  by_cases hlt2:k<n
  ·have hlk:(k:Int)<(n:Int):=by omega
   have hkb:k≤1000000:=by have:=HX.out.2.2;omega
   obtain⟨ad,rfl,hok,hrd, -⟩:=Sl.pt (HX.out.1.keep hb) (show k<xs.length by rw[HX.out.2.1];exact hlt2)
   have HT:=Lib.hid (show (xs.take (k+1)).map Pt.id=(xs.take k).map Pt.id++[(xs[k]'(by rw[HX.out.2.1];exact hlt2)).id] by rw[List.take_succ_eq_append_getElem (by rw[HX.out.2.1];exact hlt2),List.map_append];rfl)
   generalize (xs[k]'(by rw[HX.out.2.1];exact hlt2))=p at hok hrd HT
   have HO:=Lib.hid (And.intro ho hb)
   have hq:=Row.new wr (cA p) 86
   obtain⟨W3,hW3⟩:∃ W3,wr.alloc (.cells (aA p) 86)=W3:=⟨_,rfl⟩
   obtain⟨g3,hg3⟩:∃ g3,wr.heap.size=g3:=⟨_,rfl⟩
   have hr3:Row W3 g3 (cA p) 86:=by rw[← hW3,← hg3];exact Row.new wr (cA p) _
   have h3:=(hr3.at_ (k:=0) (n:=(cA p).length) (by rw[List.drop_zero,List.take_length])).id
   have r1:=h3.1
   have r2:=h3.2
   have HB3:=Lib.hid (show Below wr.heap.size wr W3 by rw[← hW3];exact below_alloc _ _)
   clear ho hb hq hr3 h3
   go_wp2_with (at_builtin;refine wpList_append_sl _ rfl (.tmp 12) (.tmp 15) 45 rfl w.heap.size 30 32 32 cI underIds rowIds (by decide) cI_length cI_one u3 ((xs.take k).map Pt.id) rfl (HO.out.1.keep (Below.step HB3.out (below_alloc _ (.cells (aIs [p.id]) 30)))) (some ⟨W3.heap.size,0,none⟩) 1 1 [p.id] rfl rfl (fun _=>⟨_,rfl,at_new W3 ([p.id].flatMap cI) 30 _ (by simp)⟩) (by have:=HX.out.2;simp;omega) (by have:=HX.out.2;simp;omega) (Nat.le_trans HO.out.2.size (Below.step HB3.out (below_alloc _ (.cells (aIs [p.id]) 30))).size) ?_)
   intro v2 w2 ho2 hg
   have hB1:=Below.step HB3.out (below_alloc W3 (.cells (aIs [p.id]) 30))
   have hW:=Below.step HO.out.2 hB1
   have hb2:=Own.grew (HO.out.1.keep hB1) hg hW (Nat.le_refl _) hW.size
   have ho3:Own w2 w.heap.size 30 32 cI v2 ((xs.take (k+1)).map Pt.id):=by rw[HT.out];simpa[List.map_take] using ho2
   clear ho2 hg hB1 hW
   go_wp2
   go_roundw
   case rel=>exact⟨k+1,hlt2,by go_num,ho3,hb2⟩
   case measure=>simp[intOf] <;> omega
  ·have hkn:k=n:=by omega
   subst hkn
   have hall:xs.take k=xs:=List.take_of_length_le (by rw[HX.out.2.1];exact Nat.le_refl _)
   rw[hall] at ho
   obtain⟨A2,c2,rfl,_,hs2⟩:=ho.sl
   have HO:=Lib.hid (And.intro ho hb)
   obtain⟨m,hm⟩:∃ m,(xs.map Pt.id).length=m:=⟨_,rfl⟩
   rw[hm] at HO
   rw[hm]
   have hmk:xs.length=m:=by rw[← hm,List.length_map]
   clear ho hb hs2 hall hm
   go_wp2
   go_ret
   exact⟨A2,m,c2,rfl,hmk,HO.out.1,HO.out.2⟩
section
set_option maxHeartbeats 1600000
theorem active19 (b:Nat) (s:Tk) (F:List Nat) (va vk:SlV) (w:World) (h:TkR b s F va vk w) (hn:s.act.length≤1000000) :
  Calls Tryz.prog 19 #[.pointer (some ⟨b,0,none⟩)] w fun e w'=>∃ B m d,e=.returned (.slice B m d)∧s.act.length=m∧Own w' w.heap.size 30 32 cI (.slice B m d) (s.act.map Pt.id)∧Below w.heap.size w w':=by
 have c2:=h.c2
 rw[h.la] at c2
 have H:=Lib.hid (ids44 va.1 s.act.length va.2.2 s.act w (Own.slOf h.oa) rfl hn)
 clear h
 go_enter Tryz.func19,Tryz.ntmps19
 go_wp2_with (go_at_call 44;refine H.out.mono ?_;rintro e w1 ⟨B,m,d,rfl,hm,ho,hb⟩;have HO:=Lib.hid (And.intro hm (And.intro ho hb));clear hm ho hb)
 go_ret
 exact⟨B,m,d,rfl,HO.out.1,HO.out.2.1,HO.out.2.2⟩
theorem partial20 (b:Nat) (s:Tk) (F:List Nat) (va vk:SlV) (w:World) (h:TkR b s F va vk w) (hn:s.kept.length≤1000000) :
  Calls Tryz.prog 20 #[.pointer (some ⟨b,0,none⟩)] w fun e w'=>∃ B m d,e=.returned (.slice B m d)∧s.kept.length=m∧Own w' w.heap.size 30 32 cI (.slice B m d) (s.kept.map Pt.id)∧Below w.heap.size w w':=by
 have c3:=h.c3
 rw[h.lk] at c3
 have H:=Lib.hid (ids44 vk.1 s.kept.length vk.2.2 s.kept w (Own.slOf h.ok) rfl hn)
 clear h
 go_enter Tryz.func20,Tryz.ntmps20
 go_wp2_with (go_at_call 44;refine H.out.mono ?_;rintro e w1 ⟨B,m,d,rfl,hm,ho,hb⟩;have HO:=Lib.hid (And.intro hm (And.intro ho hb));clear hm ho hb)
 go_ret
 exact⟨B,m,d,rfl,HO.out.1,HO.out.2.1,HO.out.2.2⟩
end
end
section
open Go.RowKit
structure TkI (s:Tk):Prop where
 win1:1≤s.win
 win64:s.win≤64
 act:(s.act.length:Int)≤s.win
 kept:s.kept.length≤8
 shut:s.opn=false→s.act=[]
 kst:∀ p∈s.kept,p.state=4∧0<p.bytes.size∧p.bytes.size≤65536
 ast:∀ p∈s.act,1≤p.state∧p.state≤3∧p.size≤65536∧p.bytes.size≤65536
 two:∀ p∈s.act,∀ q∈s.kept,p.id=q.id→p.state=1
 nda:(s.act.map Pt.id).Nodup
 ndk:(s.kept.map Pt.id).Nodup
theorem TkI.a100 {s:Tk} (h:TkI s):s.act.length≤100:=by have:=h.act;have:=h.win64;omega
theorem TkI.k100 {s:Tk} (h:TkI s):s.kept.length≤100:=by have:=h.kept;omega
theorem TkI.bz {s:Tk} (h:TkI s):∀ p∈s.act,p.bytes.size≤1000000:=fun p hp=>by have:=(h.ast p hp).2.2.2;omega
theorem TkI.new {n:Int} (h1:1≤n) (h2:n≤64):TkI (Tk.new n) :=
 ⟨h1,h2,by show ((0:Nat):Int)≤n;omega,Nat.zero_le _,fun _=>rfl,fun p hp=>(by cases hp),fun p hp=>(by cases hp),fun p hp=>(by cases hp),List.nodup_nil,List.nodup_nil⟩
theorem mem_without {l:List Pt} {x:Id} {p:Pt}:p∈withoutL l x↔p∈l∧p.id≠x:=by simp[withoutL,noId]
theorem nd_without {l:List Pt} (x:Id) (h:(l.map Pt.id).Nodup):((withoutL l x).map Pt.id).Nodup:=h.sublist (List.Sublist.map _ List.filter_sublist)
theorem nd_snoc {l:List Pt} {p:Pt} (h:(l.map Pt.id).Nodup) (hp:∀ q∈l,q.id≠p.id):((l++[p]).map Pt.id).Nodup:=by
 rw[List.map_append,List.nodup_append]
 refine⟨h,by simp,fun a ha b hb=>?_⟩
 obtain⟨q,hq,rfl⟩:=List.mem_map.1 ha
 simp only[List.map_cons,List.map_nil,List.mem_singleton] at hb
 rw[hb]
 exact hp q hq
theorem map_set_id {l:List Pt} {k:Nat} {p:Pt} (hk:k<l.length) (hp:p.id=l[k].id):(l.set k p).map Pt.id=l.map Pt.id:=by
 rw[List.map_set,hp,← List.getElem_map (f:=Pt.id) (h:=by simpa using hk)]
 exact List.set_getElem_self _
theorem keepQ_mem {l:List Pt} {a p:Pt} (h:p∈keepQ l a):(p∈l∧p.id≠a.id)∨p={ a with state:=4 }:=by
 unfold keepQ at h
 have h2:p∈withoutL l a.id++[{ a with state:=4 }]:=by
  dsimp only at h
  split at h
  ·exact List.mem_of_mem_drop h
  ·exact h
 rcases List.mem_append.1 h2 with h3|h3
 ·exact Or.inl (mem_without.1 h3)
 ·exact Or.inr (List.mem_singleton.1 h3)
theorem keepP_mem {l:List Pt} {a p:Pt} (h:p∈keepP l a):p∈l∨(p={ a with state:=4 }∧a.state=2∧0<a.bytes.size):=by
 unfold keepP at h
 split at h
 ·exact Or.inl h
 ·rename_i hn
  rcases keepQ_mem h with h2|h2
  ·exact Or.inl h2.1
  ·exact Or.inr ⟨h2,by omega,by omega⟩
theorem nd_keepP {l:List Pt} (a:Pt) (h:(l.map Pt.id).Nodup):((keepP l a).map Pt.id).Nodup:=by
 unfold keepP
 split
 ·exact h
 ·unfold keepQ
  have h2:((withoutL l a.id++[{ a with state:=4 }]).map Pt.id).Nodup:=nd_snoc (nd_without _ h) (fun q hq=>(mem_without.1 hq).2)
  dsimp only
  split
  ·exact h2.sublist (List.Sublist.map _ (List.drop_sublist _ _))
  ·exact h2
theorem fold_nd:∀ (xs l:List Pt),(l.map Pt.id).Nodup→((xs.foldl keepP l).map Pt.id).Nodup
 | [],_,h=>h
 | x :: r,_,h=>fold_nd r _ (nd_keepP x h)
theorem fold_kst:∀ (xs l:List Pt),(∀ p∈l,p.state=4∧0<p.bytes.size∧p.bytes.size≤65536)→(∀ p∈xs,p.bytes.size≤65536)→∀ p∈xs.foldl keepP l,p.state=4∧0<p.bytes.size∧p.bytes.size≤65536
 | [],_,h,_=>h
 | x :: r,_,h,hx=>fold_kst r _ (fun p hp=>by
   rcases keepP_mem hp with h1|⟨rfl,_,h2⟩
   ·exact h p h1
   ·exact⟨rfl,h2,hx x List.mem_cons_self⟩) (fun p hp=>hx p (List.mem_cons_of_mem _ hp))
theorem TkI.opened {s:Tk} (h:TkI s):TkI (openT s).1:=by
 unfold openT
 split
 ·exact h
 ·exact⟨h.win1,h.win64,h.act,h.kept,fun e=>(by cases e),h.kst,h.ast,h.two,h.nda,h.ndk⟩
theorem TkI.dropped {s:Tk} (h:TkI s):TkI (dropT s).1:=by
 unfold dropT
 split
 ·exact⟨h.win1,h.win64,by show ((0:Nat):Int)≤s.win;have:=h.win1;omega,fold_len _ _ h.kept,fun _=>rfl,fold_kst _ _ h.kst (fun p hp=>(h.ast p hp).2.2.2),fun p hp=>(by cases hp),fun p hp=>(by cases hp),List.nodup_nil,fold_nd _ _ h.ndk⟩
 ·exact h
theorem rgs_ok (c:Cm) (fl most:Int) (h:chkF c fl most=0):(rgs c).all (okR fl)=true:=by
 unfold chkF at h
 split at h
 ·cases h
 split at h
 ·cases h
 split at h
 ·cases h
 split at h
 ·cases h
 ·rename_i hn
  simpa using hn
theorem chk_form (c:Cm) (v:Nat) (hv:c.verb=(v:Int)) (h1:1≤v) (h2:v≤11):chk c=chkF c ((formsL[v]?.getD (⟨#[]⟩,0,0)).2.1) ((formsL[v]?.getD (⟨#[]⟩,0,0)).2.2):=by
 unfold chk
 rw[if_neg (by omega),hv,Int.toNat_natCast]
theorem chk_offer (c:Cm) (hv:c.verb=2) (h:chk c=0):1≤c.size∧c.size≤65536:=by
 rw[chk_form c 2 hv (by decide) (by decide)] at h
 have h2:=rgs_ok c _ _ h
 have h3:=List.all_eq_true.1 h2 (4,c.size,1,65536) List.mem_cons_self
 have h4:(bits BinOp.and .i64 (formsL[2]?.getD (⟨#[]⟩,0,0)).2.1 4==0)=false:=by decide
 unfold okR at h3
 rw[h4] at h3
 simp only[Bool.false_or,Bool.and_eq_true,decide_eq_true_eq] at h3
 exact h3
theorem mem_set {l:List Pt} {k:Nat} {p q:Pt} (h:q∈l.set k p):q∈l∨q=p:=List.mem_or_eq_of_mem_set h
theorem offK_mem {s:Tk} {c:Cm} {p:Pt} (h:p∈offK s c):p∈s.kept:=by
 unfold offK at h
 split at h
 ·split at h
  ·exact h
  ·exact (mem_without.1 h).1
 ·exact h
theorem offK_len (s:Tk) (c:Cm):(offK s c).length≤s.kept.length:=by
 unfold offK
 split
 ·split
  ·exact Nat.le_refl _
  ·exact without_len _ _
 ·exact Nat.le_refl _
theorem offK_nd {s:Tk} (c:Cm) (h:(s.kept.map Pt.id).Nodup):((offK s c).map Pt.id).Nodup:=by
 unfold offK
 split
 ·split
  ·exact h
  ·exact nd_without _ h
 ·exact h
theorem TkI.offered {s:Tk} (h:TkI s) (c:Cm) (ho:s.opn=true) (hz:c.size≤65536):TkI (offerT s c).1:=by
 unfold offerT
 split
 ·exact h
 ·rename_i hn
  split
  ·exact h
  ·rename_i hw
   refine⟨h.win1,h.win64,(by show ((s.act++[newP c]).length:Int)≤s.win;rw[List.length_append];simp only[List.length_cons,List.length_nil];omega),Nat.le_trans (offK_len s c) h.kept,fun e=>(by rw[show (⟨s.win,s.opn,s.act++[newP c],offK s c⟩:Tk).opn=s.opn from rfl,ho] at e;cases e),fun p hp=>h.kst p (offK_mem hp),fun p hp=>?_,fun p hp q hq e=>?_,nd_snoc h.nda (fun q hq=>pos_none' hn q hq),offK_nd c h.ndk⟩
   ·rcases List.mem_append.1 hp with hp|hp
    ·exact h.ast p hp
    ·rw[List.mem_singleton.1 hp]
     exact⟨by show (1:Int)≤1;omega,by show (1:Int)≤3;omega,hz,by show (0:Nat)≤65536;omega⟩
   ·rcases List.mem_append.1 hp with hp|hp
    ·exact h.two p hp q (offK_mem hq) e
    ·rw[List.mem_singleton.1 hp];rfl
theorem TkI.setA {s:Tk} (h:TkI s) {k:Nat} (hk:k<s.act.length) (p:Pt) (hi:p.id=s.act[k].id) (h2:s.act[k].state≠1) (hp:1≤p.state∧p.state≤3∧p.size≤65536∧p.bytes.size≤65536):TkI { s with act:=s.act.set k p }:=by
 refine⟨h.win1,h.win64,(by show ((s.act.set k p).length:Int)≤s.win;rw[List.length_set];exact h.act),h.kept,fun e=>(by have:=h.shut e;rw[this] at hk;cases hk),h.kst,fun q hq=>?_,fun q hq r hr e=>?_,by rw[map_set_id hk hi];exact h.nda,h.ndk⟩
 ·rcases mem_set hq with hq|rfl
  ·exact h.ast q hq
  ·exact hp
 ·rcases mem_set hq with hq|rfl
  ·exact h.two q hq r hr e
  ·exact absurd (h.two _ (List.getElem_mem hk) r hr (by rw[← hi];exact e)) h2
theorem TkI.dated {s:Tk} (h:TkI s) (c:Cm):TkI (dataT s c).1:=by
 unfold dataT
 split
 ·exact h
 ·rename_i k hr
  obtain⟨hk,_,hs⟩:=rcv_some hr
  have ha:=h.ast _ (List.getElem_mem hk)
  rw[ptK_eq hk]
  split
  ·exact h
  ·split
   ·exact h
   ·rename_i hn
    exact h.setA hk _ rfl (by rw[hs];decide) ⟨ha.1,ha.2.1,ha.2.2.1,by show (s.act[k].bytes++c.text).size≤65536;rw[ByteArray.size_append];omega⟩
theorem TkI.ended {s:Tk} (h:TkI s) (c:Cm):TkI (doneT s c).1:=by
 unfold doneT
 split
 ·exact h
 ·rename_i k hr
  obtain⟨hk,_,hs⟩:=rcv_some hr
  have ha:=h.ast _ (List.getElem_mem hk)
  rw[ptK_eq hk]
  split
  ·exact h
  ·exact h.setA hk _ rfl (by rw[hs];decide) ⟨by show (1:Int)≤3;omega,by show (3:Int)≤3;omega,ha.2.2.1,ha.2.2.2⟩
theorem TkI.heard {s:Tk} (h:TkI s) (c:Cm):TkI (hearT s c).1:=by
 unfold hearT
 split
 ·exact h
 rename_i ho
 split
 ·exact h
 rename_i hc
 split
 ·rename_i hv
  exact h.offered c (by simpa using ho) (chk_offer c hv (by simpa using hc)).2
 split
 ·exact h.dated c
 split
 ·exact h.ended c
 ·exact h
theorem TkI.lessA {s:Tk} (h:TkI s) (x:Id):TkI ⟨s.win,s.opn,withoutL s.act x,s.kept⟩ :=
 ⟨h.win1,h.win64,by have h1:=without_len s.act x;have h2:=h.act;show ((withoutL s.act x).length:Int)≤s.win;omega,h.kept,fun e=>(by show withoutL s.act x=[];rw[h.shut e];rfl),h.kst,fun p hp=>h.ast p (mem_without.1 hp).1,fun p hp q hq e=>h.two p (mem_without.1 hp).1 q hq e,nd_without x h.nda,h.ndk⟩
theorem TkI.lessK {s:Tk} (h:TkI s) (x:Id):TkI ⟨s.win,s.opn,s.act,withoutL s.kept x⟩ :=
 ⟨h.win1,h.win64,h.act,Nat.le_trans (without_len _ _) h.kept,h.shut,fun p hp=>h.kst p (mem_without.1 hp).1,h.ast,fun p hp q hq e=>h.two p hp q (mem_without.1 hq).1 e,h.nda,nd_without x h.ndk⟩
theorem wantP_bytes {s:Tk} (h:TkI s) (c:Cm) {k:Nat} (hk:k<s.act.length):(wantP s c k).bytes.size≤65536:=by
 show (if 0<c.from_ then (match posL s.kept c.id with|some j=>(ptK s.kept j).bytes|none=>⟨#[]⟩) else (ptK s.act k).bytes).size≤65536
 split
 ·split
  ·rename_i j hj
   obtain⟨hj2,_,_⟩:=pos_some hj
   rw[ptK_eq hj2]
   exact (h.kst _ (List.getElem_mem hj2)).2.2
  ·show (0:Nat)≤65536;omega
 ·rw[ptK_eq hk]
  exact (h.ast _ (List.getElem_mem hk)).2.2.2
theorem TkI.answered {s:Tk} (h:TkI s) (c:Cm):TkI (answerT s c).1:=by
 unfold answerT
 split
 ·exact h
 split
 ·exact h
 split
 ·exact h
 rename_i k hr
 obtain⟨hk,hid,_⟩:=pos_some hr
 split
 ·exact h
 split
 ·exact h
 have ha:=h.ast _ (List.getElem_mem hk)
 split
 ·have hl:=h.lessK c.id
  have hi:(wantP s c k).id=s.act[k].id:=by show (ptK s.act k).id=_;rw[ptK_eq hk]
  refine⟨hl.win1,hl.win64,(by show ((s.act.set k (wantP s c k)).length:Int)≤s.win;rw[List.length_set];exact h.act),hl.kept,fun e=>(by have:=h.shut e;rw[this] at hk;cases hk),hl.kst,fun q hq=>?_,fun q hq r hr2 e=>?_,by rw[map_set_id hk hi];exact h.nda,hl.ndk⟩
  ·rcases mem_set hq with hq|rfl
   ·exact h.ast q hq
   ·exact⟨by show (1:Int)≤2;omega,by show (2:Int)≤3;omega,by show (ptK s.act k).size≤65536;rw[ptK_eq hk];exact ha.2.2.1,wantP_bytes h c hk⟩
  ·rcases mem_set hq with hq|rfl
   ·exact hl.two q hq r hr2 e
   ·exact absurd (e.symm.trans (hi.trans hid)) (mem_without.1 hr2).2
 split
 ·exact h.lessA c.id
 ·exact (h.lessA c.id).lessK c.id
end
section
open Go.RowKit
theorem hear15 (b:Nat) (s:Tk) (F:List Nat) (c:Cm) (w:World) (h:TkAt b s F w) (hL:FormsAt w) (hn:c.name.size≤1000000) (hna:s.act.length≤100) (hnk:s.kept.length≤100) (hz:∀ p∈s.act,p.bytes.size≤1000000) (ht:c.text.size≤1000000) :
  Calls Tryz.prog 15 #[.pointer (some ⟨b,0,none⟩),vC c] w (HearP b (hearT s c).1 (hearT s c).2.1 (hearT s c).2.2.1 (hearT s c).2.2.2 F w):=by
 by_cases ho:s.opn=false
 ·have e:hearT s c=(s,[],[],10):=by unfold hearT;rw[if_pos ho]
  rw[e]
  exact hear15_shut b s F c w h ho
 ·have ho':s.opn=true:=by simpa using ho
  by_cases hc:chk c≠0
  ·have e:hearT s c=(s,[],[],chk c):=by unfold hearT;rw[if_neg ho,if_pos hc]
   rw[e]
   exact hear15_bad b s F c w h hL hn ho' hc
  ·have hc':chk c=0:=by simpa using hc
   by_cases h2:c.verb=2
   ·have e:hearT s c=((offerT s c).1,(offerT s c).2.1,[],(offerT s c).2.2):=by unfold hearT;rw[if_neg ho,if_neg hc,if_pos h2]
    rw[e]
    exact hear15_go b s _ _ _ _ F c w h hL hn ho' hc' 37 (by rw[h2];rfl) (enters_of Tryz.func37 (by kernel_rfl) rfl) (fun u hu=>offer37 b s F c u hu hna hnk)
   ·by_cases h7:c.verb=7
    ·have e:hearT s c=((dataT s c).1,[],[],(dataT s c).2):=by unfold hearT;rw[if_neg ho,if_neg hc,if_neg h2,if_pos h7]
     rw[e]
     exact hear15_go b s _ _ _ _ F c w h hL hn ho' hc' 38 (by rw[h7];rfl) (enters_of Tryz.func38 (by kernel_rfl) rfl) (fun u hu=>data38 b s F c u hu (by omega) hz ht)
    ·by_cases h8:c.verb=8
     ·have e:hearT s c=((doneT s c).1,[],(doneT s c).2.1,(doneT s c).2.2):=by unfold hearT;rw[if_neg ho,if_neg hc,if_neg h2,if_neg h7,if_pos h8]
      rw[e]
      exact hear15_go b s _ _ _ _ F c w h hL hn ho' hc' 39 (by rw[h8];rfl) (enters_of Tryz.func39 (by kernel_rfl) rfl) (fun u hu=>done39 b s F c u hu (by omega) hz ht)
     ·have e:hearT s c=(s,[],[],11):=by unfold hearT;rw[if_neg ho,if_neg hc,if_neg h2,if_neg h7,if_neg h8]
      rw[e]
      exact hear15_kind b s F c w h hL hn ho' hc' (by unfold hearF;rw[if_neg h8,if_neg h7,if_neg h2])
end
section
open Go.RowKit
theorem answer16 (b:Nat) (s:Tk) (F:List Nat) (c:Cm) (w:World) (h:TkAt b s F w) (hL:FormsAt w) (hn:c.name.size≤1000000) (hna:s.act.length≤100) (hnk:s.kept.length≤100) :
  Calls Tryz.prog 16 #[.pointer (some ⟨b,0,none⟩),vC c] w (AnsP b (answerT s c).1 (answerT s c).2.1 (answerT s c).2.2 F w):=by
 by_cases hc:chk c≠0
 ·have e:answerT s c=(s,zC,chk c):=by unfold answerT;rw[if_pos hc]
  rw[e]
  exact answer16_bad b s F c w h hL hn hna hnk hc
 ·have hc':chk c=0:=by simpa using hc
  by_cases hv:c.verb<3∨6<c.verb
  ·have e:answerT s c=(s,zC,11):=by unfold answerT;rw[if_neg hc,if_pos hv]
   rw[e]
   exact answer16_kind b s F c w h hL hn hna hnk hc' hv
  ·have hv4:c.verb=3∨c.verb=4∨c.verb=5∨c.verb=6:=by omega
   rcases hv4 with hv|hv|hv|hv
   ·exact answer16_v3 b s F c w h hL hn hna hnk hc' hv
   ·exact answer16_v4 b s F c w h hL hn hna hnk hc' hv
   ·exact answer16_v5 b s F c w h hL hn hna hnk hc' hv
   ·exact answer16_v6 b s F c w h hL hn hna hnk hc' hv
end
section
open Go.RowKit
theorem small_mem {l:List Opn} (h:smallL l=true):l.length≤60∧∀ o∈l,o.cmd.text.size≤200∧o.cmd.name.size≤100:=by
 unfold smallL at h
 rw[Bool.and_eq_true,decide_eq_true_eq,List.all_eq_true] at h
 refine⟨h.2,fun o ho=>?_⟩
 have:=h.1 o ho
 unfold okOp at this
 simpa using this
structure TkB (w0:World) (b:Nat) (s:Tk) (F:List Nat) (w:World):Prop where
 tk:TkAt b s F w
 inv:TkI s
 bel:Below w0.heap.size w0 w
 low:∀ k∈F,w0.heap.size≤k
 lt:∀ k∈F,k<w.heap.size
theorem TkB.new {w0 w:World} {n:Int} (hb:Below w0.heap.size w0 w) (h1:1≤n) (h2:n≤64) {w':World} (h:TkAt w.heap.size (Tk.new n) [w.heap.size] w') (hb':Below w.heap.size w w'):TkB w0 w.heap.size (Tk.new n) [w.heap.size] w' :=
 ⟨h,TkI.new h1 h2,Below.step hb hb',fun k hk=>by rw[List.mem_singleton.1 hk];exact hb.size,fun k hk=>by
  obtain⟨va,vk,h⟩:=h
  rw[List.mem_singleton.1 hk]
  exact h.blt⟩
theorem TkB.step {w0 w w':World} {b:Nat} {s s':Tk} {F F':List Nat} (h:TkB w0 b s F w) (ht:TkAt b s' F' w') (hi:TkI s') (hk:Kp F F' w w'):∃ F2,TkB w0 b s' F2 w'∧Kp F F2 w w'∧Kp F' F2 w' w':=by
 obtain⟨F2,h1,h2,h3⟩:=ht.shrink
 have hk2:=hk.trans h2
 refine⟨F2,⟨h1,hi,Below.trans h.bel (hk2.below h.low h.bel.size),fun k hm=>?_,h3⟩,hk2,h2⟩
 rcases Nat.lt_or_ge k w0.heap.size with hl|hl
 ·exact absurd hm (hk2.out k (Nat.lt_of_lt_of_le hl h.bel.size) (fun hf=>Nat.lt_irrefl _ (Nat.lt_of_lt_of_le hl (h.low k hf)))).1
 ·exact hl
theorem TkB.keep {w0 w w':World} {b:Nat} {s:Tk} {F:List Nat} (h:TkB w0 b s F w) (hb:Below w.heap.size w w'):TkB w0 b s F w':=⟨h.tk.keep hb,h.inv,Below.step h.bel hb,h.low,fun k hk=>Nat.lt_of_lt_of_le (h.lt k hk) hb.size⟩
theorem At.idv {w:World} {ad:Addr} {y:Id} (h:At w ad (cI y)):okA w ad 32=true∧rdA w ad 32=vI y:=by
 have h1:=h.ok
 have h2:=h.rd
 rw[cI_length] at h1 h2
 exact⟨h1,h2⟩
theorem cO_kind (x:Opn):(cO x)[0]? = some (.int .i64 x.kind):=rfl
theorem At.opc {w:World} {ad:Addr} {o:Opn} (h:At w ad (cO o)):okA w ⟨ad.block,ad.off+1,none⟩ 39=true∧rdA w ⟨ad.block,ad.off+1,none⟩ 39=vC o.cmd∧w.cell? ad=some (.int .i64 o.kind):=by
 have h0:At w ⟨ad.block,ad.off+1,none⟩ (cC o.cmd):=⟨h.1,fun j u hj=>by
  have h1:=h.2 (1+j) u (cO_cmd o j u hj)
  have e:(⟨ad.block,ad.off+1,none⟩:Addr).add j=⟨ad.block,ad.off+(1+j),none⟩:=by unfold Addr.add;split <;> simp <;> omega
  have e2:ad.add (1+j)=⟨ad.block,ad.off+(1+j),none⟩:=by unfold Addr.add;rw[if_neg (by omega)]
  rw[e,← e2]
  exact h1⟩
 have h1:=h0.ok
 have h2:=h0.rd
 rw[cC_length] at h1 h2
 exact⟨h1,h2,h.2 0 _ (cO_kind o)⟩
section
variable {w0 w : World} {b : Nat} {s : Tk} {F : List Nat}
def HearB (w0:World) (b:Nat) (s':Tk) (qs:List Qn) (ts:List Txt) (no:Int) (F:List Nat) (w:World) (e:Ending) (w':World):Prop :=
 ∃ q l:SlV,e=.returned (.tuple #[.slice q.1 q.2.1 q.2.2,.slice l.1 l.2.1 l.2.2,.int .i64 no])∧∃ F',TkB w0 b s' F' w'∧Kp F F' w w'∧SlF F' w' cQn q qs∧SlF F' w' cTx l ts
theorem TkB.hear (h:TkB w0 b s F w) (hL:Laid w0) (c:Cm) (hn:c.name.size≤1000000) (ht:c.text.size≤1000000):Calls Tryz.prog 15 #[.pointer (some ⟨b,0,none⟩),vC c] w (HearB w0 b (hearT s c).1 (hearT s c).2.1 (hearT s c).2.2.1 (hearT s c).2.2.2 F w) :=
 (hear15 b s F c w h.tk (hL.keep h.bel).forms hn h.inv.a100 h.inv.k100 h.inv.bz ht).mono fun _ _ ⟨q,l,e,F',h1,h2,h3,h4⟩=>by
  obtain⟨F2,a1,a2,a3⟩:=h.step h1 (h.inv.heard c) h2
  exact⟨q,l,e,F2,a1,a2,h3.kp a3,h4.kp a3⟩
theorem TkB.answer (h:TkB w0 b s F w) (hL:Laid w0) (c:Cm) (hn:c.name.size≤1000000):Calls Tryz.prog 16 #[.pointer (some ⟨b,0,none⟩),vC c] w fun e w'=>e=.returned (.tuple #[vC (answerT s c).2.1,.int .i64 (answerT s c).2.2])∧∃ F',TkB w0 b (answerT s c).1 F' w'∧Kp F F' w w' :=
 (answer16 b s F c w h.tk (hL.keep h.bel).forms hn h.inv.a100 h.inv.k100).mono fun _ _ ⟨e,F',h1,h2⟩=>by
  obtain⟨F2,a1,a2,_⟩:=h.step h1 (h.inv.answered c) h2
  exact⟨e,F2,a1,a2⟩
theorem TkB.open_ (h:TkB w0 b s F w):Calls Tryz.prog 17 #[.pointer (some ⟨b,0,none⟩)] w fun e w'=>e=.returned (.int .i64 (openT s).2)∧∃ F',TkB w0 b (openT s).1 F' w'∧Kp F F' w w' :=
 (open17 b s F w h.tk).mono fun _ _ ⟨e,F',h1,h2⟩=>by
  obtain⟨F2,a1,a2,_⟩:=h.step h1 h.inv.opened h2
  exact⟨e,F2,a1,a2⟩
theorem TkB.drop (h:TkB w0 b s F w):Calls Tryz.prog 18 #[.pointer (some ⟨b,0,none⟩)] w fun e w'=>e=.returned (.int .i64 (dropT s).2)∧∃ F',TkB w0 b (dropT s).1 F' w'∧Kp F F' w w' :=
 (drop18 b s F w h.tk h.inv.kept h.inv.a100).mono fun _ _ ⟨e,F',h1,h2⟩=>by
  obtain⟨F2,a1,a2,_⟩:=h.step h1 h.inv.dropped h2
  exact⟨e,F2,a1,a2⟩
def IdsB (w0:World) (b:Nat) (s:Tk) (F:List Nat) (w:World) (xs:List Id) (e:Ending) (w':World):Prop :=
 ∃ B m d,e=.returned (.slice B m d)∧xs.length=m∧Own w' w.heap.size 30 32 cI (.slice B m d) xs∧TkB w0 b s F w'∧Below w.heap.size w w'
theorem TkB.active (h:TkB w0 b s F w):Calls Tryz.prog 19 #[.pointer (some ⟨b,0,none⟩)] w (IdsB w0 b s F w (s.act.map Pt.id)):=by
 obtain⟨va,vk,ht⟩:=h.tk
 exact (active19 b s F va vk w ht (by have:=h.inv.a100;omega)).mono fun _ _ ⟨B,m,d,e,h1,h2,h3⟩=>⟨B,m,d,e,by rw[List.length_map];exact h1,h2,h.keep h3,h3⟩
theorem TkB.partial_ (h:TkB w0 b s F w):Calls Tryz.prog 20 #[.pointer (some ⟨b,0,none⟩)] w (IdsB w0 b s F w (s.kept.map Pt.id)):=by
 obtain⟨va,vk,ht⟩:=h.tk
 exact (partial20 b s F va vk w ht (by have:=h.inv.k100;omega)).mono fun _ _ ⟨B,m,d,e,h1,h2,h3⟩=>⟨B,m,d,e,by rw[List.length_map];exact h1,h2,h.keep h3,h3⟩
theorem TkB.isOpen (h:TkB w0 b s F w):Calls Tryz.prog 21 #[.pointer (some ⟨b,0,none⟩)] w fun e w'=>e=.returned (.bool s.opn)∧Below w.heap.size w w':=isOpen21 b s F w h.tk
theorem TkB.state (h:TkB w0 b s F w) (x:Id):Calls Tryz.prog 22 #[.pointer (some ⟨b,0,none⟩),vI x] w fun e w'=>e=.returned (.int .i64 (lookL s x).state)∧Below w.heap.size w w':=state22 b s F x w h.tk (by have:=h.inv.a100;omega) (by have:=h.inv.k100;omega)
theorem TkB.size (h:TkB w0 b s F w) (x:Id):Calls Tryz.prog 24 #[.pointer (some ⟨b,0,none⟩),vI x] w fun e w'=>e=.returned (.int .i64 (lookL s x).size)∧Below w.heap.size w w':=size24 b s F x w h.tk (by have:=h.inv.a100;omega) (by have:=h.inv.k100;omega)
theorem TkB.received (h:TkB w0 b s F w) (x:Id):Calls Tryz.prog 23 #[.pointer (some ⟨b,0,none⟩),vI x] w fun e w'=>e=.returned (.int .i64 (rcvdL s x))∧Below w.heap.size w w':=received23 b s F x w h.tk (by have:=h.inv.a100;omega) (by have:=h.inv.k100;omega)
end
end
end Go.Proofs.YtgojaelkdpabkaaGreatDoor
