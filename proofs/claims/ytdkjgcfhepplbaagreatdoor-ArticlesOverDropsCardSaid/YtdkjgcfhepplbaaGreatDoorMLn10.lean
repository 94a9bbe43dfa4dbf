/- line: a minute that passes while the line is down; Advance by one minute. -/
import Derived.Test.YtdkjgcfhepplbaaGreatDoorMLn7
namespace Go.Proofs.YtdkjgcfhepplbaaGreatDoor
open Go.RowKit
def nwB (bs:Nat→List UInt8):Nat→Nat→List UInt8
 | 0=>bs
 | n+1=>upd (nwB bs n) (3 * n+2) []
set_option maxRecDepth 100000 in
set_option maxHeartbeats 6400000 in
theorem pass52_down (b:Nat) (c:Lc) (bs:Nat→List UInt8) (wy:Nat→List (List UInt8×Nat)) (F:List Nat) (w:World) (h:LnAt b c bs wy F w) (hup:c.up=false) (t s:Nat)
  (ht:c.now=(t:Int)) (hs:c.sess=(s:Int)) (hp:c.cf.period=10) (htb:t≤1000000) (hsb:s≤1000000) (hw1:wy 1=[]) (hw4:wy 4=[]) :
  Calls Tryz.prog 52 #[.pointer (some ⟨b,0,none⟩)] w fun e w'=>e=.returned (.tuple #[])∧∃ F',LnAt b { c with now:=((t+1:Nat):Int),up:=true,sess:=((s+1:Nat):Int) } (nwB bs 2) wy F' w'∧Kp F F' w w':=by
 obtain⟨sl,pk,h,hw⟩:=h
 have k2:w.cell? ⟨b,5,none⟩=some (.bool false):=by rw[← hup];exact h.row.cell 5
 have c4:w.cell? ⟨b,4,none⟩=some (.int .i64 (t:Int)):=by rw[← ht];exact h.row.cell 4
 have f4:=h.row.fz 4
 have rr:IntKind.i64.wrap ((t:Int)+1)=(t:Int)+1:=IntWalk.i64_in _ (by omega)
 obtain⟨c3,hc3⟩:∃ c3:Lc,{ c with now:=(t:Int)+1 }=c3:=⟨_,rfl⟩
 have hl3:=h.flag c3 (by rw[← hc3]) (i:=4) (v:=.int .i64 ((t:Int)+1)) (by rw[← hc3];rfl)
 have hk3:=Kp.setCell F w h.bF 4 (.int .i64 ((t:Int)+1))
 have hp1:pk 1=[]:=List.map_eq_nil_iff.1 ((hw 1).trans hw1)
 have hp4:pk 4=[]:=List.map_eq_nil_iff.1 ((hw 4).trans hw4)
 have HL:=Lib.hid (And.intro hl3 (And.intro hk3 (And.intro hw (And.intro hp1 (And.intro hp4 hc3)))))
 have HR:=Lib.hid (And.intro hup (And.intro ht (And.intro hs hp)))
 clear h hw hl3 hk3 hp1 hp4 hc3 ht hs hp hup hw1 hw4
 go_enter Tryz.func52,Tryz.ntmps52
 go_wp2
 clear k2 c4 f4 rr
 obtain⟨W3,hW3⟩:∃ W3,w.setCell ⟨b,4,none⟩ (.int .i64 ((t:Int)+1))=W3:=⟨_,rfl⟩
 rw[hW3] at HL
 rw[hW3]
 go_loopw [67] (fun i wr=>∃ (n:Nat),n≤2∧i=.int .i64 (n:Int)∧Below W3.heap.size W3 wr) (fun i _=>2 - (intOf i).toNat)
 case atStart=>exact⟨0,by decide,rfl,Below.refl _ _⟩
 case round =>
  obtain⟨n,hn,rfl,hb3⟩:=hrel
  have HB:=Lib.hid hb3
  clear hb3
  obtain rfl|rfl|rfl:n=0∨n=1∨n=2:=by omega
  ·obtain⟨wo,rfl⟩:∃ x,x=wr:=⟨_,rfl⟩
   go_wp2
   go_quiet (fail)
   go_wp2
   go_loopw [] (fun wr2=>Below W3.heap.size W3 wr2) (fun _=>1)
   case atStart=>exact Below.step HB.out (below_drewN _ _)
   case round =>
    have hl4:=HL.out.1.keep hrel
    have H4:=Lib.hid hrel
    obtain⟨⟨A4,n4,cp4⟩,hsu⟩:∃ s,sl 1=s:=⟨_,rfl⟩
    have c8:=hl4.cell (k:=1) (by decide)
    have hop:=hl4.op 1 (by decide) (by decide)
    rw[hsu] at c8 hop
    rw[HL.out.2.2.2.1] at hop
    obtain rfl:n4=0:=hop.1
    clear hl4 hsu hop hrel
    go_wp2
    go_quiet (fail)
    go_wp2
    go_roundw
    case rel=>exact⟨1,by decide,by go_num,Below.step H4.out (below_drewN _ _)⟩
    case measure=>simp[intOf]
  ·obtain⟨wo,rfl⟩:∃ x,x=wr:=⟨_,rfl⟩
   go_wp2
   go_quiet (fail)
   go_wp2
   go_loopw [] (fun wr2=>Below W3.heap.size W3 wr2) (fun _=>1)
   case atStart=>exact Below.step HB.out (below_drewN _ _)
   case round =>
    have hl4:=HL.out.1.keep hrel
    have H4:=Lib.hid hrel
    obtain⟨⟨A4,n4,cp4⟩,hsu⟩:∃ s,sl 4=s:=⟨_,rfl⟩
    have c8:=hl4.cell (k:=4) (by decide)
    have hop:=hl4.op 4 (by decide) (by decide)
    rw[hsu] at c8 hop
    rw[HL.out.2.2.2.2.1] at hop
    obtain rfl:n4=0:=hop.1
    clear hl4 hsu hop hrel
    go_wp2
    go_quiet (fail)
    go_wp2
    go_roundw
    case rel=>exact⟨2,by decide,by go_num,Below.step H4.out (below_drewN _ _)⟩
    case measure=>simp[intOf]
  ·have hl3:=HL.out.1.keep HB.out
   have H3:=Lib.hid hl3
   obtain⟨A0,cw,hA0,hA1, -, -, -⟩:=hl3.win
   have HCN:=Lib.hid (show ∀ u,Below wr.heap.size wr u→Calls Tryz.prog 35 #[vCf c3.cf,.int .i64 ((t:Int)+1)] u (fun e w'=>e=.returned (.bool true)∧Below u.heap.size u w') from fun u hu=>connected35 c3.cf A0 cw hA0 (by rw[← HL.out.2.2.2.2.2];exact HR.out.2.2.2) (t+1) u (hA1.keep hu))
   have HCC:=Lib.hid (show c3.now=(t:Int)+1 by rw[← HL.out.2.2.2.2.2])
   have HUP:=Lib.hid (show c3.up=false by rw[← HL.out.2.2.2.2.2];exact HR.out.1)
   have HSE:=Lib.hid (show c3.sess=(s:Int) by rw[← HL.out.2.2.2.2.2];exact HR.out.2.2.1)
   clear hA0 hA1 hl3
   go_wp2
   refine AnyO.wp_anyI (by kernel_rfl) (by kernel_rfl) (AnyO.InvG (σ:=Unit) (fun σ=>AnyO.pvL [some (.pointer (some ⟨b,0,none⟩)),some (.pointer (some ⟨b,0,none⟩)),some (.pointer (some ⟨b,0,none⟩)),some (vCf c3.cf),some (.pointer (some ⟨b,0,none⟩)),some (.pointer (some ⟨b,0,none⟩)),some (.pointer (some ⟨b,4,none⟩)),some (.int .i64 ((t:Int)+1)),some (.bool true),some (.bool true)]) (fun _ D u=>Below wr.heap.size wr u)) (AnyO.InvG.start (g:=()) (below_drew _)) ?_ ?_
   ·intro i hi
    have hi2:i=8∨i=0∨i=1∨i=2∨i=3∨i=4∨i=5∨i=6∨i=7∨i=9:=by simp only[List.size_toArray,List.length_cons,List.length_nil] at hi;omega
    clear hi
    rcases hi2 with rfl|rfl|rfl|rfl|rfl|rfl|rfl|rfl|rfl|rfl
    ·refine AnyO.I rfl [3,7] ?_;rintro D vs u σ Q h0 hC hp ac hb K hK
     have s128:_=_:=AnyO.sv 128 3 hb hp Q
     have s132:_=_:=AnyO.sv 132 7 hb hp Q
     go_simp
     go_at_call 35
     refine (HCN.out u Q.out.2).mono ?_
     rintro e w2 ⟨rfl,hb⟩
     exact hK _ _ (AnyO.InvG.step (g:=σ) Q.out.1 rfl (Below.step Q.out.2 hb))
    all_goals
     refine AnyO.J rfl ?_;rintro D vs u σ Q h0 hC hp ac hb K hK
     try have s0:ac.tmps[0]?.getD undef=.pointer (some ⟨b,0,none⟩):=by rw[hb.out];kernel_rfl
     try have s125:_=_:=AnyO.sv 125 0 hb hp Q
     try have s126:_=_:=AnyO.sv 126 1 hb hp Q
     try have s127:_=_:=AnyO.sv 127 2 hb hp Q
     try have s129:_=_:=AnyO.sv 129 4 hb hp Q
     try have s130:_=_:=AnyO.sv 130 5 hb hp Q
     try have s131:_=_:=AnyO.sv 131 6 hb hp Q
     try have s133:_=_:=AnyO.sv 133 8 hb hp Q
     obtain⟨rr1_0,rr2_0⟩:=(H3.out.keep Q.out.2).cf
     have rr_1:=(H3.out.keep Q.out.2).row.cell 4
     rw[show (cLi (c3,sl))[4]? = some (.int .i64 c3.now) from rfl,HCC.out] at rr_1
     go_simp
     exact hK _ _ (AnyO.InvG.step (g:=σ) Q.out.1 rfl Q.out.2)
   ·intro D vs u hI hD
    obtain⟨σ,hP,hW⟩:=hI
    have e0:_=_:=hP 0 (hD 0 (by decide))
    have e1:_=_:=hP 1 (hD 1 (by decide))
    have e2:_=_:=hP 2 (hD 2 (by decide))
    have e3:_=_:=hP 3 (hD 3 (by decide))
    have e4:_=_:=hP 4 (hD 4 (by decide))
    have e5:_=_:=hP 5 (hD 5 (by decide))
    have e6:_=_:=hP 6 (hD 6 (by decide))
    have e7:_=_:=hP 7 (hD 7 (by decide))
    have e8:_=_:=hP 8 (hD 8 (by decide))
    have e9:_=_:=hP 9 (hD 9 (by decide))
    have HW:=Lib.hid hW
    clear hW hP hD
    rw[puts_range [some 125,some 126,some 127,some 128,some 129,some 130,some 131,some 132,some 133,some 8] (by kernel_rfl)]
    simp only[putL,Nat.reduceAdd,e0,e1,e2,e3,e4,e5,e6,e7,e8,e9]
    clear e0 e1 e2 e3 e4 e5 e6 e7 e8 e9
    obtain⟨c5,hc5⟩:∃ c5:Lc,({ c3 with up:=true,sess:=(s:Int)+1 }:Lc)=c5:=⟨_,rfl⟩
    have hl5:=H3.out.keep HW.out
    have c55:=hl5.row.cell 5
    rw[show (cLi (c3,sl))[5]? = some (.bool c3.up) from rfl,HUP.out] at c55
    have c56:=hl5.row.cell 6
    rw[show (cLi (c3,sl))[6]? = some (.int .i64 c3.sess) from rfl,HSE.out] at c56
    have f5:=hl5.row.fz 5
    have hl6:=hl5.flag { c3 with up:=true } rfl (i:=5) (v:=.bool true) rfl
    have c66:=hl6.row.cell 6
    rw[show (cLi ({ c3 with up:=true },sl))[6]? = some (.int .i64 c3.sess) from rfl,HSE.out] at c66
    have f6:=hl6.row.fz 6
    have rr:IntKind.i64.wrap ((s:Int)+1)=(s:Int)+1:=IntWalk.i64_in _ (by omega)
    have hl7:=hl6.flag c5 (by rw[← hc5]) (i:=6) (v:=.int .i64 ((s:Int)+1)) (by rw[← hc5];rfl)
    have hk7:=((HL.out.2.1.trans (Kp.of_below (Below.step HB.out HW.out))).trans (Kp.setCell F u hl5.bF 5 (.bool true))).trans (Kp.setCell F _ hl6.bF 6 (.int .i64 ((s:Int)+1)))
    have H7:=Lib.hid (And.intro hl7 (And.intro hk7 hc5))
    clear hl5 hl6 hl7 hk7 hc5 HW
    go_simp
    go_wp2
    clear c55 c56 f5 c66 f6 rr
    go_loopw [162] (fun i wr=>∃ (n:Nat) (F':List Nat) (sl':Nat→SlV),n≤2∧i=.int .i64 (n:Int)∧LnR b c5 sl' (nwB bs n) pk F' wr∧Kp F F' w wr) (fun i _=>2 - (intOf i).toNat)
    case atStart=>exact⟨0,F,sl,by decide,rfl,H7.out.1,H7.out.2.1⟩
    case round =>
     obtain⟨n,F8,sl8,hn,rfl,hl8,hk8⟩:=hrel
     have H8:=Lib.hid (And.intro hl8 hk8)
     obtain rfl|rfl|rfl:n=0∨n=1∨n=2:=by omega
     ·have f9:=hl8.row.fz 9
      have c9:=hl8.cell (k:=2) (by decide)
      have h9:=hl8.setB (k:=2) (v:=nilV) (by decide) (by decide) (Os.nil wr _ _ _) (World.grownBy.refl wr _) (fun g hg=>by cases hg)
      have H9:=Lib.hid h9
      clear h9 hl8 hk8
      go_wp2
      go_roundw
      case rel=>exact⟨1,_,_,by decide,by go_num,H9.out.1,H8.out.2.trans H9.out.2⟩
      case measure=>simp[intOf]
     ·have f9:=hl8.row.fz 12
      have c9:=hl8.cell (k:=5) (by decide)
      have h9:=hl8.setB (k:=5) (v:=nilV) (by decide) (by decide) (Os.nil wr _ _ _) (World.grownBy.refl wr _) (fun g hg=>by cases hg)
      have H9:=Lib.hid h9
      clear h9 hl8 hk8
      go_wp2
      go_roundw
      case rel=>exact⟨2,_,_,by decide,by go_num,H9.out.1,H8.out.2.trans H9.out.2⟩
      case measure=>simp[intOf]
     ·go_wp2
      go_end0
      refine⟨rfl,F8,⟨sl8,pk,?_,HL.out.2.2.1⟩,hk8⟩
      have e:({ c with now:=((t+1:Nat):Int),up:=true,sess:=((s+1:Nat):Int) }:Lc)=c5:=by
       rw[← H7.out.2.2,← HL.out.2.2.2.2.2]
       rfl
      rw[e]
      exact hl8
open Go.RowKit
set_option maxRecDepth 100000 in
theorem advance26 {Q:World→Prop} (b:Nat) (t:Nat) (w:World) (ht:w.cell? ⟨b,4,none⟩=some (.int .i64 (t:Int))) (htb:t≤1000000)
  (hp:Calls Tryz.prog 52 #[.pointer (some ⟨b,0,none⟩)] w fun e w'=>e=.returned (.tuple #[])∧Q w') :
  Calls Tryz.prog 26 #[.pointer (some ⟨b,0,none⟩),.int .i64 1] w fun e w'=>e=.returned (.int .i64 0)∧Q w':=by
 have HP:=Lib.hid hp
 have rr:IntKind.i64.wrap (10000000 - (t:Int))=10000000 - (t:Int):=IntWalk.i64_in _ (by omega)
 have hlt:¬ (10000000 - (t:Int))<1:=by omega
 clear hp
 go_enter Tryz.func26,Tryz.ntmps26
 go_wp2
 go_loopw [19] (fun i wr=>(i=.int .i64 0∧wr=w)∨(i=.int .i64 1∧Q wr)) (fun i _=>1 - (intOf i).toNat)
 case atStart=>exact Or.inl ⟨rfl,rfl⟩
 case round =>
  rcases hrel with⟨rfl,hw⟩|⟨rfl,hq⟩
  ·subst hw
   go_wp2_with (go_at_call 52;refine HP.out.mono ?_;rintro e w2 ⟨rfl,hq2⟩;have H2:=Lib.hid hq2;clear hq2)
   go_roundw
   case rel=>exact Or.inr ⟨rfl,H2.out⟩
   case measure=>simp[intOf]
  ·have HQ:=Lib.hid hq
   clear hq
   go_wp2
   go_ret
   exact⟨rfl,HQ.out⟩
open Go.RowKit
set_option maxRecDepth 100000 in
set_option maxHeartbeats 1600000 in
theorem check33 (r dl:Nat) (A:Addr) (cw:Nat) (h1:1≤r) (h2:r≤1048576) (h3:dl≤1440) (w:World) (hw:Sl w cWi (some A) [(0,10)]):Calls Tryz.prog 33 #[vCf ⟨(r:Int),(dl:Int),10,(some A,1,cw)⟩] w fun e w'=>e=.returned (.int .i64 0)∧Below w.heap.size w w':=by
 obtain⟨x,hx⟩:∃ x:Cf,(⟨(r:Int),(dl:Int),10,(some A,1,cw)⟩:Cf)=x:=⟨_,rfl⟩
 rw[hx]
 obtain⟨g,W1,hg,hW1,hb1,k3⟩:∃ g W1,w.heap.size=g∧w.alloc (.cells (aCf x) 57)=W1∧Below w.heap.size w W1∧Row W1 g (cCf x) 57:=⟨_,_,rfl,rfl,below_alloc _ _,Row.new _ _ _⟩
 have c0:W1.cell? ⟨g,0,none⟩=some (.int .i64 (r:Int)):=(k3.cell 0).trans (by rw[← hx];rfl)
 have c1':W1.cell? ⟨g,1,none⟩=some (.int .i64 (dl:Int)):=(k3.cell 1).trans (by rw[← hx];rfl)
 have c2:W1.cell? ⟨g,2,none⟩=some (.int .i64 10):=(k3.cell 2).trans (by rw[← hx];rfl)
 have c3:W1.cell? ⟨g,3,none⟩=some (.slice (some A) 1 cw):=(k3.cell 3).trans (by rw[← hx];rfl)
 have HS:=Lib.hid (hw.keep hb1)
 have HB:=Lib.hid hb1
 have q1:¬ (r:Int)<1:=by omega
 have q2:¬ 1048576<(r:Int):=by omega
 have q3:¬ (dl:Int)<0:=by omega
 have q4:¬ 1440<(dl:Int):=by omega
 clear hw hb1 k3 hx h1 h2 h3
 go_enter Tryz.func33,Tryz.ntmps33
 go_wp2
 go_loopw [46,4] (fun i v wr=>(i=.int .i64 0∧v=.int .i64 0∧wr=W1)∨(i=.int .i64 1∧Below W1.heap.size W1 wr)) (fun i _ _=>1 - (intOf i).toNat)
 case atStart=>exact Or.inl ⟨rfl,rfl,rfl⟩
 case round =>
  rcases hrel with⟨rfl,rfl,hwr⟩|⟨rfl,hb⟩
  ·subst hwr
   obtain⟨ad,e,r1,r2⟩:=Sl.wi HS.out (k:=0) (by decide)
   obtain rfl:A=ad:=by injection e
   have e0:A.add (0 * 2)=A:=by unfold Addr.add;rfl
   rw[e0] at r1 r2
   have r3:rdA wr A 2=vWi (0,10):=r2
   clear r2 e e0
   go_wp2
   go_roundw
   case rel=>exact Or.inr ⟨rfl,below_alloc _ _⟩
   case measure=>simp[intOf]
  ·have HQ:=Lib.hid hb
   clear hb
   go_wp2
   go_ret
   exact⟨rfl,Below.step HB.out HQ.out⟩
@[go_sem] theorem eqlWs_nil (w:World) (a:Option Addr) (n c:Nat):(binOp .eql 55 (.slice a n c) (.slice none 0 0)).run Tryz.prog w=.ok (.bool a.isNone) w:=Sn.eql_nil w 55 54 a n c Tryz.underlying55
@[go_sem] theorem run_bsWI_0 (w:World):(bsA 55 0 #[]).run Tryz.prog w=.ok (.slice (some ⟨w.heap.size,0,none⟩) 0 0) (w.alloc (.cells (aWis []) 54)):=run_bsWI w [] (by simp)
set_option maxRecDepth 100000 in
set_option maxHeartbeats 800000 in
theorem clone34 (ad:Addr) (cw:Nat) (xs:List Wi) (hn:xs.length=1) (w:World) (hx:Sl w cWi (some ad) xs) :
  Calls Tryz.prog 34 #[.slice (some ad) 1 cw] w fun e w'=>∃ A' c',e=.returned (.slice A' 1 c')∧Own w' w.heap.size 54 2 cWi (.slice A' 1 c') xs∧Below w.heap.size w w':=by
 have HX:=Lib.hid (And.intro hx hn)
 clear hx hn
 go_enter Tryz.func34,Tryz.ntmps34
 go_wp2_with (at_builtin;refine wpList_append_sl _ rfl (.tmp 5) (.tmp 6) 55 rfl w.heap.size 54 2 16 cWi Tryz.underlying55 rowWI (by decide) cWi_length cWi_one (.slice (some ⟨w.heap.size,0,none⟩) 0 0) [] rfl (Own.lit (w:=w) cWi_length [] (Nat.le_refl _) (by simp)) (some ad) 1 cw xs HX.out.2 rfl (HX.out.1.keep (below_alloc w (.cells (aWis []) 54))) (by simp) (by simp) (by simp) ?_)
 intro v2 w2 ho hg
 have hb:=Own.grew (Own.lit (w:=w) (e:=54) cWi_length [] (Nat.le_refl _) (by simp)) hg (below_alloc w (.cells (aWis []) 54)) (Nat.le_refl _) (by simp)
 have H2:=Lib.hid (And.intro ho hb)
 obtain⟨A2,c2,rfl,_,_⟩:=ho.sl
 clear ho hg hb
 rw[HX.out.2] at H2 ⊢
 go_wp2
 go_ret
 exact⟨A2,c2,rfl,H2.out.1,H2.out.2⟩
theorem new_ln {u:World} {g2:Nat} {x:Cf} {A:Addr} {cw base:Nat} (hx:x.win=(some A,1,cw)) (ho:Own u base 54 2 cWi (.slice (some A) 1 cw) [(0,10)]) (hr:Row u g2 (cLi (⟨x,0,true,1⟩,zSl)) 100) (hne:A.block≠g2) :
  LnAt g2 ⟨x,0,true,1⟩ (fun _=>[]) (fun _=>[]) [g2,A.block] u:=by
 have hA:A.block<u.heap.size:=(own_blk ho (g:=A.block) rfl).2
 obtain⟨A',c',e,_,hs⟩:=ho.sl
 have e2:some A=A'∧1=[(0,10)].length∧cw=c':=by simpa using e
 obtain⟨rfl,_,rfl⟩:=e2
 refine⟨zSl,fun _=>[],⟨hr,fun k _ _=>Os.nil _ _ _ _,fun k _ _=>Os.nil _ _ _ _,fun k _ _ p hp=>(by cases hp),fun k g _ e=>(by cases e),fun j _ _ p hp=>(by cases hp),by simp,⟨A,cw,hx,hs,hne,by simp,fun k _ e=>(by cases e)⟩,fun k hk=>?_⟩,fun _=>rfl⟩
 rcases List.mem_cons.1 hk with rfl|hk
 ·exact hr.lt
 ·rw[List.mem_singleton.1 hk]
  exact hA
set_option maxRecDepth 100000 in
set_option maxHeartbeats 1600000 in
theorem new14 (r dl:Nat) (A:Addr) (cw:Nat) (h1:1≤r) (h2:r≤1048576) (h3:dl≤1440) (w:World) (hw:Sl w cWi (some A) [(0,10)]) :
  Calls Tryz.prog 14 #[vCf ⟨(r:Int),(dl:Int),10,(some A,1,cw)⟩] w fun e w'=>∃ (g:Nat) (x:Cf) (F:List Nat),e=.returned (.tuple #[.pointer (some ⟨g,0,none⟩),.int .i64 0])∧LnAt g ⟨x,0,true,1⟩ (fun _=>[]) (fun _=>[]) F w'∧x.rate=(r:Int)∧x.delay=(dl:Int)∧x.period=10∧Below w.heap.size w w'∧∀ k∈F,w.heap.size≤k:=by
 obtain⟨x,hx⟩:∃ x:Cf,(⟨(r:Int),(dl:Int),10,(some A,1,cw)⟩:Cf)=x:=⟨_,rfl⟩
 have HCK:=Lib.hid (fun u (hu:Below w.heap.size w u)=>check33 r dl A cw h1 h2 h3 u (hw.keep hu))
 rw[hx] at HCK ⊢
 obtain⟨g,W1,hg,hW1,hb1,k3⟩:∃ g W1,w.heap.size=g∧w.alloc (.cells (aCf x) 57)=W1∧Below w.heap.size w W1∧Row W1 g (cCf x) 57:=⟨_,_,rfl,rfl,below_alloc _ _,Row.new _ _ _⟩
 have l1:=(Row.okw k3 (cCf_length x)).1
 have l2:rdA W1 ⟨g,0,none⟩ 4=vCf x:=(Row.okw k3 (cCf_length x)).2
 have HX:=Lib.hid hx
 have HB:=Lib.hid (And.intro hb1 (And.intro k3 (hw.keep hb1)))
 clear hw hb1 k3 hx h1 h2 h3
 go_enter Tryz.func14,Tryz.ntmps14
 go_wp2_with (first
  | (go_at_call 33;refine (HCK.out W1 HB.out.1).mono ?_;rintro e w2 ⟨rfl,hb2⟩;have hr2:=HB.out.2.1.keep hb2;have c2:w2.cell? ⟨g,3,none⟩=some (.slice (some A) 1 cw):=((hr2.cell 3).trans (by rw[← HX.out];rfl));have H2:=Lib.hid (And.intro hb2 (And.intro hr2 (HB.out.2.2.keep hb2)));clear hb2 hr2)
  | (go_at_call 34;refine (clone34 A cw _ rfl w2 H2.out.2.2).mono ?_;rintro e w3 ⟨A3,c3,rfl,ho3,hb3⟩;have hr3:=H2.out.2.1.keep hb3;have f3:=hr3.fz 3;have cc3:w3.cell? ⟨g,3,none⟩=some (.slice (some A) 1 cw):=(hr3.cell 3).trans (by rw[← HX.out];rfl);obtain⟨x',hx'⟩:∃ x':Cf,({ x with win:=(A3,1,c3) }:Cf)=x':=⟨_,rfl⟩;have hr4:Row (w3.setCell ⟨g,3,none⟩ (.slice A3 1 c3)) g (cCf x') 57:=(by rw[← hx'];exact hr3.set 3 _);have l4:=(Row.okw hr4 (cCf_length _)).1;have l5:rdA (w3.setCell ⟨g,3,none⟩ (.slice A3 1 c3)) ⟨g,0,none⟩ 4=vCf x':=(Row.okw hr4 (cCf_length _)).2;obtain⟨ad3,had3⟩:∃ ad3,A3=some ad3:=(by obtain⟨A',c',e,_,hs⟩:=ho3.sl;have e2:A3=A'∧c3=c':=(by simpa using e);obtain⟨rfl,rfl⟩:=e2;obtain⟨ad,h,_⟩:=hs (by simp);exact⟨ad,h⟩);have hgl:=HB.out.2.1.lt;have ho4:Own (w3.setCell ⟨g,3,none⟩ (.slice A3 1 c3)) w2.heap.size 54 2 cWi (.slice A3 1 c3) [(0,10)]:=ho3.same (fun j hj=>heap_set_other w3 g 3 _ j (by have:=(Own.lt ho3 j hj).1;have:=H2.out.2.1.lt;omega));have H3:=Lib.hid (And.intro hb3 (And.intro hx' (And.intro ho4 (And.intro had3 hr4))));obtain⟨W5,hW5⟩:∃ W5,(w3.setCell ⟨g,3,none⟩ (.slice A3 1 c3)).alloc (.cells (aLi (⟨x',0,false,0⟩,zSl)) 100)=W5:=⟨_,rfl⟩;have hb5:Below (w3.setCell ⟨g,3,none⟩ (.slice A3 1 c3)).heap.size (w3.setCell ⟨g,3,none⟩ (.slice A3 1 c3)) W5:=(by rw[← hW5];exact below_alloc _ _);have l6:=(Row.okw (hr4.keep hb5) (cCf_length _)).1;have l7:rdA W5 ⟨g,0,none⟩ 4=vCf x':=(Row.okw (hr4.keep hb5) (cCf_length _)).2;have hn5:Row W5 w3.heap.size (cLi (⟨x',0,false,0⟩,zSl)) 100:=(by rw[← hW5];have h:=Row.new (w3.setCell ⟨g,3,none⟩ (.slice A3 1 c3)) (cLi (⟨x',0,false,0⟩,zSl)) 100;rwa[show (w3.setCell ⟨g,3,none⟩ (.slice A3 1 c3)).heap.size=w3.heap.size by simp[World.setCell]] at h);have H5:=Lib.hid (And.intro hb5 hn5);clear ho3 hb3 hr3 hr4 hx' had3 ho4 hb5 hn5)
  | (go_at_call 35;refine (connected35 x' ad3 c3 (by rw[← H3.out.2.1,H3.out.2.2.2.1]) (by rw[← H3.out.2.1,← HX.out]) 0 W5 (by obtain⟨A',c',e,_,hs⟩:=H3.out.2.2.1.sl;have e2:A3=A'∧c3=c':=(by simpa using e);obtain⟨rfl,rfl⟩:=e2;rw[← H3.out.2.2.2.1];exact hs.keep H5.out.1)).mono ?_;rintro e w6 ⟨rfl,hb6⟩;have hn6:=H5.out.2.keep hb6;have f65:=hn6.fz 5;have f66:=hn6.fz 6;have c65:w6.cell? ⟨w3.heap.size,5,none⟩=some (.bool false):=hn6.cell 5;have c66:w6.cell? ⟨w3.heap.size,6,none⟩=some (.int .i64 0):=hn6.cell 6;have H6:=Lib.hid (And.intro hb6 hn6);clear hb6 hn6))
 go_ret2
 have z0:w.heap.size≤W1.heap.size:=HB.out.1.size
 have z1:=H2.out.1.size
 have z2:=H3.out.1.size
 have z3:(w3.setCell ⟨g,3,none⟩ (.slice A3 1 c3)).heap.size=w3.heap.size:=by simp[World.setCell]
 have oA:=own_blk H3.out.2.2.1 (g:=ad3.block) (by rw[H3.out.2.2.2.1];rfl)
 rw[z3] at oA
 have b1:Below w.heap.size w (w3.setCell ⟨g,3,none⟩ (.slice A3 1 c3)):=(Below.step (Below.step HB.out.1 H2.out.1) H3.out.1).trans ((One.set (g:=g) 3 (.slice A3 1 c3)).below (Nat.le_of_eq hg) (by omega))
 have b2:=Below.step (Below.step b1 H5.out.1) H6.out.1
 have b3:=b2.trans ((One.set (g:=w3.heap.size) 5 (.bool true)).below (by omega) b2.size)
 have b4:=b3.trans ((One.set (g:=w3.heap.size) 6 (.int .i64 1)).below (by omega) b3.size)
 have ho:=(H3.out.2.2.1.keep H5.out.1).keep H6.out.1
 have ho2:=(ho.same (w':=w6.setCell ⟨w3.heap.size,5,none⟩ (.bool true)) (fun j hj=>heap_set_other w6 _ 5 _ j (by have:=(Own.lt H3.out.2.2.1 j hj).2;omega))).same (w':=(w6.setCell ⟨w3.heap.size,5,none⟩ (.bool true)).setCell ⟨w3.heap.size,6,none⟩ (.int .i64 1)) (fun j hj=>heap_set_other _ _ 6 _ j (by have:=(Own.lt H3.out.2.2.1 j hj).2;omega))
 rw[H3.out.2.2.2.1] at ho2
 have hr:=(H6.out.2.set 5 (.bool true)).set 6 (.int .i64 1)
 refine⟨w3.heap.size,x',_,rfl,new_ln (by rw[← H3.out.2.1,H3.out.2.2.2.1]) ho2 hr (by omega),by rw[← H3.out.2.1,← HX.out],by rw[← H3.out.2.1,← HX.out],by rw[← H3.out.2.1,← HX.out],b4,fun k hk=>?_⟩
 rcases List.mem_cons.1 hk with rfl|hk
 ·omega
 ·rw[List.mem_singleton.1 hk]
  omega
end Go.Proofs.YtdkjgcfhepplbaaGreatDoor
