/- The reference's Accepted, Cancel. -/
import Derived.Test.YtgojaelkdpabkaaGreatDoorMRfa
import Derived.Test.YtgojaelkdpabkaaGreatDoorMRf3
namespace Go.Proofs.YtgojaelkdpabkaaGreatDoor
open Go.RowKit
section
variable (w : World)
@[go_sem] theorem blR_two (n:Int) (x:Id):(blA 35 #[(0,.int .i64 n),(2,vI x)]).run Tryz.prog w=.ok (vC ⟨n,⟨#[]⟩,x,0,0,0,0,⟨#[]⟩⟩) w:=by
 revert x
 refine Id.cases fun a0 a1 a2 a3 a4 a5 a6 a7 a8 a9 a10 a11 a12 a13 a14 a15 a16 a17 a18 a19 a20 a21 a22 a23 a24 a25 a26 a27 a28 a29 a30 a31=>?_
 kernel_rfl
@[go_sem] theorem blR_code (n m:Int) (x:Id):(blA 35 #[(0,.int .i64 n),(2,vI x),(6,.int .i64 m)]).run Tryz.prog w=.ok (vC ⟨n,⟨#[]⟩,x,0,0,0,m,⟨#[]⟩⟩) w:=by
 revert x
 refine Id.cases fun a0 a1 a2 a3 a4 a5 a6 a7 a8 a9 a10 a11 a12 a13 a14 a15 a16 a17 a18 a19 a20 a21 a22 a23 a24 a25 a26 a27 a28 a29 a30 a31=>?_
 kernel_rfl
end
set_option maxRecDepth 100000 in
set_option maxHeartbeats 3200000 in
theorem refAccepted57 (F:List Nat) (s:Tk) (r:Rt) (x:Id) (n:Int) (w:World) (h:RfAt F s r w) (hF:∀ k∈F,k<w.heap.size) (ha:s.act.length≤100) (hnd:(s.act.map Pt.id).Nodup) :
  Calls Tryz.prog 57 #[vT r,vI x,.int .i64 n] w (RcP F (acceptedT s x n).1 (acceptedT s x n).2.1 (acceptedT s x n).2.2 w):=by
 have HND:=Lib.hid hnd
 clear hnd
 obtain⟨g,W1,m,W2,r0,W3,r1,W4,G,hg,hW1,hm,hW2,hr0,hW3,hr1,hW4,hB⟩:=BxR.new h hF x
 have hnd:=HND.out
 have ja:=hB.t.ca
 have lk:=hB.t.ld
 have l1:=lk.1
 have l2:=lk.2.1
 have qm:=Row.okw hB.rm (cI_length x)
 have qm1:=qm.1
 have qm2:rdA W4 ⟨m,0,none⟩ 32=vI x:=qm.2
 have HB:=Lib.hid hB
 have HCA:=Lib.hid (show s.act.length≤r.act.2.2 by rw[h.act.1];exact h.act.2.1)
 clear hB h hF lk qm hnd
 obtain⟨Z,hZ⟩:∃ Z,acceptedT s x n=Z:=⟨_,rfl⟩
 rw[hZ]
 unfold acceptedT at hZ
 by_cases hn:n<0∨99<n
 ·rw[if_pos hn] at hZ
  subst hZ
  rcases hn with hn|hn
  ·go_enter Tryz.func57,Tryz.ntmps57
   obtain⟨ro0,e0⟩:=(HB.out.e (zC)).st0 HB.out
   obtain⟨V1,hV1⟩:∃ V1,W4.setRow r0 (aT r)=V1:=⟨_,rfl⟩
   rw[hV1] at e0
   obtain⟨ro1,e1⟩:=e0.st1 HB.out
   obtain⟨lT,lC,fin⟩:=e1.fin HB.out 2
   have FIN:=Lib.hid (And.intro lT (And.intro lC fin))
   clear e0 e1 lT lC fin
   go_wp2
   exact bodyPost_ret (v:=.tuple #[vT r,vC (zC),.int .i64 2]) (results_cc (ad:=⟨r0,0,none⟩) (bd:=⟨r1,0,none⟩) rfl rfl FIN.out.1 rfl FIN.out.2.1 rfl) rfl FIN.out.2.2
  ·have hn2:¬ n<0:=by omega
   go_enter Tryz.func57,Tryz.ntmps57
   obtain⟨ro0,e0⟩:=(HB.out.e (zC)).st0 HB.out
   obtain⟨V1,hV1⟩:∃ V1,W4.setRow r0 (aT r)=V1:=⟨_,rfl⟩
   rw[hV1] at e0
   obtain⟨ro1,e1⟩:=e0.st1 HB.out
   obtain⟨lT,lC,fin⟩:=e1.fin HB.out 2
   have FIN:=Lib.hid (And.intro lT (And.intro lC fin))
   clear e0 e1 lT lC fin
   go_wp2
   exact bodyPost_ret (v:=.tuple #[vT r,vC (zC),.int .i64 2]) (results_cc (ad:=⟨r0,0,none⟩) (bd:=⟨r1,0,none⟩) rfl rfl FIN.out.1 rfl FIN.out.2.1 rfl) rfl FIN.out.2.2
 ·rw[if_neg hn] at hZ
  have hn1:¬ n<0:=by omega
  have hn2:¬ 99<n:=by omega
  have HZ:=Lib.hid hZ
  have HIL:=Lib.hid (idx_lt s.act x)
  clear hZ hn
  cases hp:posL s.act x with
  | none =>
   have hz:=HZ.out
   rw[hp] at hz
   dsimp only at hz
   subst hz
   have HI:=Lib.hid (idx_none hp)
   clear hp
   go_enter Tryz.func57,Tryz.ntmps57
   go_wp2_with (go_at_call 49;refine (refFind49 r.act.1 r.act.2.2 s.act x W4 HB.out.t.rf.act.2.2.1 (by omega)).mono ?_;rw[HI.out];rintro e w5 ⟨rfl,hb5⟩;have hB5:=HB.out.keep hb5;have ll:=hB5.t.ld;have l51:=ll.1;have l52:=ll.2.1;have HB5:=Lib.hid hB5;obtain⟨ro0,e0⟩:=(hB5.e zC).st0 hB5;obtain⟨V1,hV1⟩:∃ V1,w5.setRow r0 (aT r)=V1:=⟨_,rfl⟩;rw[hV1] at e0;obtain⟨ro1,e1⟩:=e0.st1 hB5;obtain⟨lT,lC,fin⟩:=e1.fin hB5 8;have FIN:=Lib.hid (And.intro lT (And.intro lC fin));clear hb5 hB5 ll e0 e1 lT lC fin)
   exact bodyPost_ret (v:=.tuple #[vT r,vC zC,.int .i64 8]) (results_cc (ad:=⟨r0,0,none⟩) (bd:=⟨r1,0,none⟩) rfl rfl FIN.out.1 rfl FIN.out.2.1 rfl) rfl FIN.out.2.2
  | some k =>
   obtain⟨hk, -, -⟩:=pos_some hp
   have hz:=HZ.out
   rw[hp] at hz
   dsimp only at hz
   have HI:=Lib.hid (idx_some hp)
   clear hp
   have hk1:(k:Int)<(s.act.length:Int):=by omega
   have hpk:ptK s.act k=s.act[k]:=ptK_eq hk
   obtain⟨ad,hae, -⟩:=Sl.pt (HB.out.t.rf.act.2.2.1) hk
   by_cases h1:s.act[k].state=3
   ·rw[hpk,if_neg (by intro h;exact h h1)] at hz
    subst hz
    have HW:=Lib.hid (show withoutI s.act (k:Int)=withoutL s.act x by rw[← withoutI_eq HND.out,HI.out])
    go_enter Tryz.func57,Tryz.ntmps57
    go_upto_region 9 with (first
     | (go_at_call 73;refine (refWithout73 (some ad) r.act.2.2 s.act k w5 (by have hq:=HB5.out.t.rf.act.2.2.1;rw[hae] at hq;exact hq) HCA.out (by omega) hk1 (by omega)).mono ?_;rw[HW.out];rintro e w6 ⟨A',c',rfl,ho6,hb6⟩;obtain⟨n6,hn6⟩:∃ n6,(withoutL s.act x).length=n6:=⟨_,rfl⟩;rw[hn6] at ho6 ⊢;have j62:=(HB5.out.keep hb6).t.ca;obtain⟨f6,hB6⟩:=HB5.out.setA (SlF.ofOwn ho6 HB5.out.t.lt) hb6;obtain⟨W7,hW7⟩:∃ W7,w6.setCell ⟨g,2,none⟩ (.slice A' n6 c')=W7:=⟨_,rfl⟩;rw[hW7] at hB6;have HB7:=Lib.hid hB6;clear ho6 hb6 hB6 hn6)
     | (go_at_call 49;refine (refFind49 (some ad) r.act.2.2 s.act x W4 (by have hq:=HB.out.t.rf.act.2.2.1;rw[hae] at hq;exact hq) (by omega)).mono ?_;rw[HI.out];rintro e w5 ⟨rfl,hb5⟩;have hB5:=HB.out.keep hb5;have ja5:=hB5.t.ca;obtain⟨ad2,hae2, -, -,hat5⟩:=Sl.pt (hB5.t.rf.act.2.2.1) hk;obtain rfl:ad=ad2:=Option.some.inj (hae.symm.trans hae2);have r33:=hat5.f33;rw[h1] at r33;have HB5:=Lib.hid hB5;clear hb5 hB5 hae2 hat5))
    obtain⟨r7,hr7⟩:∃ r7:Rt,(⟨r.win,r.opn,(A',n6,c'),r.kept⟩:Rt)=r7:=⟨_,rfl⟩
    have h7:=HB7.out
    rw[hr7] at h7
    have H7:=Lib.hid h7
    clear h7 hr7 ja5 r33 j62 f6 hae h1 hpk hW7
    by_cases n0:n=0
    ·have HD:=Lib.hid (show sayA x n=⟨9,⟨#[]⟩,x,0,0,0,0,⟨#[]⟩⟩ by unfold sayA;rw[if_pos n0])
     have q0:(n==0)=true:=by simpa using n0
     clear n0
     go_wp2
     refine AnyO.wp_anyI (by kernel_rfl) (by kernel_rfl) (AnyO.InvG (σ:=Unit) (fun σ=>AnyO.pvL [some (vT r7),some (vI x),some (vC (⟨9,⟨#[]⟩,x,0,0,0,0,⟨#[]⟩⟩)),none,none,some (Value.int IntKind.i64 0)]) (fun _ D u=>BxE F (⟨s.win,s.opn,withoutL s.act x,s.kept⟩:Tk) (r7) x (⟨9,⟨#[]⟩,x,0,0,0,0,⟨#[]⟩⟩) w g m r0 r1 G (D 3) (D 4) u)) (AnyO.InvG.start (g:=()) ((H7.out.e (⟨9,⟨#[]⟩,x,0,0,0,0,⟨#[]⟩⟩)).keep (below_drew _))) ?_ ?_
     ·intro i hi
      have hi2:i=0∨i=1∨i=2∨i=3∨i=4∨i=5:=by simp only[List.size_toArray,List.length_cons,List.length_nil] at hi;omega
      clear hi
      rcases hi2 with rfl|rfl|rfl|rfl|rfl|rfl
      ·refine AnyO.I rfl [] ?_;rintro D vs u σ Q h0 hC hp ac hb K hK
       have s3:=AnyO.sz (v:=.pointer (some ⟨g,0,none⟩)) 3 hb
       have lk:=Row.okw Q.out.2.rg (cT_length _)
       have rr1:=lk.1
       have rr2:rdA u ⟨g,0,none⟩ 4=vT r7:=lk.2
       clear lk
       go_simp;exact hK _ _ (AnyO.InvG.step (g:=σ) Q.out.1 rfl Q.out.2)
      ·refine AnyO.I rfl [] ?_;rintro D vs u σ Q h0 hC hp ac hb K hK
       have s4:=AnyO.sz (v:=.pointer (some ⟨m,0,none⟩)) 4 hb
       have lk:=Row.okw Q.out.2.rm (cI_length x)
       have rr1:=lk.1
       have rr2:rdA u ⟨m,0,none⟩ 32=vI x:=lk.2
       clear lk
       go_simp;exact hK _ _ (AnyO.InvG.step (g:=σ) Q.out.1 rfl Q.out.2)
      ·refine AnyO.I rfl [1] ?_;rintro D vs u σ Q h0 hC hp ac hb K hK
       have s43:_=_:=AnyO.sv 43 1 hb hp Q
       go_simp;exact hK _ _ (AnyO.InvG.step (g:=σ) Q.out.1 rfl Q.out.2)
      ·refine AnyO.I rfl [0,0] ?_;rintro D vs u σ Q h0 hC hp ac hb K hK
       have s6:=AnyO.sz (v:=.pointer (some ⟨r0,0,none⟩)) 6 hb
       have s42:_=_:=AnyO.sv 42 0 hb hp Q
       have ro:=(Q.out.2.st0 H7.out).1
       have RP:=Lib.hid (Q.out.2.st0 H7.out).2
       go_simp
       exact hK undef _ (AnyO.InvG.step (g:=σ) Q.out.1 trivial (by rw[show AnyO.addD D 3 3=true from rfl,show AnyO.addD D 3 4=D 4 from rfl];exact RP.out))
      ·refine AnyO.I rfl [2,3,0,1,2,3] ?_;rintro D vs u σ Q h0 hC hp ac hb K hK
       have s7:=AnyO.sz (v:=.pointer (some ⟨r1,0,none⟩)) 7 hb
       have s44:_=_:=AnyO.sv 44 2 hb hp Q
       have ro:=(Q.out.2.st1 H7.out).1
       have RP:=Lib.hid (Q.out.2.st1 H7.out).2
       go_simp
       exact hK undef _ (AnyO.InvG.step (g:=σ) Q.out.1 trivial (by rw[show AnyO.addD D 4 4=true from rfl,show AnyO.addD D 4 3=D 3 from rfl];exact RP.out))
      ·refine AnyO.I rfl [4,0,1,2,3,4] ?_;rintro D vs u σ Q h0 hC hp ac hb K hK
       go_simp;exact hK _ _ (AnyO.InvG.step (g:=σ) Q.out.1 rfl Q.out.2)
     ·intro D vs u hI hD
      obtain⟨σ,hP,hW⟩:=hI
      have e0:_=_:=hP 0 (hD 0 (by decide))
      have e1:_=_:=hP 1 (hD 1 (by decide))
      have e2:_=_:=hP 2 (hD 2 (by decide))
      have e5:_=_:=hP 5 (hD 5 (by decide))
      have hst:=hW
      rw[show D 3=true from hD 3 (by decide),show D 4=true from hD 4 (by decide)] at hst
      have HST:=Lib.hid hst
      clear hst
      have HW:=Lib.hid hW
      clear hW hP hD
      rw[puts_range [some 42,some 43,some 44,none,none,some 8] (by kernel_rfl)]
      simp only[putL,Nat.reduceAdd,e0,e1,e2,e5]
      clear e0 e1 e2 e5
      obtain⟨lT,lC,fin⟩:=HST.out.fin H7.out 0
      have FIN:=Lib.hid (And.intro lT (And.intro lC fin))
      clear lT lC fin
      go_simp
      go_wp2
      exact bodyPost_ret (v:=.tuple #[vT (r7),vC (⟨9,⟨#[]⟩,x,0,0,0,0,⟨#[]⟩⟩),.int .i64 0]) (results_cc (ad:=⟨r0,0,none⟩) (bd:=⟨r1,0,none⟩) rfl rfl FIN.out.1 rfl FIN.out.2.1 rfl) rfl (by rw[HD.out];exact FIN.out.2.2)
    by_cases n1:n=25
    ·have HD:=Lib.hid (show sayA x n=⟨5,⟨#[]⟩,x,0,0,0,0,⟨#[]⟩⟩ by unfold sayA;rw[if_neg n0,if_pos n1])
     have q0:(n==0)=false:=by simpa using n0
     have q1:(n==25)=true:=by simpa using n1
     clear n0 n1
     go_wp2
     refine AnyO.wp_anyI (by kernel_rfl) (by kernel_rfl) (AnyO.InvG (σ:=Unit) (fun σ=>AnyO.pvL [some (vT r7),some (vI x),some (vC (⟨5,⟨#[]⟩,x,0,0,0,0,⟨#[]⟩⟩)),none,none,some (Value.int IntKind.i64 0)]) (fun _ D u=>BxE F (⟨s.win,s.opn,withoutL s.act x,s.kept⟩:Tk) (r7) x (⟨5,⟨#[]⟩,x,0,0,0,0,⟨#[]⟩⟩) w g m r0 r1 G (D 3) (D 4) u)) (AnyO.InvG.start (g:=()) ((H7.out.e (⟨5,⟨#[]⟩,x,0,0,0,0,⟨#[]⟩⟩)).keep (below_drew _))) ?_ ?_
     ·intro i hi
      have hi2:i=0∨i=1∨i=2∨i=3∨i=4∨i=5:=by simp only[List.size_toArray,List.length_cons,List.length_nil] at hi;omega
      clear hi
      rcases hi2 with rfl|rfl|rfl|rfl|rfl|rfl
      ·refine AnyO.I rfl [] ?_;rintro D vs u σ Q h0 hC hp ac hb K hK
       have s3:=AnyO.sz (v:=.pointer (some ⟨g,0,none⟩)) 3 hb
       have lk:=Row.okw Q.out.2.rg (cT_length _)
       have rr1:=lk.1
       have rr2:rdA u ⟨g,0,none⟩ 4=vT r7:=lk.2
       clear lk
       go_simp;exact hK _ _ (AnyO.InvG.step (g:=σ) Q.out.1 rfl Q.out.2)
      ·refine AnyO.I rfl [] ?_;rintro D vs u σ Q h0 hC hp ac hb K hK
       have s4:=AnyO.sz (v:=.pointer (some ⟨m,0,none⟩)) 4 hb
       have lk:=Row.okw Q.out.2.rm (cI_length x)
       have rr1:=lk.1
       have rr2:rdA u ⟨m,0,none⟩ 32=vI x:=lk.2
       clear lk
       go_simp;exact hK _ _ (AnyO.InvG.step (g:=σ) Q.out.1 rfl Q.out.2)
      ·refine AnyO.I rfl [1] ?_;rintro D vs u σ Q h0 hC hp ac hb K hK
       have s48:_=_:=AnyO.sv 48 1 hb hp Q
       go_simp;exact hK _ _ (AnyO.InvG.step (g:=σ) Q.out.1 rfl Q.out.2)
      ·refine AnyO.I rfl [0,0] ?_;rintro D vs u σ Q h0 hC hp ac hb K hK
       have s6:=AnyO.sz (v:=.pointer (some ⟨r0,0,none⟩)) 6 hb
       have s47:_=_:=AnyO.sv 47 0 hb hp Q
       have ro:=(Q.out.2.st0 H7.out).1
       have RP:=Lib.hid (Q.out.2.st0 H7.out).2
       go_simp
       exact hK undef _ (AnyO.InvG.step (g:=σ) Q.out.1 trivial (by rw[show AnyO.addD D 3 3=true from rfl,show AnyO.addD D 3 4=D 4 from rfl];exact RP.out))
      ·refine AnyO.I rfl [2,3,0,1,2,3] ?_;rintro D vs u σ Q h0 hC hp ac hb K hK
       have s7:=AnyO.sz (v:=.pointer (some ⟨r1,0,none⟩)) 7 hb
       have s49:_=_:=AnyO.sv 49 2 hb hp Q
       have ro:=(Q.out.2.st1 H7.out).1
       have RP:=Lib.hid (Q.out.2.st1 H7.out).2
       go_simp
       exact hK undef _ (AnyO.InvG.step (g:=σ) Q.out.1 trivial (by rw[show AnyO.addD D 4 4=true from rfl,show AnyO.addD D 4 3=D 3 from rfl];exact RP.out))
      ·refine AnyO.I rfl [4,0,1,2,3,4] ?_;rintro D vs u σ Q h0 hC hp ac hb K hK
       go_simp;exact hK _ _ (AnyO.InvG.step (g:=σ) Q.out.1 rfl Q.out.2)
     ·intro D vs u hI hD
      obtain⟨σ,hP,hW⟩:=hI
      have e0:_=_:=hP 0 (hD 0 (by decide))
      have e1:_=_:=hP 1 (hD 1 (by decide))
      have e2:_=_:=hP 2 (hD 2 (by decide))
      have e5:_=_:=hP 5 (hD 5 (by decide))
      have hst:=hW
      rw[show D 3=true from hD 3 (by decide),show D 4=true from hD 4 (by decide)] at hst
      have HST:=Lib.hid hst
      clear hst
      have HW:=Lib.hid hW
      clear hW hP hD
      rw[puts_range [some 47,some 48,some 49,none,none,some 8] (by kernel_rfl)]
      simp only[putL,Nat.reduceAdd,e0,e1,e2,e5]
      clear e0 e1 e2 e5
      obtain⟨lT,lC,fin⟩:=HST.out.fin H7.out 0
      have FIN:=Lib.hid (And.intro lT (And.intro lC fin))
      clear lT lC fin
      go_simp
      go_wp2
      exact bodyPost_ret (v:=.tuple #[vT (r7),vC (⟨5,⟨#[]⟩,x,0,0,0,0,⟨#[]⟩⟩),.int .i64 0]) (results_cc (ad:=⟨r0,0,none⟩) (bd:=⟨r1,0,none⟩) rfl rfl FIN.out.1 rfl FIN.out.2.1 rfl) rfl (by rw[HD.out];exact FIN.out.2.2)
    ·have HD:=Lib.hid (show sayA x n=⟨6,⟨#[]⟩,x,0,0,0,n,⟨#[]⟩⟩ by unfold sayA;rw[if_neg n0,if_neg n1])
     have q0:(n==0)=false:=by simpa using n0
     have q1:(n==25)=false:=by simpa using n1
     clear n0 n1
     go_wp2
     refine AnyO.wp_anyI (by kernel_rfl) (by kernel_rfl) (AnyO.InvG (σ:=Unit) (fun σ=>AnyO.pvL [some (vT r7),some (vI x),some (.int .i64 n),some (vC (⟨6,⟨#[]⟩,x,0,0,0,n,⟨#[]⟩⟩)),none,none,some (Value.int IntKind.i64 0)]) (fun _ D u=>BxE F (⟨s.win,s.opn,withoutL s.act x,s.kept⟩:Tk) (r7) x (⟨6,⟨#[]⟩,x,0,0,0,n,⟨#[]⟩⟩) w g m r0 r1 G (D 4) (D 5) u)) (AnyO.InvG.start (g:=()) ((H7.out.e (⟨6,⟨#[]⟩,x,0,0,0,n,⟨#[]⟩⟩)).keep (below_drew _))) ?_ ?_
     ·intro i hi
      have hi2:i=0∨i=1∨i=2∨i=3∨i=4∨i=5∨i=6:=by simp only[List.size_toArray,List.length_cons,List.length_nil] at hi;omega
      clear hi
      rcases hi2 with rfl|rfl|rfl|rfl|rfl|rfl|rfl
      ·refine AnyO.I rfl [] ?_;rintro D vs u σ Q h0 hC hp ac hb K hK
       have s3:=AnyO.sz (v:=.pointer (some ⟨g,0,none⟩)) 3 hb
       have lk:=Row.okw Q.out.2.rg (cT_length _)
       have rr1:=lk.1
       have rr2:rdA u ⟨g,0,none⟩ 4=vT r7:=lk.2
       clear lk
       go_simp;exact hK _ _ (AnyO.InvG.step (g:=σ) Q.out.1 rfl Q.out.2)
      ·refine AnyO.I rfl [] ?_;rintro D vs u σ Q h0 hC hp ac hb K hK
       have s4:=AnyO.sz (v:=.pointer (some ⟨m,0,none⟩)) 4 hb
       have lk:=Row.okw Q.out.2.rm (cI_length x)
       have rr1:=lk.1
       have rr2:rdA u ⟨m,0,none⟩ 32=vI x:=lk.2
       clear lk
       go_simp;exact hK _ _ (AnyO.InvG.step (g:=σ) Q.out.1 rfl Q.out.2)
      ·refine AnyO.I rfl [] ?_;rintro D vs u σ Q h0 hC hp ac hb K hK
       have s2:=AnyO.sz (v:=.int .i64 n) 2 hb
       go_simp;exact hK _ _ (AnyO.InvG.step (g:=σ) Q.out.1 rfl Q.out.2)
      ·refine AnyO.I rfl [1,2] ?_;rintro D vs u σ Q h0 hC hp ac hb K hK
       have s51:_=_:=AnyO.sv 51 1 hb hp Q
       have s52:_=_:=AnyO.sv 52 2 hb hp Q
       go_simp;exact hK _ _ (AnyO.InvG.step (g:=σ) Q.out.1 rfl Q.out.2)
      ·refine AnyO.I rfl [0,0] ?_;rintro D vs u σ Q h0 hC hp ac hb K hK
       have s6:=AnyO.sz (v:=.pointer (some ⟨r0,0,none⟩)) 6 hb
       have s50:_=_:=AnyO.sv 50 0 hb hp Q
       have ro:=(Q.out.2.st0 H7.out).1
       have RP:=Lib.hid (Q.out.2.st0 H7.out).2
       go_simp
       exact hK undef _ (AnyO.InvG.step (g:=σ) Q.out.1 trivial (by rw[show AnyO.addD D 4 4=true from rfl,show AnyO.addD D 4 5=D 5 from rfl];exact RP.out))
      ·refine AnyO.I rfl [3,4,0,1,2,3,4] ?_;rintro D vs u σ Q h0 hC hp ac hb K hK
       have s7:=AnyO.sz (v:=.pointer (some ⟨r1,0,none⟩)) 7 hb
       have s53:_=_:=AnyO.sv 53 3 hb hp Q
       have ro:=(Q.out.2.st1 H7.out).1
       have RP:=Lib.hid (Q.out.2.st1 H7.out).2
       go_simp
       exact hK undef _ (AnyO.InvG.step (g:=σ) Q.out.1 trivial (by rw[show AnyO.addD D 5 5=true from rfl,show AnyO.addD D 5 4=D 4 from rfl];exact RP.out))
      ·refine AnyO.I rfl [5,0,1,2,3,4,5] ?_;rintro D vs u σ Q h0 hC hp ac hb K hK
       go_simp;exact hK _ _ (AnyO.InvG.step (g:=σ) Q.out.1 rfl Q.out.2)
     ·intro D vs u hI hD
      obtain⟨σ,hP,hW⟩:=hI
      have e0:_=_:=hP 0 (hD 0 (by decide))
      have e1:_=_:=hP 1 (hD 1 (by decide))
      have e2:_=_:=hP 2 (hD 2 (by decide))
      have e3:_=_:=hP 3 (hD 3 (by decide))
      have e6:_=_:=hP 6 (hD 6 (by decide))
      have hst:=hW
      rw[show D 4=true from hD 4 (by decide),show D 5=true from hD 5 (by decide)] at hst
      have HST:=Lib.hid hst
      clear hst
      have HW:=Lib.hid hW
      clear hW hP hD
      rw[puts_range [some 50,some 51,some 52,some 53,none,none,some 8] (by kernel_rfl)]
      simp only[putL,Nat.reduceAdd,e0,e1,e2,e3,e6]
      clear e0 e1 e2 e3 e6
      obtain⟨lT,lC,fin⟩:=HST.out.fin H7.out 0
      have FIN:=Lib.hid (And.intro lT (And.intro lC fin))
      clear lT lC fin
      go_simp
      go_wp2
      exact bodyPost_ret (v:=.tuple #[vT (r7),vC (⟨6,⟨#[]⟩,x,0,0,0,n,⟨#[]⟩⟩),.int .i64 0]) (results_cc (ad:=⟨r0,0,none⟩) (bd:=⟨r1,0,none⟩) rfl rfl FIN.out.1 rfl FIN.out.2.1 rfl) rfl (by rw[HD.out];exact FIN.out.2.2)
   ·rw[hpk,if_pos h1] at hz
    subst hz
    have q1:(s.act[k].state != 3)=true:=by simpa using h1
    clear h1 hpk
    go_enter Tryz.func57,Tryz.ntmps57
    go_wp2_with (go_at_call 49;refine (refFind49 (some ad) r.act.2.2 s.act x W4 (by have hq:=HB.out.t.rf.act.2.2.1;rw[hae] at hq;exact hq) (by omega)).mono ?_;rw[HI.out];rintro e w5 ⟨rfl,hb5⟩;have hB5:=HB.out.keep hb5;have ja5:=hB5.t.ca;obtain⟨ad2,hae2, -, -,hat5⟩:=Sl.pt (hB5.t.rf.act.2.2.1) hk;obtain rfl:ad=ad2:=Option.some.inj (hae.symm.trans hae2);have r33:=hat5.f33;have ll:=hB5.t.ld;have l51:=ll.1;have l52:=ll.2.1;obtain⟨ro0,e0⟩:=(hB5.e zC).st0 hB5;obtain⟨V1,hV1⟩:∃ V1,w5.setRow r0 (aT r)=V1:=⟨_,rfl⟩;rw[hV1] at e0;obtain⟨ro1,e1⟩:=e0.st1 hB5;obtain⟨lT,lC,fin⟩:=e1.fin hB5 10;have FIN:=Lib.hid (And.intro lT (And.intro lC fin));clear hb5 hB5 hae2 hat5 ll e0 e1 lT lC fin)
    exact bodyPost_ret (v:=.tuple #[vT r,vC zC,.int .i64 10]) (results_cc (ad:=⟨r0,0,none⟩) (bd:=⟨r1,0,none⟩) rfl rfl FIN.out.1 rfl FIN.out.2.1 rfl) rfl FIN.out.2.2
section
variable {F G : List Nat} {s : Tk} {r : Rt} {x : Id} {w u u' : World} {g m r0 r1 : Nat}
theorem BxR.rf (h:BxR F s r x w g m r0 r1 G u):RfAt G s r u:=h.t.rf
theorem BxR.ck (h:BxR F s r x w g m r0 r1 G u):u.cell? ⟨g,3,none⟩=some (.slice r.kept.1 s.kept.length r.kept.2.2):=h.t.ck
theorem BxR.ca (h:BxR F s r x w g m r0 r1 G u):u.cell? ⟨g,2,none⟩=some (.slice r.act.1 s.act.length r.act.2.2):=h.t.ca
theorem BxR.lt (h:BxR F s r x w g m r0 r1 G u):∀ k∈G,k<u.heap.size:=h.t.lt
theorem BxR.setKF (h:BxR F s r x w g m r0 r1 G u) {v:SlV} {l':List Pt} (hs:SlF G u' cA v l') (hb:Below u.heap.size u u'):u'.frozen? ⟨g,3,none⟩=false∧BxR F { s with kept:=l' } ⟨r.win,r.opn,r.act,v⟩ x w g m r0 r1 G (u'.setCell ⟨g,3,none⟩ (.slice v.1 v.2.1 v.2.2)):=h.setK hs hb
end
def WKQ (F:List Nat) (s:Tk) (r:Rt) (x:Id) (w:World) (g m r0 r1:Nat) (G:List Nat) (l':List Pt) (W0:World) (v:SlV) (u:World):Bool→Bool→Prop
 | false,_=>Below W0.heap.size W0 u
 | true,false=>SlF G u cA v l'∧Below W0.heap.size W0 u
 | true,true=>BxR F { s with kept:=l' } ⟨r.win,r.opn,r.act,v⟩ x w g m r0 r1 G u
set_option maxRecDepth 100000 in
set_option maxHeartbeats 3200000 in
theorem refCancel58 (F:List Nat) (s:Tk) (r:Rt) (x:Id) (w:World) (h:RfAt F s r w) (hF:∀ k∈F,k<w.heap.size) (ha:s.act.length≤100) (hk8:s.kept.length≤8) (hnd:(s.act.map Pt.id).Nodup) (hndk:(s.kept.map Pt.id).Nodup) :
  Calls Tryz.prog 58 #[vT r,vI x] w (RcP F (cancelT s x).1 (cancelT s x).2.1 (cancelT s x).2.2 w):=by
 have HND:=Lib.hid hnd
 have HNK:=Lib.hid (And.intro hk8 hndk)
 have HCK:=Lib.hid (show s.kept.length≤r.kept.2.2 by rw[h.kept.1];exact h.kept.2.1)
 clear hnd hk8 hndk
 obtain⟨g,W1,m,W2,r0,W3,r1,W4,G,hg,hW1,hm,hW2,hr0,hW3,hr1,hW4,hB⟩:=BxR.new h hF x
 have hnd:=HND.out
 have ja:=hB.t.ca
 have lk:=hB.t.ld
 have l1:=lk.1
 have l2:=lk.2.1
 have qm:=Row.okw hB.rm (cI_length x)
 have qm1:=qm.1
 have qm2:rdA W4 ⟨m,0,none⟩ 32=vI x:=qm.2
 have HB:=Lib.hid hB
 have HCA:=Lib.hid (show s.act.length≤r.act.2.2 by rw[h.act.1];exact h.act.2.1)
 clear hB h hF lk qm hnd
 obtain⟨Z,hZ⟩:∃ Z,cancelT s x=Z:=⟨_,rfl⟩
 rw[hZ]
 unfold cancelT at hZ
 have HZ:=Lib.hid hZ
 clear hZ
 cases hp:posL s.act x with
 | none =>
  have hz:=HZ.out
  rw[hp] at hz
  dsimp only at hz
  subst hz
  have HI:=Lib.hid (idx_none hp)
  clear hp
  go_enter Tryz.func58,Tryz.ntmps58
  go_wp2_with (go_at_call 49;refine (refFind49 r.act.1 r.act.2.2 s.act x W4 HB.out.t.rf.act.2.2.1 (by omega)).mono ?_;rw[HI.out];rintro e w5 ⟨rfl,hb5⟩;have hB5:=HB.out.keep hb5;have ja5:=hB5.t.ca;have ll:=hB5.t.ld;have l51:=ll.1;have l52:=ll.2.1;obtain⟨ro0,e0⟩:=(hB5.e zC).st0 hB5;obtain⟨V1,hV1⟩:∃ V1,w5.setRow r0 (aT r)=V1:=⟨_,rfl⟩;rw[hV1] at e0;obtain⟨ro1,e1⟩:=e0.st1 hB5;obtain⟨lT,lC,fin⟩:=e1.fin hB5 8;have FIN:=Lib.hid (And.intro lT (And.intro lC fin));clear hb5 hB5 ll e0 e1 lT lC fin)
  exact bodyPost_ret (v:=.tuple #[vT r,vC zC,.int .i64 8]) (results_cc (ad:=⟨r0,0,none⟩) (bd:=⟨r1,0,none⟩) rfl rfl FIN.out.1 rfl FIN.out.2.1 rfl) rfl FIN.out.2.2
 | some k =>
  obtain⟨hk, -, -⟩:=pos_some hp
  have hz:=HZ.out
  rw[hp] at hz
  dsimp only at hz
  have HI:=Lib.hid (idx_some hp)
  clear hp
  have hk1:(k:Int)<(s.act.length:Int):=by omega
  have hpk:ptK s.act k=s.act[k]:=ptK_eq hk
  obtain⟨ad,hae, -⟩:=Sl.pt (HB.out.t.rf.act.2.2.1) hk
  by_cases h1:s.act[k].state=2
  ·rw[hpk,if_neg (by intro h;exact h h1)] at hz
   have HZ2:=Lib.hid hz
   clear hz hpk
   have HWT:=Lib.hid (show withoutI s.act (k:Int)=withoutL s.act x by rw[← withoutI_eq HND.out,HI.out])
   obtain⟨pp,hpp⟩:∃ pp,s.act[k]=pp:=⟨_,rfl⟩
   have HPP:=Lib.hid hpp
   have h1':pp.state=2:=hpp▸h1
   clear hpp h1
   go_enter Tryz.func58,Tryz.ntmps58
   go_upto_region 6 with (go_at_call 49;refine (refFind49 (some ad) r.act.2.2 s.act x W4 (by have hq:=HB.out.t.rf.act.2.2.1;rw[hae] at hq;exact hq) (by omega)).mono ?_;rw[HI.out];rintro e w5 ⟨rfl,hb5⟩;have hB5:=HB.out.keep hb5;have ja5:=hB5.t.ca;obtain⟨ad2,hae2, -, -,hat5⟩:=Sl.pt (hB5.t.rf.act.2.2.1) hk;obtain rfl:ad=ad2:=Option.some.inj (hae.symm.trans hae2);rw[HPP.out] at hat5;have r33:=hat5.f33;rw[h1'] at r33;have HB5:=Lib.hid hB5;have HAT:=Lib.hid hat5;clear hb5 hB5 hae2 hat5)
   have HAE:=Lib.hid hae
   clear ja ja5 r33 l1 l2 qm1 qm2 h1'
   refine AnyO.wp_anyI (by kernel_rfl) (by kernel_rfl) (AnyO.InvG (σ:=SlV) (fun σ=>AnyO.pvL [some (.pointer (some ⟨g,3,none⟩)),some (.slice r.kept.1 s.kept.length r.kept.2.2),some (.pointer (some ⟨g,2,none⟩)),some (.slice (some ad) s.act.length r.act.2.2),some (.int .i64 k),some (.pointer (some (ad.add (k * 35)))),some (vA pp),some (.slice σ.1 σ.2.1 σ.2.2),some (.pointer (some ⟨g,3,none⟩)),none]) (fun σ D u=>WKQ F (s) (r) x w g m r0 r1 G (keepL (s).kept pp) w5 σ u (D 7) (D 9))) (AnyO.InvG.start (g:=(none,0,0)) (below_drew _)) ?_ ?_
   ·intro i hi
    have hi2:i=0∨i=1∨i=2∨i=3∨i=4∨i=5∨i=6∨i=7∨i=8∨i=9:=by simp only[List.size_toArray,List.length_cons,List.length_nil] at hi;omega
    clear hi
    rcases hi2 with rfl|rfl|rfl|rfl|rfl|rfl|rfl|rfl|rfl|rfl
    ·refine AnyO.I rfl [] ?_;rintro D vs u σ Q h0 hC hp ac hb K hK
     have s2:=AnyO.sz (v:=.pointer (some ⟨g,0,none⟩)) 2 hb
     go_simp;exact hK _ _ (AnyO.InvG.step (g:=σ) Q.out.1 rfl Q.out.2)
    ·refine AnyO.I rfl [0] ?_;rintro D vs u σ Q h0 hC hp ac hb K hK
     have s25:_=_:=AnyO.sv 25 0 hb hp Q
     have hf7:=AnyO.fls (hC.out 7) h0 (show AnyO.pre _ 7=[1,6] from by kernel_rfl) (by decide)
     have hst:=Q.out.2
     rw[show D 7=false from hf7] at hst
     have rr:=(HB5.out.keep hst).ck
     clear hst hf7
     go_simp;exact hK _ _ (AnyO.InvG.step (g:=σ) Q.out.1 rfl Q.out.2)
    ·refine AnyO.I rfl [] ?_;rintro D vs u σ Q h0 hC hp ac hb K hK
     have s2:=AnyO.sz (v:=.pointer (some ⟨g,0,none⟩)) 2 hb
     go_simp;exact hK _ _ (AnyO.InvG.step (g:=σ) Q.out.1 rfl Q.out.2)
    ·refine AnyO.I rfl [2] ?_;rintro D vs u σ Q h0 hC hp ac hb K hK
     have s27:_=_:=AnyO.sv 27 2 hb hp Q
     have hf5:=AnyO.fls (hC.out 5) h0 (show AnyO.pre _ 5=[3,4] from by kernel_rfl) (by decide)
     have hf6:=AnyO.fls (hC.out 6) hf5 (show AnyO.pre _ 6=[5] from by kernel_rfl) (by decide)
     have hf7:=AnyO.fls (hC.out 7) hf6 (show AnyO.pre _ 7=[1,6] from by kernel_rfl) (by decide)
     have hst:=Q.out.2
     rw[show D 7=false from hf7] at hst
     have rr:=(HB5.out.keep hst).ca;rw[HAE.out] at rr
     clear hst hf5 hf6 hf7
     go_simp;exact hK _ _ (AnyO.InvG.step (g:=σ) Q.out.1 rfl Q.out.2)
    ·refine AnyO.I rfl [] ?_;rintro D vs u σ Q h0 hC hp ac hb K hK
     have s7:=AnyO.sz (v:=.int .i64 k) 7 hb
     go_simp;exact hK _ _ (AnyO.InvG.step (g:=σ) Q.out.1 rfl Q.out.2)
    ·refine AnyO.I rfl [3,4] ?_;rintro D vs u σ Q h0 hC hp ac hb K hK
     have s28:_=_:=AnyO.sv 28 3 hb hp Q
     have s29:_=_:=AnyO.sv 29 4 hb hp Q
     go_simp;exact hK _ _ (AnyO.InvG.step (g:=σ) Q.out.1 rfl Q.out.2)
    ·refine AnyO.I rfl [5] ?_;rintro D vs u σ Q h0 hC hp ac hb K hK
     have s30:_=_:=AnyO.sv 30 5 hb hp Q
     have hf7:=AnyO.fls (hC.out 7) h0 (show AnyO.pre _ 7=[1,6] from by kernel_rfl) (by decide)
     have hst:=Q.out.2
     rw[show D 7=false from hf7] at hst
     have rr:=(HAT.out.keep hst)
     obtain⟨rr1,rr2⟩:=rr.pa
     clear rr
     clear hst hf7
     go_simp;exact hK _ _ (AnyO.InvG.step (g:=σ) Q.out.1 rfl Q.out.2)
    ·refine AnyO.I rfl [1,6] ?_;rintro D vs u σ Q h0 hC hp ac hb K hK
     have s26:_=_:=AnyO.sv 26 1 hb hp Q
     have s31:_=_:=AnyO.sv 31 6 hb hp Q
     have hf9:=AnyO.fls (hC.out 9) h0 (show AnyO.pre _ 9=[8,7,7,0,1,2,3,4,5,6,7] from by kernel_rfl) (by decide)
     go_simp
     have hst:=Q.out.2
     rw[show D 7=false from h0] at hst
     go_at_call 75
     refine (refKeep75 G (r).kept.1 (r).kept.2.2 (s).kept.length (s).kept pp u rfl (show SlF G u cA ((r).kept.1,(s).kept.length,(r).kept.2.2) (s).kept from ⟨rfl,HCK.out,((HB5.out.keep hst).rf).kept.2.2.1,((HB5.out.keep hst).rf).kept.2.2.2⟩) (HB5.out.keep hst).lt HNK.out.1).mono ?_
     rintro e w2 ⟨v',rfl,hs',hb'⟩
     refine hK _ _ (AnyO.InvG.ghost (g:=σ) v' Q.out.1 ?_ rfl ?_)
     ·intro j hj hq
      rcases j with _|_|_|_|_|_|_|_|_|_|j
      ·exact hq
      ·exact hq
      ·exact hq
      ·exact hq
      ·exact hq
      ·exact hq
      ·exact hq
      ·exact absurd (show D 7=true from hj) (by rw[h0];decide)
      ·exact hq
      ·exact hq
      ·exact hq
     rw[show AnyO.addD D 7 7=true from rfl,show AnyO.addD D 7 9=D 9 from rfl,hf9]
     exact⟨hs',Below.step hst hb'⟩
    ·refine AnyO.I rfl [0,1,2,3,4,5,6,7] ?_;rintro D vs u σ Q h0 hC hp ac hb K hK
     have s2:=AnyO.sz (v:=.pointer (some ⟨g,0,none⟩)) 2 hb
     go_simp;exact hK _ _ (AnyO.InvG.step (g:=σ) Q.out.1 rfl Q.out.2)
    ·refine AnyO.I rfl [8,7,7,0,1,2,3,4,5,6,7] ?_;rintro D vs u σ Q h0 hC hp ac hb K hK
     have s33:_=_:=AnyO.sv 33 8 hb hp Q
     have s32:_=_:=AnyO.sv 32 7 hb hp Q
     have hp7:D 7=true:=hp.out 7 (by decide)
     have hst:=Q.out.2
     rw[show D 7=true from hp7,show D 9=false from h0] at hst
     obtain⟨rf,rp⟩:=HB5.out.setKF hst.1 hst.2
     have rc:=(HB5.out.keep hst.2).ck
     have RP:=Lib.hid rp
     clear hst rp
     go_simp
     exact hK undef _ (AnyO.InvG.step (g:=σ) Q.out.1 trivial (by rw[show AnyO.addD D 9 7=D 7 from rfl,hp7,show AnyO.addD D 9 9=true from rfl];exact RP.out))
   ·intro D vs u hI hD
    obtain⟨σ,hP,hW⟩:=hI
    have e0:_=_:=hP 0 (hD 0 (by decide))
    have e1:_=_:=hP 1 (hD 1 (by decide))
    have e2:_=_:=hP 2 (hD 2 (by decide))
    have e3:_=_:=hP 3 (hD 3 (by decide))
    have e4:_=_:=hP 4 (hD 4 (by decide))
    have e5:_=_:=hP 5 (hD 5 (by decide))
    have e6:_=_:=hP 6 (hD 6 (by decide))
    have e7:_=_:=hP 7 (hD 7 (by decide))
    have e8:_=_:=hP 8 (hD 8 (by decide))
    have hst:=hW
    rw[show D 7=true from hD 7 (by decide),show D 9=true from hD 9 (by decide)] at hst
    have HST:=Lib.hid hst
    clear hst
    have HW:=Lib.hid hW
    clear hW hP hD
    rw[puts_range [some 25,some 26,some 27,some 28,some 29,some 30,some 31,some 32,some 33,none] (by kernel_rfl)]
    simp only[putL,Nat.reduceAdd,e0,e1,e2,e3,e4,e5,e6,e7,e8]
    clear e0 e1 e2 e3 e4 e5 e6 e7 e8
    go_simp
    obtain⟨s1,hs1⟩:∃ s1:Tk,{ s with kept:=keepL s.kept pp }=s1:=⟨_,rfl⟩
    obtain⟨r6,hr6⟩:∃ r6:Rt,(⟨r.win,r.opn,r.act,σ⟩:Rt)=r6:=⟨_,rfl⟩
    have hB6:BxR F s1 r6 x w g m r0 r1 G u:=by rw[← hs1,← hr6];exact HST.out
    obtain⟨U,rfl⟩:∃ U,U=u:=⟨_,rfl⟩
    have hra:r6.act.1=some ad:=by rw[← hr6];exact HAE.out
    have hsa:s1.act=s.act:=by rw[← hs1]
    have ja6:=hB6.ca
    rw[hra,hsa] at ja6
    have hsl6:=hB6.rf.act.2.2.1
    rw[hra,hsa] at hsl6
    have hca6:s.act.length≤r6.act.2.2:=by rw[← hr6];exact HCA.out
    have HS1:=Lib.hid (And.intro hs1 (And.intro hsa (And.intro hra (And.intro hsl6 hca6))))
    have H6:=Lib.hid hB6
    clear hs1 hr6 hB6 hra hsa hsl6 hca6
    go_upto_region 8 with (go_at_call 73;refine (refWithout73 (some ad) r6.act.2.2 s.act k U HS1.out.2.2.2.1 HS1.out.2.2.2.2 (by omega) hk1 (by omega)).mono ?_;rw[HWT.out];rintro e w6 ⟨A',c',rfl,ho6,hb6⟩;obtain⟨n6,hn6⟩:∃ n6,(withoutL s.act x).length=n6:=⟨_,rfl⟩;rw[hn6] at ho6 ⊢;have j62:=(H6.out.keep hb6).ca;rw[HS1.out.2.2.1,HS1.out.2.1] at j62;obtain⟨f6,hB7⟩:=H6.out.setA (SlF.ofOwn ho6 H6.out.lt) hb6;obtain⟨W7,hW7⟩:∃ W7,w6.setCell ⟨g,2,none⟩ (.slice A' n6 c')=W7:=⟨_,rfl⟩;rw[hW7] at hB7;have HB7:=Lib.hid hB7;clear ho6 hb6 hB7 hn6)
    obtain⟨r7,hr7⟩:∃ r7:Rt,(⟨r6.win,r6.opn,(A',n6,c'),r6.kept⟩:Rt)=r7:=⟨_,rfl⟩
    have h7:=HB7.out
    rw[hr7] at h7
    have h7q:BxR F (⟨s.win,s.opn,withoutL s.act x,keepP s.kept pp⟩:Tk) r7 x w g m r0 r1 G W7:=by have e:({ s1 with act:=withoutL s.act x }:Tk)=⟨s.win,s.opn,withoutL s.act x,keepP s.kept pp⟩:=(by rw[← HS1.out.1,keepL_eq HNK.out.2]);rw[← e];exact h7
    have H7:=Lib.hid h7q
    clear h7 h7q hr7 ja6 j62 f6 hW7 hae
    refine AnyO.wp_anyI (by kernel_rfl) (by kernel_rfl) (AnyO.InvG (σ:=Unit) (fun σ=>AnyO.pvL [some (vT r7),some (vI x),some (vC (⟨5,⟨#[]⟩,x,0,0,0,0,⟨#[]⟩⟩)),none,none,some (Value.int IntKind.i64 0)]) (fun _ D u=>BxE F (⟨s.win,s.opn,withoutL s.act x,keepP s.kept pp⟩:Tk) (r7) x (⟨5,⟨#[]⟩,x,0,0,0,0,⟨#[]⟩⟩) w g m r0 r1 G (D 3) (D 4) u)) (AnyO.InvG.start (g:=()) ((H7.out.e (⟨5,⟨#[]⟩,x,0,0,0,0,⟨#[]⟩⟩)).keep (below_drew _))) ?_ ?_
    ·intro i hi
     have hi2:i=0∨i=1∨i=2∨i=3∨i=4∨i=5:=by simp only[List.size_toArray,List.length_cons,List.length_nil] at hi;omega
     clear hi
     rcases hi2 with rfl|rfl|rfl|rfl|rfl|rfl
     ·refine AnyO.I rfl [] ?_;rintro D vs u σ Q h0 hC hp ac hb K hK
      have s2:=AnyO.sz (v:=.pointer (some ⟨g,0,none⟩)) 2 hb
      have lk:=Row.okw Q.out.2.rg (cT_length _)
      have rr1:=lk.1
      have rr2:rdA u ⟨g,0,none⟩ 4=vT r7:=lk.2
      clear lk
      go_simp;exact hK _ _ (AnyO.InvG.step (g:=σ) Q.out.1 rfl Q.out.2)
     ·refine AnyO.I rfl [] ?_;rintro D vs u σ Q h0 hC hp ac hb K hK
      have s3:=AnyO.sz (v:=.pointer (some ⟨m,0,none⟩)) 3 hb
      have lk:=Row.okw Q.out.2.rm (cI_length x)
      have rr1:=lk.1
      have rr2:rdA u ⟨m,0,none⟩ 32=vI x:=lk.2
      clear lk
      go_simp;exact hK _ _ (AnyO.InvG.step (g:=σ) Q.out.1 rfl Q.out.2)
     ·refine AnyO.I rfl [1] ?_;rintro D vs u σ Q h0 hC hp ac hb K hK
      have s40:_=_:=AnyO.sv 40 1 hb hp Q
      go_simp;exact hK _ _ (AnyO.InvG.step (g:=σ) Q.out.1 rfl Q.out.2)
     ·refine AnyO.I rfl [0,0] ?_;rintro D vs u σ Q h0 hC hp ac hb K hK
      have s4:=AnyO.sz (v:=.pointer (some ⟨r0,0,none⟩)) 4 hb
      have s39:_=_:=AnyO.sv 39 0 hb hp Q
      have ro:=(Q.out.2.st0 H7.out).1
      have RP:=Lib.hid (Q.out.2.st0 H7.out).2
      go_simp
      exact hK undef _ (AnyO.InvG.step (g:=σ) Q.out.1 trivial (by rw[show AnyO.addD D 3 3=true from rfl,show AnyO.addD D 3 4=D 4 from rfl];exact RP.out))
     ·refine AnyO.I rfl [2,3,0,1,2,3] ?_;rintro D vs u σ Q h0 hC hp ac hb K hK
      have s5:=AnyO.sz (v:=.pointer (some ⟨r1,0,none⟩)) 5 hb
      have s41:_=_:=AnyO.sv 41 2 hb hp Q
      have ro:=(Q.out.2.st1 H7.out).1
      have RP:=Lib.hid (Q.out.2.st1 H7.out).2
      go_simp
      exact hK undef _ (AnyO.InvG.step (g:=σ) Q.out.1 trivial (by rw[show AnyO.addD D 4 4=true from rfl,show AnyO.addD D 4 3=D 3 from rfl];exact RP.out))
     ·refine AnyO.I rfl [4,0,1,2,3,4] ?_;rintro D vs u σ Q h0 hC hp ac hb K hK
      go_simp;exact hK _ _ (AnyO.InvG.step (g:=σ) Q.out.1 rfl Q.out.2)
    ·intro D vs u hI hD
     obtain⟨σ,hP,hW⟩:=hI
     have e0:_=_:=hP 0 (hD 0 (by decide))
     have e1:_=_:=hP 1 (hD 1 (by decide))
     have e2:_=_:=hP 2 (hD 2 (by decide))
     have e5:_=_:=hP 5 (hD 5 (by decide))
     have hst:=hW
     rw[show D 3=true from hD 3 (by decide),show D 4=true from hD 4 (by decide)] at hst
     have HST:=Lib.hid hst
     clear hst
     have HW:=Lib.hid hW
     clear hW hP hD
     rw[puts_range [some 39,some 40,some 41,none,none,some 6] (by kernel_rfl)]
     simp only[putL,Nat.reduceAdd,e0,e1,e2,e5]
     clear e0 e1 e2 e5
     obtain⟨lT,lC,fin⟩:=HST.out.fin H7.out 0
     have FIN:=Lib.hid (And.intro lT (And.intro lC fin))
     clear lT lC fin
     go_simp
     go_wp2
     exact bodyPost_ret (v:=.tuple #[vT (r7),vC (⟨5,⟨#[]⟩,x,0,0,0,0,⟨#[]⟩⟩),.int .i64 0]) (results_cc (ad:=⟨r0,0,none⟩) (bd:=⟨r1,0,none⟩) rfl rfl FIN.out.1 rfl FIN.out.2.1 rfl) rfl (by rw[← HZ2.out,HPP.out];exact FIN.out.2.2)
  ·rw[hpk,if_pos h1] at hz
   subst hz
   have q1:(s.act[k].state != 2)=true:=by simpa using h1
   clear h1 hpk
   go_enter Tryz.func58,Tryz.ntmps58
   go_wp2_with (go_at_call 49;refine (refFind49 (some ad) r.act.2.2 s.act x W4 (by have hq:=HB.out.t.rf.act.2.2.1;rw[hae] at hq;exact hq) (by omega)).mono ?_;rw[HI.out];rintro e w5 ⟨rfl,hb5⟩;have hB5:=HB.out.keep hb5;have ja5:=hB5.t.ca;have ll:=hB5.t.ld;have l51:=ll.1;have l52:=ll.2.1;obtain⟨ad2,hae2, -, -,hat5⟩:=Sl.pt (hB5.t.rf.act.2.2.1) hk;obtain rfl:ad=ad2:=Option.some.inj (hae.symm.trans hae2);have r33:=hat5.f33;clear hae2 hat5;obtain⟨ro0,e0⟩:=(hB5.e zC).st0 hB5;obtain⟨V1,hV1⟩:∃ V1,w5.setRow r0 (aT r)=V1:=⟨_,rfl⟩;rw[hV1] at e0;obtain⟨ro1,e1⟩:=e0.st1 hB5;obtain⟨lT,lC,fin⟩:=e1.fin hB5 10;have FIN:=Lib.hid (And.intro lT (And.intro lC fin));clear hb5 hB5 ll e0 e1 lT lC fin)
   exact bodyPost_ret (v:=.tuple #[vT r,vC zC,.int .i64 10]) (results_cc (ad:=⟨r0,0,none⟩) (bd:=⟨r1,0,none⟩) rfl rfl FIN.out.1 rfl FIN.out.2.1 rfl) rfl FIN.out.2.2
end Go.Proofs.YtgojaelkdpabkaaGreatDoor
