/- Taker's Accepted, Cancel, Forget. -/
import Derived.Test.YtdkjgcfhepplbaaGreatDoorMTkB
namespace Go.Proofs.YtdkjgcfhepplbaaGreatDoor
open Go.RowKit
section
variable (w : World)
@[go_sem] theorem blC_two (n:Int) (x:Id):(blA 74 #[(0,.int .i64 n),(2,vI x)]).run Tryz.prog w=.ok (vC ⟨n,⟨#[]⟩,x,0,0,0,0,⟨#[]⟩⟩) w:=by
 revert x
 refine Id.cases fun a0 a1 a2 a3 a4 a5 a6 a7 a8 a9 a10 a11 a12 a13 a14 a15 a16 a17 a18 a19 a20 a21 a22 a23 a24 a25 a26 a27 a28 a29 a30 a31=>?_
 kernel_rfl
@[go_sem] theorem blC_code (n m:Int) (x:Id):(blA 74 #[(0,.int .i64 n),(2,vI x),(6,.int .i64 m)]).run Tryz.prog w=.ok (vC ⟨n,⟨#[]⟩,x,0,0,0,m,⟨#[]⟩⟩) w:=by
 revert x
 refine Id.cases fun a0 a1 a2 a3 a4 a5 a6 a7 a8 a9 a10 a11 a12 a13 a14 a15 a16 a17 a18 a19 a20 a21 a22 a23 a24 a25 a26 a27 a28 a29 a30 a31=>?_
 kernel_rfl
end
def sayA (x:Id) (n:Int):Cm:=if n=0 then ⟨9,⟨#[]⟩,x,0,0,0,0,⟨#[]⟩⟩ else if n=25 then ⟨5,⟨#[]⟩,x,0,0,0,0,⟨#[]⟩⟩ else ⟨6,⟨#[]⟩,x,0,0,0,n,⟨#[]⟩⟩
def acceptedT (s:Tk) (x:Id) (n:Int):Tk×Cm×Int :=
 if n<0∨99<n then (s,zC,2)
 else match posL s.act x with
 | none=>(s,zC,8)
 | some k=>if (ptK s.act k).state≠3 then (s,zC,10) else (⟨s.win,s.opn,withoutL s.act x,s.kept⟩,sayA x n,0)
set_option maxRecDepth 100000 in
set_option maxHeartbeats 6400000 in
theorem accepted25 (b:Nat) (s:Tk) (F:List Nat) (x:Id) (n:Int) (w:World) (h:TkAt b s F w) (hna:s.act.length≤100) (hnk:s.kept.length≤100) :
  Calls Tryz.prog 46 #[.pointer (some ⟨b,0,none⟩),vI x,.int .i64 n] w (AnsP b (acceptedT s x n).1 (acceptedT s x n).2.1 (acceptedT s x n).2.2 F w):=by
 obtain⟨va,vk,h⟩:=h
 obtain⟨F0,h0,hK0,hlt⟩:=h.shrink
 obtain⟨g,hg⟩:∃ g,w.heap.size=g:=⟨_,rfl⟩
 obtain⟨W1,hW1⟩:∃ W1,w.alloc (.cells (aI x) 39)=W1:=⟨_,rfl⟩
 have hb1:Below w.heap.size w W1:=by rw[← hW1];exact below_alloc _ _
 have hrow:Row W1 g (cI x) 39:=by rw[← hW1,← hg];exact Row.new w (cI x) _
 obtain⟨r0,hr0⟩:∃ r0,W1.heap.size=r0:=⟨_,rfl⟩
 obtain⟨W2,hW2⟩:∃ W2,W1.alloc (.cells (aC zC) 74)=W2:=⟨_,rfl⟩
 have hb2:Below W1.heap.size W1 W2:=by rw[← hW2];exact below_alloc _ _
 have hro:Row W2 r0 (cC zC) 74:=by rw[← hW2,← hr0];exact Row.new W1 (cC zC) _
 have hb:=Below.step hb1 hb2
 have hs1:=hb1.size
 have ro:=hro.rowOk (cC_length zC)
 have H3:=Lib.hid (And.intro (hrow.keep hb2) (And.intro hro (And.intro (h0.keep hb) (hK0.trans (Kp.of_below hb)))))
 have HGF:=Lib.hid (And.intro (show g∉F0 from fun hm=>by have:=hlt g hm;omega) (show r0∉F0 from fun hm=>by have:=hlt r0 hm;omega))
 have HR:=Lib.hid (show w.heap.size≤r0 by omega)
 clear hb1 hb2 hb hrow hro h h0 hK0 hlt hs1
 have HNA:=Lib.hid (show s.act.length≤1000000 by omega)
 have HNK:=Lib.hid hnk
 obtain⟨Z,hZ⟩:∃ Z,acceptedT s x n=Z:=⟨_,rfl⟩
 rw[hZ]
 unfold acceptedT at hZ
 by_cases hn:n<0∨99<n
 ·rw[if_pos hn] at hZ
  subst hZ
  rcases hn with hn|hn
  ·go_enter Tryz.func46,Tryz.ntmps46
   go_wp2
   exact bodyPost_ret (v:=.tuple #[vC (zC),.int .i64 2]) (results_c2 (ad:=⟨r0,0,none⟩) rfl rfl (ld_setRow (zC) ro) rfl) rfl ⟨rfl,fin_row H3.out.2.2.1 H3.out.2.2.2 HGF.out.2 HR.out (zC)⟩
  ·have hn2:¬ n<0:=by omega
   go_enter Tryz.func46,Tryz.ntmps46
   go_wp2
   exact bodyPost_ret (v:=.tuple #[vC (zC),.int .i64 2]) (results_c2 (ad:=⟨r0,0,none⟩) rfl rfl (ld_setRow (zC) ro) rfl) rfl ⟨rfl,fin_row H3.out.2.2.1 H3.out.2.2.2 HGF.out.2 HR.out (zC)⟩
 ·rw[if_neg hn] at hZ
  have hn1:¬ n<0:=by omega
  have hn2:¬ 99<n:=by omega
  obtain⟨i,hi⟩:∃ i,idxL s.act x=i:=⟨_,rfl⟩
  have HI:=Lib.hid hi
  have HZ:=Lib.hid hZ
  clear hi hZ hn
  go_enter Tryz.func46,Tryz.ntmps46
  go_wp2
  refine AnyO.wp_anyI (by kernel_rfl) (by kernel_rfl) (AnyO.InvG (σ:=Unit) (fun σ=>AnyO.pvL [some (.pointer (some ⟨b,0,none⟩)),some (.pointer (some ⟨b,0,none⟩)),some (.pointer (some ⟨b,2,none⟩)),some (.slice va.1 s.act.length va.2.2),some (vI x),some (.int .i64 i),some (.int .i64 i)]) (fun _ _ u=>Below W2.heap.size W2 u)) (AnyO.InvG.start (g:=()) (below_drew _)) ?_ ?_
  ·intro i hi
   have hi2:i=4∨i=5∨i=0∨i=1∨i=2∨i=3∨i=6:=by simp only[List.size_toArray,List.length_cons,List.length_nil] at hi;omega
   clear hi
   rcases hi2 with rfl|rfl|rfl|rfl|rfl|rfl|rfl
   ·refine AnyO.I rfl [] ?_;rintro D vs u σ Q h0 hC hp ac hb K hK
    have s4:=AnyO.sz (v:=.pointer (some ⟨g,0,none⟩)) 4 hb
    have q:=Row.okw (H3.out.1.keep Q.out.2) (cI_length x)
    have rr1:=q.1
    have rr2:rdA u ⟨g,0,none⟩ 32=vI x:=q.2
    clear q
    go_simp;exact hK _ _ (AnyO.InvG.step (g:=σ) Q.out.1 rfl Q.out.2)
   ·refine AnyO.I rfl [3,4] ?_;rintro D vs u σ Q h0 hC hp ac hb K hK
    have s24:_=_:=AnyO.sv 24 3 hb hp Q
    have s25:_=_:=AnyO.sv 25 4 hb hp Q
    go_simp
    go_at_call 68
    refine (find40 va.1 va.2.2 s.act x u (Own.slOf ((H3.out.2.2.1.keep Q.out.2).oa)) HNA.out).mono ?_
    rintro e w2 ⟨rfl,hcb⟩
    rw[HI.out]
    exact hK _ _ (AnyO.InvG.step (g:=σ) Q.out.1 rfl (Below.step Q.out.2 hcb))
   all_goals
    refine AnyO.J rfl ?_;rintro D vs u σ Q h0 hC hp ac hb K hK
    try have s0:ac.tmps[0]?.getD undef=.pointer (some ⟨b,0,none⟩):=by rw[hb.out];kernel_rfl
    try have s21:_=_:=AnyO.sv 21 0 hb hp Q
    try have s22:_=_:=AnyO.sv 22 1 hb hp Q
    try have s23:_=_:=AnyO.sv 23 2 hb hp Q
    try have s26:_=_:=AnyO.sv 26 5 hb hp Q
    have rr:=(H3.out.2.2.1.keep Q.out.2).c2
    rw[H3.out.2.2.1.la] at rr
    go_simp
    exact hK _ _ (AnyO.InvG.step (g:=σ) Q.out.1 rfl Q.out.2)
  ·intro D vs u hI hD
   obtain⟨σ,hP,hW⟩:=hI
   have e0:_=_:=hP 0 (hD 0 (by decide))
   have e1:_=_:=hP 1 (hD 1 (by decide))
   have e2:_=_:=hP 2 (hD 2 (by decide))
   have e3:_=_:=hP 3 (hD 3 (by decide))
   have e4:_=_:=hP 4 (hD 4 (by decide))
   have e5:_=_:=hP 5 (hD 5 (by decide))
   have e6:_=_:=hP 6 (hD 6 (by decide))
   have HW:=Lib.hid hW
   clear hW hP hD
   rw[puts_range [some 21,some 22,some 23,some 24,some 25,some 26,some 8] (by kernel_rfl)]
   simp only[putL,Nat.reduceAdd,e0,e1,e2,e3,e4,e5,e6]
   clear e0 e1 e2 e3 e4 e5 e6
   go_simp
   clear ro
   obtain⟨U,rfl⟩:∃ U,U=u:=⟨_,rfl⟩
   have ro:=(H3.out.2.1.keep HW.out).rowOk (cC_length zC)
   have HT:=Lib.hid (And.intro (H3.out.2.2.1.keep HW.out) (And.intro (H3.out.1.keep HW.out) (And.intro (H3.out.2.1.keep HW.out) (H3.out.2.2.2.trans (Kp.of_below HW.out)))))
   cases hp:posL s.act x with
   | none =>
    have hii:i=-1:=by rw[← HI.out];exact idx_none hp
    subst hii
    have hz:=HZ.out
    rw[hp] at hz
    dsimp only at hz
    subst hz
    clear hp
    go_wp2
    exact bodyPost_ret (v:=.tuple #[vC (zC),.int .i64 8]) (results_c2 (ad:=⟨r0,0,none⟩) rfl rfl (ld_setRow (zC) ro) rfl) rfl ⟨rfl,fin_row HT.out.1 HT.out.2.2.2 HGF.out.2 HR.out (zC)⟩
   | some k =>
    obtain⟨hk, -, -⟩:=pos_some hp
    have hii:i=(k:Int):=by rw[← HI.out];exact idx_some hp
    subst hii
    have hz:=HZ.out
    rw[hp] at hz
    dsimp only at hz
    clear hp
    obtain⟨ad,hae, -, -,hat⟩:=Sl.pt (Own.slOf HT.out.1.oa) hk
    have rr:=HT.out.1.c2
    rw[HT.out.1.la] at rr
    have r33:=hat.f33
    have hk1:(k:Int)<(s.act.length:Int):=by omega
    have hpk:ptK s.act k=s.act[k]:=ptK_eq hk
    clear hat
    rw[hae] at rr
    by_cases h1:s.act[k].state=3
    ·rw[hpk,if_neg (by intro h;exact h h1)] at hz
     subst hz
     rw[h1] at r33
     clear h1 hpk
     go_wp2
     clear hae rr r33 ro
     refine AnyO.wp_anyI (by kernel_rfl) (by kernel_rfl) (AnyO.InvG (σ:=SlV) (fun σ=>AnyO.pvL [some (.pointer (some ⟨b,0,none⟩)),some (.pointer (some ⟨b,0,none⟩)),some (.pointer (some ⟨b,0,none⟩)),some (.pointer (some ⟨b,2,none⟩)),some (.slice va.1 va.2.1 va.2.2),some (vI x),some (.slice σ.1 σ.2.1 σ.2.2),some (.pointer (some ⟨b,0,none⟩)),some (.pointer (some ⟨b,2,none⟩)),none]) (fun σ D u=>WA b s F0 va vk (withoutL s.act x) U σ u (D 6) (D 9))) (AnyO.InvG.start (g:=(none,0,0)) (below_drew _)) ?_ ?_
     ·intro i hi
      have hi2:i=4∨i=5∨i=6∨i=9∨i=0∨i=1∨i=2∨i=3∨i=7∨i=8:=by simp only[List.size_toArray,List.length_cons,List.length_nil] at hi;omega
      clear hi
      rcases hi2 with rfl|rfl|rfl|rfl|rfl|rfl|rfl|rfl|rfl|rfl
      ·refine AnyO.I rfl [3] ?_;rintro D vs u σ Q h0 hC hp ac hb K hK
       have s45:_=_:=AnyO.sv 45 3 hb hp Q
       have hf6:=AnyO.fls (hC.out 6) h0 (by kernel_rfl)
       have hst:=Q.out.2
       rw[show D 6=false from hf6] at hst
       have rr:=(HT.out.1.keep hst).c2
       clear hst hf6
       go_simp
       exact hK _ _ (AnyO.InvG.step (g:=σ) Q.out.1 rfl (WA.read Q.out.2 (Below.refl _ _)))
      ·refine AnyO.I rfl [] ?_;rintro D vs u σ Q h0 hC hp ac hb K hK
       have s4:=AnyO.sz (v:=.pointer (some ⟨g,0,none⟩)) 4 hb
       have q:=Row.okw (Q.out.2.row HT.out.1 HT.out.2.1 HGF.out.1) (cI_length x)
       have rr1:=q.1
       have rr2:rdA u ⟨g,0,none⟩ 32=vI x:=q.2
       clear q
       go_simp
       exact hK _ _ (AnyO.InvG.step (g:=σ) Q.out.1 rfl (WA.read Q.out.2 (Below.refl _ _)))
      ·refine AnyO.I rfl [4,5] ?_;rintro D vs u σ Q h0 hC hp ac hb K hK
       have s46:_=_:=AnyO.sv 46 4 hb hp Q
       have s47:_=_:=AnyO.sv 47 5 hb hp Q
       have hf9:=AnyO.fls (hC.out 9) h0 (by kernel_rfl)
       go_simp
       have hst:=Q.out.2
       rw[show D 6=false from h0] at hst
       go_at_call 70
       refine (without42 0 _ s.act x u (HT.out.1.keep hst).oa HNA.out).mono ?_
       rintro e w2 ⟨v',rfl,ho',hg',hat'⟩
       obtain⟨A1,c1,rfl, -, -⟩:=Own.sl ho'
       refine hK _ _ (AnyO.InvG.ghost (g:=σ) (A1,_,c1) Q.out.1 ?_ rfl ?_)
       ·intro j hj hq
        rcases j with _|_|_|_|_|_|_|_|_|_|j
        all_goals first|exact hq|exact absurd (show D 6=true from hj) (by rw[h0];decide)
       rw[show AnyO.addD D 6 6=true from rfl,show AnyO.addD D 6 9=D 9 from rfl,hf9]
       exact WA.grow hst ho' hg' (Or.inl hat')
      ·refine AnyO.I rfl [8,6,6,0,1,2,3,4,5,6] ?_;rintro D vs u σ Q h0 hC hp ac hb K hK
       have s50:_=_:=AnyO.sv 50 8 hb hp Q
       have s48:_=_:=AnyO.sv 48 6 hb hp Q
       have hp6:D 6=true:=hp.out 6 (by decide)
       have hst:=Q.out.2
       rw[show D 6=true from hp6,show D 9=false from h0] at hst
       obtain⟨rf,rc,rp⟩:=WA.put hst HT.out.1
       have RP:=Lib.hid rp
       clear hst rp
       go_simp
       exact hK undef _ (AnyO.InvG.step (g:=σ) Q.out.1 trivial (by rw[show AnyO.addD D 9 6=D 6 from rfl,hp6,show AnyO.addD D 9 9=true from rfl];exact RP.out))
      all_goals
       refine AnyO.J rfl ?_;rintro D vs u σ Q h0 hC hp ac hb K hK
       try have s0:ac.tmps[0]?.getD undef=.pointer (some ⟨b,0,none⟩):=by rw[hb.out];kernel_rfl
       try have s43:_=_:=AnyO.sv 43 1 hb hp Q
       try have s44:_=_:=AnyO.sv 44 2 hb hp Q
       try have s42:_=_:=AnyO.sv 42 0 hb hp Q
       try have s49:_=_:=AnyO.sv 49 7 hb hp Q
       go_simp
       exact hK _ _ (AnyO.InvG.step (g:=σ) Q.out.1 rfl (WA.read Q.out.2 (Below.refl _ _)))
     ·intro D vs u hI hD
      obtain⟨σ,hP,hW⟩:=hI
      have e0:_=_:=hP 0 (hD 0 (by decide))
      have e1:_=_:=hP 1 (hD 1 (by decide))
      have e2:_=_:=hP 2 (hD 2 (by decide))
      have e3:_=_:=hP 3 (hD 3 (by decide))
      have e4:_=_:=hP 4 (hD 4 (by decide))
      have e5:_=_:=hP 5 (hD 5 (by decide))
      have e6:_=_:=hP 6 (hD 6 (by decide))
      have e7:_=_:=hP 7 (hD 7 (by decide))
      have e8:_=_:=hP 8 (hD 8 (by decide))
      have hst:=hW
      rw[show D 6=true from hD 6 (by decide),show D 9=true from hD 9 (by decide)] at hst
      have HST:=Lib.hid hst
      clear hst
      have HW:=Lib.hid hW
      clear hW hP hD
      rw[puts_range [some 42,some 43,some 44,some 45,some 46,some 47,some 48,some 49,some 50,none] (by kernel_rfl)]
      simp only[putL,Nat.reduceAdd,e0,e1,e2,e3,e4,e5,e6,e7,e8]
      clear e0 e1 e2 e3 e4 e5 e6 e7 e8
      obtain⟨hT7,hK7⟩:=HST.out
      obtain⟨U7,rfl⟩:∃ U7,U7=u:=⟨_,rfl⟩
      obtain⟨v7,rfl⟩:∃ v7,v7=σ:=⟨_,rfl⟩
      obtain⟨F7,hF7⟩:∃ F7,blkL v7++F0=F7:=⟨_,rfl⟩
      rw[hF7] at hT7 hK7
      have hout:=(hK7.out r0 HT.out.2.2.1.lt HGF.out.2).1
      have hr7:=HT.out.2.2.1.kp hK7 HGF.out.2
      have ro:=hr7.rowOk (cC_length zC)
      have q:=Row.okw (HT.out.2.1.kp hK7 HGF.out.1) (cI_length x)
      have r1:=q.1
      have r2:rdA U7 ⟨g,0,none⟩ 32=vI x:=q.2
      have HS:=Lib.hid (And.intro hT7 (And.intro hK7 hout))
      clear hT7 hK7 hF7 hr7 q hout
      go_simp
      by_cases n0:n=0
      ·have hd:sayA x n=⟨9,⟨#[]⟩,x,0,0,0,0,⟨#[]⟩⟩:=by unfold sayA;rw[if_pos n0]
       have HD:=Lib.hid hd
       clear hd
       subst n0
       go_wp2
       exact bodyPost_ret (v:=.tuple #[vC (⟨9,⟨#[]⟩,x,0,0,0,0,⟨#[]⟩⟩),.int .i64 0]) (results_c2 (ad:=⟨r0,0,none⟩) rfl rfl (ld_setRow (⟨9,⟨#[]⟩,x,0,0,0,0,⟨#[]⟩⟩) ro) rfl) rfl ⟨by rw[HD.out],fin_row HS.out.1 (HT.out.2.2.2.trans HS.out.2.1) HS.out.2.2 HR.out (⟨9,⟨#[]⟩,x,0,0,0,0,⟨#[]⟩⟩)⟩
      by_cases n1:n=25
      ·have hd:sayA x n=⟨5,⟨#[]⟩,x,0,0,0,0,⟨#[]⟩⟩:=by unfold sayA;rw[if_neg n0,if_pos n1]
       have HD:=Lib.hid hd
       clear hd n0
       subst n1
       go_wp2
       exact bodyPost_ret (v:=.tuple #[vC (⟨5,⟨#[]⟩,x,0,0,0,0,⟨#[]⟩⟩),.int .i64 0]) (results_c2 (ad:=⟨r0,0,none⟩) rfl rfl (ld_setRow (⟨5,⟨#[]⟩,x,0,0,0,0,⟨#[]⟩⟩) ro) rfl) rfl ⟨by rw[HD.out],fin_row HS.out.1 (HT.out.2.2.2.trans HS.out.2.1) HS.out.2.2 HR.out (⟨5,⟨#[]⟩,x,0,0,0,0,⟨#[]⟩⟩)⟩
      have hd:sayA x n=⟨6,⟨#[]⟩,x,0,0,0,n,⟨#[]⟩⟩:=by unfold sayA;rw[if_neg n0,if_neg n1]
      have HD:=Lib.hid hd
      have q0:(n==0)=false:=by simpa using n0
      have q1:(n==25)=false:=by simpa using n1
      clear hd n0 n1
      go_wp2
      exact bodyPost_ret (v:=.tuple #[vC (⟨6,⟨#[]⟩,x,0,0,0,n,⟨#[]⟩⟩),.int .i64 0]) (results_c2 (ad:=⟨r0,0,none⟩) rfl rfl (ld_setRow (⟨6,⟨#[]⟩,x,0,0,0,n,⟨#[]⟩⟩) ro) rfl) rfl ⟨by rw[HD.out],fin_row HS.out.1 (HT.out.2.2.2.trans HS.out.2.1) HS.out.2.2 HR.out (⟨6,⟨#[]⟩,x,0,0,0,n,⟨#[]⟩⟩)⟩
    ·rw[hpk,if_pos h1] at hz
     subst hz
     have q1:(s.act[k].state != 3)=true:=by simpa using h1
     clear h1 hpk
     go_wp2
     exact bodyPost_ret (v:=.tuple #[vC (zC),.int .i64 10]) (results_c2 (ad:=⟨r0,0,none⟩) rfl rfl (ld_setRow (zC) ro) rfl) rfl ⟨rfl,fin_row HT.out.1 HT.out.2.2.2 HGF.out.2 HR.out (zC)⟩
open Go.RowKit
theorem TkI.accepted {s:Tk} (h:TkI s) (x:Id) (n:Int):TkI (acceptedT s x n).1:=by
 unfold acceptedT
 split
 ·exact h
 split
 ·exact h
 split
 ·exact h
 ·exact h.lessA x
section
variable {w0 w : World} {b : Nat} {s : Tk} {F : List Nat}
theorem TkB.accepted (h:TkB w0 b s F w) (x:Id) (n:Int):Calls Tryz.prog 46 #[.pointer (some ⟨b,0,none⟩),vI x,.int .i64 n] w fun e w'=>e=.returned (.tuple #[vC (acceptedT s x n).2.1,.int .i64 (acceptedT s x n).2.2])∧∃ F',TkB w0 b (acceptedT s x n).1 F' w'∧Kp F F' w w' :=
 (accepted25 b s F x n w h.tk h.inv.a100 h.inv.k100).mono fun _ _ ⟨e,F',h1,h2⟩=>by
  obtain⟨F2,a1,a2,_⟩:=h.step h1 (h.inv.accepted x n) h2
  exact⟨e,F2,a1,a2⟩
end
open Go.RowKit
/-! ### commands out of bytes -/
def feedG:Nat→List UInt8→List Cm→List Cm×List UInt8×Int
 | 0,l,acc=>(acc,l,0)
 | f+1,l,acc=>if (decL l).2.2=0 then feedG f (l.drop (decL l).2.1) (acc++[(decL l).1]) else if (decL l).2.2=4 then (acc,l,0) else (acc,[],(decL l).2.2)
def feedL (l:List UInt8):List Cm×List UInt8×Int:=feedG (l.length+1) l []
theorem dec_len (l:List UInt8) (h:(decL l).2.2=0):1≤(decL l).2.1∧(decL l).2.1≤l.length:=by
 by_cases hi:Lib.indexByte l 10=-1
 ·rw[dec_no l hi] at h
  split at h <;> cases h
 ·obtain⟨k,hk,hlt⟩:=index_nat l 10 hi
  have hu:=unL_le (l.drop (k+1))
  rw[List.length_drop] at hu
  unfold decL at h ⊢
  rw[hk,if_neg (by omega),Int.toNat_natCast] at h ⊢
  split at h
  ·cases h
  rename_i n1
  rw[if_neg n1]
  split at h
  ·cases h
  rename_i n2
  rw[if_neg n2]
  split at h
  ·cases h
  rename_i n3
  rw[if_neg n3]
  split at h
  ·rename_i n4
   rw[if_pos n4]
   exact⟨by simp,by simp only;omega⟩
  rename_i n4
  rw[if_neg n4]
  split at h
  ·exact absurd h (by assumption)
  rename_i n5
  rw[if_neg n5]
  split at h
  ·exact absurd h (by assumption)
  rename_i n6
  rw[if_neg n6]
  exact⟨by simp only;omega,by simp only;omega⟩
theorem feedG_ok {f:Nat} {l:List UInt8} {acc:List Cm} {c:Cm} {n:Nat} (h:decL l=(c,n,0)):feedG (f+1) l acc=feedG f (l.drop n) (acc++[c]):=by
 rw[feedG,h,if_pos rfl]
theorem feedG_short {f:Nat} {l:List UInt8} {acc:List Cm} {c:Cm} {n:Nat} (h:decL l=(c,n,4)):feedG (f+1) l acc=(acc,l,0):=by
 rw[feedG,h,if_neg (by simp),if_pos rfl]
theorem feedG_err {f:Nat} {l:List UInt8} {acc:List Cm} {c:Cm} {n:Nat} {e:Int} (h:decL l=(c,n,e)) (h0:e≠0) (h4:e≠4):feedG (f+1) l acc=(acc,[],e):=by
 rw[feedG,h,if_neg h0,if_neg h4]
theorem feedG_fuel:∀ (f g:Nat) (l:List UInt8) (acc:List Cm),l.length<f→l.length<g→feedG f l acc=feedG g l acc:=by
 intro f
 induction f with
 | zero=>intro g l acc h;omega
 | succ f ih =>
  intro g l acc h1 h2
  cases g with
  | zero=>omega
  | succ g =>
   obtain⟨⟨c,n,e⟩,hd⟩:∃ d,decL l=d:=⟨_,rfl⟩
   by_cases h0:e=0
   ·subst h0
    have hl:=dec_len l (by rw[hd])
    rw[hd] at hl
    dsimp only at hl
    rw[feedG_ok hd,feedG_ok hd]
    exact ih g _ _ (by rw[List.length_drop];omega) (by rw[List.length_drop];omega)
   ·by_cases h4:e=4
    ·subst h4
     rw[feedG_short hd,feedG_short hd]
    ·rw[feedG_err hd h0 h4,feedG_err hd h0 h4]
theorem feedG_acc:∀ (f:Nat) (l:List UInt8) (acc:List Cm),feedG f l acc=(acc++(feedG f l []).1,(feedG f l []).2.1,(feedG f l []).2.2):=by
 intro f
 induction f with
 | zero=>intro l acc;simp[feedG]
 | succ f ih =>
  intro l acc
  obtain⟨⟨c,n,e⟩,hd⟩:∃ d,decL l=d:=⟨_,rfl⟩
  by_cases h0:e=0
  ·subst h0
   rw[feedG_ok hd,feedG_ok hd,ih _ (acc++[c]),ih _ ([]++[c])]
   simp
  ·by_cases h4:e=4
   ·subst h4
    rw[feedG_short hd,feedG_short hd]
    simp
   ·rw[feedG_err hd h0 h4,feedG_err hd h0 h4]
    simp
theorem feedL_ok {l:List UInt8} {c:Cm} {n:Nat} (h:decL l=(c,n,0)):feedL l=(c :: (feedL (l.drop n)).1,(feedL (l.drop n)).2.1,(feedL (l.drop n)).2.2):=by
 have hl:=dec_len l (by rw[h])
 rw[h] at hl
 unfold feedL
 rw[feedG_ok h,feedG_acc,feedG_fuel l.length ((l.drop n).length+1) _ _ (by rw[List.length_drop];simp only at hl;omega) (by omega)]
 rfl
theorem feedL_short {l:List UInt8} {c:Cm} {n:Nat} (h:decL l=(c,n,4)):feedL l=([],l,0):=feedG_short h
theorem bl_rest (s:ByteArray) (n:Nat):bl (s.extract n s.size)=(bl s).drop n:=by
 rw[bl_seg s n s.size (Nat.le_refl _)]
 unfold seg
 rw[List.take_of_length_le (by rw[List.length_drop,bl_length];exact Nat.le_refl _)]
/-! ### slices of commands -/
theorem underCs:Tryz.prog.underlying 111=some (.slice 74):=Tryz.underlying111
theorem rowCm:(Tryz.prog.info? 74).map (fun i=>(i.zero.map (·.cells.size),i.size,i.bytes))=some (some 39,39,104):=by kernel_rfl
def aCs (xs:List Cm):Array Value:=(xs.flatMap cC).toArray
@[go_sem ↓] theorem bsCs (n:Nat) (parts:Array (Nat×Value)):Instr.buildSlice 111 n parts=bsA 111 n parts:=rfl
theorem run_bsCs (w:World) (xs:List Cm) (h:xs.length≤100):(bsA 111 xs.length (xs.zipIdx.map fun x=>(x.2,vC x.1)).toArray).run Tryz.prog w=.ok (.slice (some ⟨w.heap.size,0,none⟩) xs.length xs.length) (w.alloc (.cells (aCs xs) 74)):=by
 obtain⟨i,z,h1,h2,h3⟩:=info_of rowCm
 exact run_bsA w vC 111 74 i z 39 Tryz.underlying111 h1 h2 h3 (fun c=>cC_length c) xs (by omega)
@[go_sem] theorem run_bsCs_1 (w:World) (c:Cm):(bsA 111 1 #[(0,vC c)]).run Tryz.prog w=.ok (.slice (some ⟨w.heap.size,0,none⟩) 1 1) (w.alloc (.cells (aCs [c]) 74)):=run_bsCs w [c] (by simp)
/-! ### the reader -/
def RdAt (r:Nat) (s:ByteArray) (e:Int) (w:World):Prop:=Row w r [.string s,.int .i64 e] 106
def rdSize (r:Nat) (w:World):Nat:=match w.cell? ⟨r,0,none⟩ with|some (.string s)=>s.size|_=>0
theorem RdAt.size {r:Nat} {s:ByteArray} {e:Int} {w:World} (h:RdAt r s e w):rdSize r w=s.size:=by
 unfold rdSize
 rw[show w.cell? ⟨r,0,none⟩=some (.string s) from Row.cell h 0]
theorem One.grown {g:Nat} {w w':World} (h:One g w w'):w.grownBy w' (some g):=⟨h.os,h.tape,h.output,h.size,fun k hk hn=>h.out k hk (fun e=>hn (by rw[e]))⟩
theorem One.grew {g:Nat} {w wr w2:World} {v:Value} {α:Type} {e:TypeId} {s:Nat} {enc:α→List Value} {xs:List α} (h:One g w wr) (ho:Own wr w.heap.size e s enc v xs) (hg:wr.grownBy w2 v.ownBlock):One g w w2 :=
 ⟨hg.os.trans h.os,hg.tape.trans h.tape,hg.output.trans h.output,Nat.le_trans h.size hg.size,fun k hk hk2=>(hg.block k (Nat.lt_of_lt_of_le hk h.size) (fun e=>by have:=(Own.lt ho k e.symm).1;omega)).trans (h.out k hk hk2)⟩
theorem Own.one {g:Nat} {w w':World} {v:Value} {α:Type} {base:Nat} {e:TypeId} {s:Nat} {enc:α→List Value} {xs:List α} (ho:Own w base e s enc v xs) (h:One g w w') (hg:g<base):Own w' base e s enc v xs :=
 World.ownsRow.kept ho h.grown (by
  rcases hv:v.ownBlock with _|k
  ·exact Or.inl rfl
  ·refine Or.inr (fun e=>?_)
   have:=(Own.lt ho k hv).1
   have:=Option.some.inj e
   omega)
theorem One.toBelow {g:Nat} {w w':World} {B:Nat} (w0:World) (hb:Below B w0 w) (hB:B≤w0.heap.size) (hg:B≤g) (h:One g w w'):Below B w0 w' :=
 Below.trans hb (h.below hg (Nat.le_trans hB hb.size))
set_option maxRecDepth 100000 in
set_option maxHeartbeats 3200000 in
theorem feed25 (s:ByteArray) (w w0:World) (r:Nat) (wt:ByteArray) (hb0:Below w0.heap.size w0 w) (hr:RdAt r wt 0 w) (hr0:w0.heap.size≤r) (hL:Laid w0) (hs:wt.size+s.size≤1000000) :
  Calls Tryz.prog 44 #[.pointer (some ⟨r,0,none⟩),.string s] w fun e w'=>∃ (v:Value) (cs:List Cm) (wt':ByteArray) (fl:Int),
   e=.returned (.tuple #[v,.int .i64 fl])∧feedL (bl wt++bl s)=(cs,bl wt',fl)∧Own w' w.heap.size 74 39 cC v cs∧RdAt r wt' fl w'∧One r w w':=by
 have hrl:=Row.lt hr
 have c0:w.cell? ⟨r,0,none⟩=some (.string wt):=Row.cell hr 0
 have c1:w.cell? ⟨r,1,none⟩=some (.int .i64 0):=Row.cell hr 1
 have f0:=Row.fz hr 0
 have HR:=Lib.hid hr
 have HL:=Lib.hid (show ∀ wr,One r w wr→Laid wr from fun wr h=>hL.keep (One.toBelow w0 hb0 (Nat.le_refl _) hr0 h))
 have hss:(wt++s).size=wt.size+s.size:=by simp[ByteArray.size_append]
 have hbb:bl (wt++s)=bl wt++bl s:=by simp[bl]
 clear hL hb0 hr
 go_enter Tryz.func44,Tryz.ntmps44
 go_wp2
 go_loopw [6] (fun v wr=>∃ (cs:List Cm) (ct:ByteArray) (f:Nat),Own wr w.heap.size 74 39 cC v cs∧RdAt r ct 0 wr∧One r w wr∧feedG f (bl ct) cs=feedL (bl wt++bl s)∧ct.size<f∧cs.length+ct.size≤1000000) (fun _ wr=>rdSize r wr)
 case atStart=>exact⟨[],wt++s,(wt++s).size+1,Own.nil _ _ _ _ _,Row.set HR.out 0 _,One.set 0 _,by unfold feedL;rw[← hbb,bl_length],by omega,by simp only[List.length_nil];omega⟩
 case round =>
  obtain⟨cs,ct,f,hO,hR,h1,hF,hlt,hsz⟩:=hrel
  obtain⟨f,rfl⟩:∃ g,f=g+1:=⟨f - 1,by omega⟩
  have d0:wr.cell? ⟨r,0,none⟩=some (.string ct):=Row.cell hR 0
  have g0:=Row.fz hR 0
  have g1:=Row.fz hR 1
  have hrs:=RdAt.size hR
  obtain⟨A8,c8,rfl,hc8,hs8⟩:=Own.sl hO
  have hbl:=bl_length ct
  have HW:=Lib.hid (And.intro hO (And.intro hR h1))
  obtain⟨⟨dc,dn,de⟩,hd⟩:∃ d,decL (bl ct)=d:=⟨_,rfl⟩
  have H12:=Lib.hid (decode12 ct wr (by omega) (HL.out wr h1))
  rw[hd] at H12
  dsimp only at H12
  clear hO hR h1 hs8
  have hwr:w.heap.size≤wr.heap.size:=HW.out.2.2.size
  by_cases h0:de=0
  ·subst h0
   have hl:=dec_len (bl ct) (by rw[hd])
   rw[hd,bl_length] at hl
   dsimp only at hl
   rw[feedG_ok hd] at hF
   have HF:=Lib.hid hF
   clear hF hd
   have q1:(0:Int)≤(dn:Int):=by omega
   have q2:(dn:Int)≤(ct.size:Int):=by omega
   go_wp2_with (first
    | (go_at_call 28;refine H12.out.mono ?_;rintro e w2 ⟨rfl,hb2⟩;obtain⟨g3,hg3⟩:∃ g3,w2.heap.size=g3:=⟨_,rfl⟩;obtain⟨W3,hW3⟩:∃ W3,w2.alloc (.cells (aC dc) 74)=W3:=⟨_,rfl⟩;have H3:=Lib.hid (And.intro (show Row W3 g3 (cC dc) 74 from (by rw[← hW3,← hg3];exact Row.new w2 (cC dc) 74)) (show Below wr.heap.size wr W3 from (by rw[← hW3];exact Below.step hb2 (below_alloc _ _))));clear hb2;have rr1:=(Row.okw H3.out.1 (cC_length dc)).1;have rr2:=(show rdA W3 ⟨g3,0,none⟩ 39=vC dc from (Row.okw H3.out.1 (cC_length dc)).2))
    | (at_builtin;refine wpList_append_sl _ rfl (.tmp 50) (.tmp 52) 111 rfl w.heap.size 74 39 104 cC underCs rowCm (by decide) cC_length cC_one (.slice A8 cs.length c8) cs rfl ((Own.keep HW.out.1 H3.out.2).keep (below_alloc W3 (.cells (aCs [dc]) 74))) (some ⟨W3.heap.size,0,none⟩) 1 1 [dc] rfl rfl (fun _=>⟨_,rfl,at_new W3 ([dc].flatMap cC) 74 _ (by simp)⟩) (by omega) (by omega) (Nat.le_trans hwr (Nat.le_trans H3.out.2.size (below_alloc W3 (.cells (aCs [dc]) 74)).size)) ?_))
   intro v' w' hO' hg'
   have h1':One r w w':=One.grew (One.trans HW.out.2.2 (One.of_below (Below.step H3.out.2 (below_alloc W3 (.cells (aCs [dc]) 74))))) ((Own.keep HW.out.1 H3.out.2).keep (below_alloc W3 (.cells (aCs [dc]) 74))) hg'
   have hR':RdAt r ct 0 w':=Row.same (Row.keep (Row.keep HW.out.2.1 H3.out.2) (below_alloc W3 (.cells (aCs [dc]) 74))) (hg'.block r (Nat.lt_of_lt_of_le hrl (Nat.le_trans hwr (Nat.le_trans H3.out.2.size (below_alloc W3 (.cells (aCs [dc]) 74)).size))) (fun e=>by have:=(Own.lt ((Own.keep HW.out.1 H3.out.2).keep (below_alloc W3 (.cells (aCs [dc]) 74))) r e.symm).1;omega))
   have k0:w'.cell? ⟨r,0,none⟩=some (.string ct):=Row.cell hR' 0
   have k1:=Row.fz hR' 0
   have HX:=Lib.hid (And.intro hO' (And.intro hR' h1'))
   clear hO' hg' h1' hR' rr1 rr2 hW3
   go_wp2
   go_roundw
   case rel=>exact⟨cs++[dc],ct.extract dn ct.size,f,Own.one HX.out.1 (One.set 0 _) hrl,Row.set HX.out.2.1 0 _,One.trans HX.out.2.2 (One.set 0 _),by rw[bl_rest];exact HF.out,by rw[ByteArray.size_extract];omega,by rw[ByteArray.size_extract,List.length_append,List.length_singleton];omega⟩
   case measure =>
    rw[hrs,RdAt.size (Row.set HX.out.2.1 0 _)]
    rw[ByteArray.size_extract]
    omega
  ·by_cases h4:de=4
   ·subst h4
    rw[feedG_short hd] at hF
    have HF:=Lib.hid hF
    clear hF hd
    go_wp2_with (go_at_call 28;refine H12.out.mono ?_;rintro e w2 ⟨rfl,hb2⟩;have H3:=Lib.hid hb2;clear hb2)
    go_ret2
    exact⟨_,cs,ct,0,rfl,HF.out.symm,(Own.keep HW.out.1 (Below.step H3.out (below_alloc _ _))),Row.keep HW.out.2.1 (Below.step H3.out (below_alloc _ _)),One.trans HW.out.2.2 (One.of_below (Below.step H3.out (below_alloc _ _)))⟩
   ·rw[feedG_err hd h0 h4] at hF
    have HF:=Lib.hid hF
    have q1:(de==0)=false:=beq_eq_false_iff_ne.2 h0
    have q2:(de==4)=false:=beq_eq_false_iff_ne.2 h4
    clear hF hd h0 h4
    go_wp2_with (go_at_call 28;refine H12.out.mono ?_;rintro e w2 ⟨rfl,hb2⟩;obtain⟨W3,hW3⟩:∃ W3,w2.alloc (.cells (aC dc) 74)=W3:=⟨_,rfl⟩;have H3:=Lib.hid (show Below wr.heap.size wr W3 from (by rw[← hW3];exact Below.step hb2 (below_alloc _ _)));have k0:=Row.fz (Row.keep HW.out.2.1 H3.out) 0;have k1:=Row.fz (Row.keep HW.out.2.1 H3.out) 1;have k2:=Row.cell (Row.keep HW.out.2.1 H3.out) 0;have k3:=Row.cell (Row.keep HW.out.2.1 H3.out) 1;clear hb2)
    go_ret2
    have HO:=Lib.hid (One.trans (One.set (g:=r) (w:=W3) 0 (.string ⟨#[]⟩)) (One.set 1 (.int .i64 de)))
    exact⟨_,cs,⟨#[]⟩,de,rfl,HF.out.symm,Own.one (Own.keep HW.out.1 H3.out) HO.out hrl,Row.set (Row.set (Row.keep HW.out.2.1 H3.out) 0 _) 1 _,One.trans HW.out.2.2 (One.trans (One.of_below H3.out) HO.out)⟩
theorem reset27 (w:World) (r:Nat) (wt:ByteArray) (n:Int) (hr:RdAt r wt n w):Calls Tryz.prog 42 #[.pointer (some ⟨r,0,none⟩)] w fun e w'=>e=.returned (.tuple #[])∧RdAt r ⟨#[]⟩ 0 w'∧One r w w':=by
 have c0:w.cell? ⟨r,0,none⟩=some (.string wt):=Row.cell hr 0
 have c1:w.cell? ⟨r,1,none⟩=some (.int .i64 n):=Row.cell hr 1
 have f0:=Row.fz hr 0
 have f1:=Row.fz hr 1
 have HR:=Lib.hid hr
 clear hr
 go_enter Tryz.func42,Tryz.ntmps42
 go_wp2
 go_end0
 exact⟨rfl,Row.set (Row.set HR.out 0 _) 1 _,One.trans (One.set 0 _) (One.set 1 _)⟩
open Go.RowKit
def catC (W:List Cm):List UInt8:=(W.map encT).flatten
theorem catC_cons (c:Cm) (W:List Cm):catC (c :: W)=encT c++catC W:=rfl
theorem feed_round (c:Cm) (h:chk c=0) (rest:List UInt8):feedL (encT c++rest)=(c :: (feedL rest).1,(feedL rest).2.1,(feedL rest).2.2):=by
 rw[feedL_ok (dec_round c h rest),List.drop_left]
theorem feed_all:∀ (W:List Cm),(∀ c∈W,chk c=0)→feedL (catC W)=(W,[],0)
 | [],_=>rfl
 | c :: W,h=>by
  rw[catC_cons,feed_round c (h c List.mem_cons_self),feed_all W fun x hx=>h x (List.mem_cons_of_mem _ hx)]
theorem feed_part:∀ (W:List Cm),(∀ c∈W,chk c=0)→∀ l rest:List UInt8,l++rest=catC W →
  ∃ (got pend:List Cm) (wt:List UInt8),feedL l=(got,wt,0)∧W=got++pend∧wt++rest=catC pend
 | [],_,l,rest,e=>by
  obtain⟨rfl,rfl⟩:=List.append_eq_nil_iff.1 (show l++rest=[] from e)
  exact⟨[],[],[],rfl,rfl,rfl⟩
 | c :: W,h,l,rest,e=>by
  have hc:=h c List.mem_cons_self
  rw[catC_cons] at e
  by_cases hl:(encT c).length≤l.length
  ·obtain⟨l2,rfl⟩:∃ l2,l=encT c++l2:=by
    have h1:(l++rest).take (encT c).length=encT c:=by rw[e,List.take_left]
    rw[List.take_append_of_le_length hl] at h1
    exact⟨l.drop (encT c).length,by rw[← h1,List.length_take,Nat.min_eq_left hl];exact (List.take_append_drop _ _).symm⟩
   rw[List.append_assoc] at e
   obtain⟨got,pend,wt,h1,h2,h3⟩:=feed_part W (fun x hx=>h x (List.mem_cons_of_mem _ hx)) l2 rest (List.append_cancel_left e)
   exact⟨c :: got,pend,wt,by rw[feed_round c hc,h1],by rw[h2];rfl,h3⟩
  ·have h1:l=(encT c).take l.length:=by
    have h2:(l++rest).take l.length=l:=List.take_left
    rw[e,List.take_append_of_le_length (by omega)] at h2
    exact h2.symm
   have h2:decL l=(zC,0,4):=by
    rw[h1]
    exact dec_short c hc l.length (by omega)
   exact⟨[],c :: W,l,feedL_short h2,rfl,by rw[catC_cons];exact e⟩
/-! ### slices of commands, read -/
theorem Sl.cm {w:World} {A:Option Addr} {xs:List Cm} (h:Sl w cC A xs) {k:Nat} (hk:k<xs.length):∃ ad,A=some ad∧okA w (ad.add (k * 39)) 39=true∧rdA w (ad.add (k * 39)) 39=vC xs[k]∧At w (ad.add (k * 39)) (cC xs[k]):=by
 obtain⟨ad,rfl,hat⟩:=Sl.at_ cC_length h hk
 have h1:=hat.ok
 have h2:=hat.rd
 rw[cC_length] at h1 h2
 exact⟨ad,rfl,h1,h2,hat⟩
theorem catC_append (V W:List Cm):catC (V++W)=catC V++catC W:=by simp[catC]
end Go.Proofs.YtdkjgcfhepplbaaGreatDoor
