/- Taker's Accepted, Cancel, Forget. -/
import Derived.Test.YtgojaelkdpabkaaGreatDoorMAns
namespace Go.Proofs.YtgojaelkdpabkaaGreatDoor
open Go.RowKit
section
variable (w : World)
@[go_sem] theorem blC_two (n:Int) (x:Id):(blA 32 #[(0,.int .i64 n),(2,vI x)]).run Tryz.prog w=.ok (vC ⟨n,⟨#[]⟩,x,0,0,0,0,⟨#[]⟩⟩) w:=by
 revert x
 refine Id.cases fun a0 a1 a2 a3 a4 a5 a6 a7 a8 a9 a10 a11 a12 a13 a14 a15 a16 a17 a18 a19 a20 a21 a22 a23 a24 a25 a26 a27 a28 a29 a30 a31=>?_
 kernel_rfl
@[go_sem] theorem blC_code (n m:Int) (x:Id):(blA 32 #[(0,.int .i64 n),(2,vI x),(6,.int .i64 m)]).run Tryz.prog w=.ok (vC ⟨n,⟨#[]⟩,x,0,0,0,m,⟨#[]⟩⟩) w:=by
 revert x
 refine Id.cases fun a0 a1 a2 a3 a4 a5 a6 a7 a8 a9 a10 a11 a12 a13 a14 a15 a16 a17 a18 a19 a20 a21 a22 a23 a24 a25 a26 a27 a28 a29 a30 a31=>?_
 kernel_rfl
end
def sayA (x:Id) (n:Int):Cm:=if n=0 then ⟨9,⟨#[]⟩,x,0,0,0,0,⟨#[]⟩⟩ else if n=25 then ⟨5,⟨#[]⟩,x,0,0,0,0,⟨#[]⟩⟩ else ⟨6,⟨#[]⟩,x,0,0,0,n,⟨#[]⟩⟩
def acceptedT (s:Tk) (x:Id) (n:Int):Tk×Cm×Int :=
 if n<0∨99<n then (s,zC,2)
 else match posL s.act x with
 | none=>(s,zC,8)
 | some k=>if (ptK s.act k).state≠3 then (s,zC,10) else (⟨s.win,s.opn,withoutL s.act x,s.kept⟩,sayA x n,0)
def cancelT (s:Tk) (x:Id):Tk×Cm×Int:=match posL s.act x with
 | none=>(s,zC,8)
 | some k=>if (ptK s.act k).state≠2 then (s,zC,10) else (⟨s.win,s.opn,withoutL s.act x,keepP s.kept (ptK s.act k)⟩,⟨5,⟨#[]⟩,x,0,0,0,0,⟨#[]⟩⟩,0)
def forgetT (s:Tk) (x:Id):Tk×Bool:=match posL s.kept x with
 | none=>(s,false)
 | some _=>(⟨s.win,s.opn,s.act,withoutL s.kept x⟩,true)
section
set_option maxRecDepth 100000
set_option maxHeartbeats 6400000
theorem accepted25 (b:Nat) (s:Tk) (F:List Nat) (x:Id) (n:Int) (w:World) (h:TkAt b s F w) (hna:s.act.length≤100) (hnk:s.kept.length≤100) :
  Calls Tryz.prog 25 #[.pointer (some ⟨b,0,none⟩),vI x,.int .i64 n] w (AnsP b (acceptedT s x n).1 (acceptedT s x n).2.1 (acceptedT s x n).2.2 F w):=by
 obtain⟨va,vk,h⟩:=h
 obtain⟨F0,h0,hK0,hlt⟩:=h.shrink
 obtain⟨g,hg⟩:∃ g,w.heap.size=g:=⟨_,rfl⟩
 obtain⟨W1,hW1⟩:∃ W1,w.alloc (.cells (aI x) 30)=W1:=⟨_,rfl⟩
 have hb1:Below w.heap.size w W1:=by rw[← hW1];exact below_alloc _ _
 have hrow:Row W1 g (cI x) 30:=by rw[← hW1,← hg];exact Row.new w (cI x) _
 obtain⟨r0,hr0⟩:∃ r0,W1.heap.size=r0:=⟨_,rfl⟩
 obtain⟨W2,hW2⟩:∃ W2,W1.alloc (.cells (aC zC) 32)=W2:=⟨_,rfl⟩
 have hb2:Below W1.heap.size W1 W2:=by rw[← hW2];exact below_alloc _ _
 have hro:Row W2 r0 (cC zC) 32:=by rw[← hW2,← hr0];exact Row.new W1 (cC zC) _
 have hb:=Below.step hb1 hb2
 have hs1:=hb1.size
 have ro:=hro.rowOk (cC_length zC)
 have H3:=Lib.hid (And.intro (hrow.keep hb2) (And.intro hro (And.intro (h0.keep hb) (hK0.trans (Kp.of_below hb)))))
 have HGF:=Lib.hid (And.intro (show g∉F0 from fun hm=>by have:=hlt g hm;omega) (show r0∉F0 from fun hm=>by have:=hlt r0 hm;omega))
 have HR:=Lib.hid (show w.heap.size≤r0 by omega)
 clear hb1 hb2 hb hrow hro h h0 hK0 hlt hs1
 have HNA:=Lib.hid (show s.act.length≤1000000 by omega)
 have HNK:=Lib.hid hnk
 obtain⟨Z,hZ⟩:∃ Z,acceptedT s x n=Z:=⟨_,rfl⟩
 rw[hZ]
 unfold acceptedT at hZ
 by_cases hn:n<0∨99<n
 ·rw[if_pos hn] at hZ
  subst hZ
  rcases hn with hn|hn
  ·go_enter Tryz.func25,Tryz.ntmps25
   go_wp2
   exact bodyPost_ret (v:=.tuple #[vC (zC),.int .i64 2]) (results_c2 (ad:=⟨r0,0,none⟩) rfl rfl (ld_setRow (zC) ro) rfl) rfl ⟨rfl,fin_row H3.out.2.2.1 H3.out.2.2.2 HGF.out.2 HR.out (zC)⟩
  ·have hn2:¬ n<0:=by omega
   go_enter Tryz.func25,Tryz.ntmps25
   go_wp2
   exact bodyPost_ret (v:=.tuple #[vC (zC),.int .i64 2]) (results_c2 (ad:=⟨r0,0,none⟩) rfl rfl (ld_setRow (zC) ro) rfl) rfl ⟨rfl,fin_row H3.out.2.2.1 H3.out.2.2.2 HGF.out.2 HR.out (zC)⟩
 ·rw[if_neg hn] at hZ
  have hn1:¬ n<0:=by omega
  have hn2:¬ 99<n:=by omega
  obtain⟨i,hi⟩:∃ i,idxL s.act x=i:=⟨_,rfl⟩
  have HI:=Lib.hid hi
  have HZ:=Lib.hid hZ
  clear hi hZ hn
  go_enter Tryz.func25,Tryz.ntmps25
  go_wp2
  refine AnyO.wp_anyI (by kernel_rfl) (by kernel_rfl) (AnyO.InvG (σ:=Unit) (fun σ=>AnyO.pvL [some (.pointer (some ⟨b,0,none⟩)),some (.pointer (some ⟨b,0,none⟩)),some (.pointer (some ⟨b,2,none⟩)),some (.slice va.1 s.act.length va.2.2),some (vI x),some (.int .i64 i),some (.int .i64 i)]) (fun _ _ u=>Below W2.heap.size W2 u)) (AnyO.InvG.start (g:=()) (below_drew _)) ?_ ?_
  ·intro i hi
   have hi2:i=4∨i=5∨i=0∨i=1∨i=2∨i=3∨i=6:=by simp only[List.size_toArray,List.length_cons,List.length_nil] at hi;omega
   clear hi
   rcases hi2 with rfl|rfl|rfl|rfl|rfl|rfl|rfl
   ·refine AnyO.I rfl [] ?_;rintro D vs u σ Q h0 hC hp ac hb K hK
    have s4:=AnyO.sz (v:=.pointer (some ⟨g,0,none⟩)) 4 hb
    have q:=Row.okw (H3.out.1.keep Q.out.2) (cI_length x)
    have rr1:=q.1
    have rr2:rdA u ⟨g,0,none⟩ 32=vI x:=q.2
    clear q
    go_simp;exact hK _ _ (AnyO.InvG.step (g:=σ) Q.out.1 rfl Q.out.2)
   ·refine AnyO.I rfl [3,4] ?_;rintro D vs u σ Q h0 hC hp ac hb K hK
    have s24:_=_:=AnyO.sv 24 3 hb hp Q
    have s25:_=_:=AnyO.sv 25 4 hb hp Q
    go_simp
    go_at_call 40
    refine (find40 va.1 va.2.2 s.act x u (Own.slOf ((H3.out.2.2.1.keep Q.out.2).oa)) HNA.out).mono ?_
    rintro e w2 ⟨rfl,hcb⟩
    rw[HI.out]
    exact hK _ _ (AnyO.InvG.step (g:=σ) Q.out.1 rfl (Below.step Q.out.2 hcb))
   all_goals
    refine AnyO.J rfl ?_;rintro D vs u σ Q h0 hC hp ac hb K hK
    try have s0:ac.tmps[0]?.getD undef=.pointer (some ⟨b,0,none⟩):=by rw[hb.out];kernel_rfl
    try have s21:_=_:=AnyO.sv 21 0 hb hp Q
    try have s22:_=_:=AnyO.sv 22 1 hb hp Q
    try have s23:_=_:=AnyO.sv 23 2 hb hp Q
    try have s26:_=_:=AnyO.sv 26 5 hb hp Q
    have rr:=(H3.out.2.2.1.keep Q.out.2).c2
    rw[H3.out.2.2.1.la] at rr
    go_simp
    exact hK _ _ (AnyO.InvG.step (g:=σ) Q.out.1 rfl Q.out.2)
  ·intro D vs u hI hD
   obtain⟨σ,hP,hW⟩:=hI
   have e0:_=_:=hP 0 (hD 0 (by decide))
   have e1:_=_:=hP 1 (hD 1 (by decide))
   have e2:_=_:=hP 2 (hD 2 (by decide))
   have e3:_=_:=hP 3 (hD 3 (by decide))
   have e4:_=_:=hP 4 (hD 4 (by decide))
   have e5:_=_:=hP 5 (hD 5 (by decide))
   have e6:_=_:=hP 6 (hD 6 (by decide))
   have HW:=Lib.hid hW
   clear hW hP hD
   rw[puts_range [some 21,some 22,some 23,some 24,some 25,some 26,some 8] (by kernel_rfl)]
   simp only[putL,Nat.reduceAdd,e0,e1,e2,e3,e4,e5,e6]
   clear e0 e1 e2 e3 e4 e5 e6
   go_simp
   clear ro
   obtain⟨U,rfl⟩:∃ U,U=u:=⟨_,rfl⟩
   have ro:=(H3.out.2.1.keep HW.out).rowOk (cC_length zC)
   have HT:=Lib.hid (And.intro (H3.out.2.2.1.keep HW.out) (And.intro (H3.out.1.keep HW.out) (And.intro (H3.out.2.1.keep HW.out) (H3.out.2.2.2.trans (Kp.of_below HW.out)))))
   cases hp:posL s.act x with
   | none =>
    have hii:i=-1:=by rw[← HI.out];exact idx_none hp
    subst hii
    have hz:=HZ.out
    rw[hp] at hz
    dsimp only at hz
    subst hz
    clear hp
    go_wp2
    exact bodyPost_ret (v:=.tuple #[vC (zC),.int .i64 8]) (results_c2 (ad:=⟨r0,0,none⟩) rfl rfl (ld_setRow (zC) ro) rfl) rfl ⟨rfl,fin_row HT.out.1 HT.out.2.2.2 HGF.out.2 HR.out (zC)⟩
   | some k =>
    obtain⟨hk, -, -⟩:=pos_some hp
    have hii:i=(k:Int):=by rw[← HI.out];exact idx_some hp
    subst hii
    have hz:=HZ.out
    rw[hp] at hz
    dsimp only at hz
    clear hp
    obtain⟨ad,hae, -, -,hat⟩:=Sl.pt (Own.slOf HT.out.1.oa) hk
    have rr:=HT.out.1.c2
    rw[HT.out.1.la] at rr
    have r33:=hat.f33
    have hk1:(k:Int)<(s.act.length:Int):=by omega
    have hpk:ptK s.act k=s.act[k]:=ptK_eq hk
    clear hat
    rw[hae] at rr
    by_cases h1:s.act[k].state=3
    ·rw[hpk,if_neg (by intro h;exact h h1)] at hz
     subst hz
     rw[h1] at r33
     clear h1 hpk
     go_wp2
     clear hae rr r33 ro
     refine AnyO.wp_anyI (by kernel_rfl) (by kernel_rfl) (AnyO.InvG (σ:=SlV) (fun σ=>AnyO.pvL [some (.pointer (some ⟨b,0,none⟩)),some (.pointer (some ⟨b,0,none⟩)),some (.pointer (some ⟨b,0,none⟩)),some (.pointer (some ⟨b,2,none⟩)),some (.slice va.1 va.2.1 va.2.2),some (vI x),some (.slice σ.1 σ.2.1 σ.2.2),some (.pointer (some ⟨b,0,none⟩)),some (.pointer (some ⟨b,2,none⟩)),none]) (fun σ D u=>WA b s F0 va vk (withoutL s.act x) U σ u (D 6) (D 9))) (AnyO.InvG.start (g:=(none,0,0)) (below_drew _)) ?_ ?_
     ·intro i hi
      have hi2:i=4∨i=5∨i=6∨i=9∨i=0∨i=1∨i=2∨i=3∨i=7∨i=8:=by simp only[List.size_toArray,List.length_cons,List.length_nil] at hi;omega
      clear hi
      rcases hi2 with rfl|rfl|rfl|rfl|rfl|rfl|rfl|rfl|rfl|rfl
      ·refine AnyO.I rfl [3] ?_;rintro D vs u σ Q h0 hC hp ac hb K hK
       have s45:_=_:=AnyO.sv 45 3 hb hp Q
       have hf6:=AnyO.fls (hC.out 6) h0 (show AnyO.pre _ 6=[4,5] from by kernel_rfl) (by decide)
       have hst:=Q.out.2
       rw[show D 6=false from hf6] at hst
       have rr:=(HT.out.1.keep hst).c2
       clear hst hf6
       go_simp
       exact hK _ _ (AnyO.InvG.step (g:=σ) Q.out.1 rfl (WA.read Q.out.2 (Below.refl _ _)))
      ·refine AnyO.I rfl [] ?_;rintro D vs u σ Q h0 hC hp ac hb K hK
       have s4:=AnyO.sz (v:=.pointer (some ⟨g,0,none⟩)) 4 hb
       have q:=Row.okw (Q.out.2.row HT.out.1 HT.out.2.1 HGF.out.1) (cI_length x)
       have rr1:=q.1
       have rr2:rdA u ⟨g,0,none⟩ 32=vI x:=q.2
       clear q
       go_simp
       exact hK _ _ (AnyO.InvG.step (g:=σ) Q.out.1 rfl (WA.read Q.out.2 (Below.refl _ _)))
      ·refine AnyO.I rfl [4,5] ?_;rintro D vs u σ Q h0 hC hp ac hb K hK
       have s46:_=_:=AnyO.sv 46 4 hb hp Q
       have s47:_=_:=AnyO.sv 47 5 hb hp Q
       have hf9:=AnyO.fls (hC.out 9) h0 (show AnyO.pre _ 9=[8,6,6,0,1,2,3,4,5,6] from by kernel_rfl) (by decide)
       go_simp
       have hst:=Q.out.2
       rw[show D 6=false from h0] at hst
       go_at_call 42
       refine (without42 0 _ s.act x u (HT.out.1.keep hst).oa HNA.out).mono ?_
       rintro e w2 ⟨v',rfl,ho',hg',hat'⟩
       obtain⟨A1,c1,rfl, -, -⟩:=Own.sl ho'
       refine hK _ _ (AnyO.InvG.ghost (g:=σ) (A1,_,c1) Q.out.1 ?_ rfl ?_)
       ·intro j hj hq
        rcases j with _|_|_|_|_|_|_|_|_|_|j
        all_goals first|exact hq|exact absurd (show D 6=true from hj) (by rw[h0];decide)
       rw[show AnyO.addD D 6 6=true from rfl,show AnyO.addD D 6 9=D 9 from rfl,hf9]
       exact WA.grow hst ho' hg' (Or.inl hat')
      ·refine AnyO.I rfl [8,6,6,0,1,2,3,4,5,6] ?_;rintro D vs u σ Q h0 hC hp ac hb K hK
       have s50:_=_:=AnyO.sv 50 8 hb hp Q
       have s48:_=_:=AnyO.sv 48 6 hb hp Q
       have hp6:D 6=true:=hp.out 6 (by decide)
       have hst:=Q.out.2
       rw[show D 6=true from hp6,show D 9=false from h0] at hst
       obtain⟨rf,rc,rp⟩:=WA.put hst HT.out.1
       have RP:=Lib.hid rp
       clear hst rp
       go_simp
       exact hK undef _ (AnyO.InvG.step (g:=σ) Q.out.1 trivial (by rw[show AnyO.addD D 9 6=D 6 from rfl,hp6,show AnyO.addD D 9 9=true from rfl];exact RP.out))
      all_goals
       refine AnyO.J rfl ?_;rintro D vs u σ Q h0 hC hp ac hb K hK
       try have s0:ac.tmps[0]?.getD undef=.pointer (some ⟨b,0,none⟩):=by rw[hb.out];kernel_rfl
       try have s43:_=_:=AnyO.sv 43 1 hb hp Q
       try have s44:_=_:=AnyO.sv 44 2 hb hp Q
       try have s42:_=_:=AnyO.sv 42 0 hb hp Q
       try have s49:_=_:=AnyO.sv 49 7 hb hp Q
       go_simp
       exact hK _ _ (AnyO.InvG.step (g:=σ) Q.out.1 rfl (WA.read Q.out.2 (Below.refl _ _)))
     ·intro D vs u hI hD
      obtain⟨σ,hP,hW⟩:=hI
      have e0:_=_:=hP 0 (hD 0 (by decide))
      have e1:_=_:=hP 1 (hD 1 (by decide))
      have e2:_=_:=hP 2 (hD 2 (by decide))
      have e3:_=_:=hP 3 (hD 3 (by decide))
      have e4:_=_:=hP 4 (hD 4 (by decide))
      have e5:_=_:=hP 5 (hD 5 (by decide))
      have e6:_=_:=hP 6 (hD 6 (by decide))
      have e7:_=_:=hP 7 (hD 7 (by decide))
      have e8:_=_:=hP 8 (hD 8 (by decide))
      have hst:=hW
      rw[show D 6=true from hD 6 (by decide),show D 9=true from hD 9 (by decide)] at hst
      have HST:=Lib.hid hst
      clear hst
      have HW:=Lib.hid hW
      clear hW hP hD
      rw[puts_range [some 42,some 43,some 44,some 45,some 46,some 47,some 48,some 49,some 50,none] (by kernel_rfl)]
      simp only[putL,Nat.reduceAdd,e0,e1,e2,e3,e4,e5,e6,e7,e8]
      clear e0 e1 e2 e3 e4 e5 e6 e7 e8
      obtain⟨hT7,hK7⟩:=HST.out
      obtain⟨U7,rfl⟩:∃ U7,U7=u:=⟨_,rfl⟩
      obtain⟨v7,rfl⟩:∃ v7,v7=σ:=⟨_,rfl⟩
      obtain⟨F7,hF7⟩:∃ F7,blkL v7++F0=F7:=⟨_,rfl⟩
      rw[hF7] at hT7 hK7
      have hout:=(hK7.out r0 HT.out.2.2.1.lt HGF.out.2).1
      have hr7:=HT.out.2.2.1.kp hK7 HGF.out.2
      have ro:=hr7.rowOk (cC_length zC)
      have q:=Row.okw (HT.out.2.1.kp hK7 HGF.out.1) (cI_length x)
      have r1:=q.1
      have r2:rdA U7 ⟨g,0,none⟩ 32=vI x:=q.2
      have HS:=Lib.hid (And.intro hT7 (And.intro hK7 hout))
      clear hT7 hK7 hF7 hr7 q hout
      go_simp
      by_cases n0:n=0
      ·have hd:sayA x n=⟨9,⟨#[]⟩,x,0,0,0,0,⟨#[]⟩⟩:=by unfold sayA;rw[if_pos n0]
       have HD:=Lib.hid hd
       clear hd
       subst n0
       go_wp2
       exact bodyPost_ret (v:=.tuple #[vC (⟨9,⟨#[]⟩,x,0,0,0,0,⟨#[]⟩⟩),.int .i64 0]) (results_c2 (ad:=⟨r0,0,none⟩) rfl rfl (ld_setRow (⟨9,⟨#[]⟩,x,0,0,0,0,⟨#[]⟩⟩) ro) rfl) rfl ⟨by rw[HD.out],fin_row HS.out.1 (HT.out.2.2.2.trans HS.out.2.1) HS.out.2.2 HR.out (⟨9,⟨#[]⟩,x,0,0,0,0,⟨#[]⟩⟩)⟩
      by_cases n1:n=25
      ·have hd:sayA x n=⟨5,⟨#[]⟩,x,0,0,0,0,⟨#[]⟩⟩:=by unfold sayA;rw[if_neg n0,if_pos n1]
       have HD:=Lib.hid hd
       clear hd n0
       subst n1
       go_wp2
       exact bodyPost_ret (v:=.tuple #[vC (⟨5,⟨#[]⟩,x,0,0,0,0,⟨#[]⟩⟩),.int .i64 0]) (results_c2 (ad:=⟨r0,0,none⟩) rfl rfl (ld_setRow (⟨5,⟨#[]⟩,x,0,0,0,0,⟨#[]⟩⟩) ro) rfl) rfl ⟨by rw[HD.out],fin_row HS.out.1 (HT.out.2.2.2.trans HS.out.2.1) HS.out.2.2 HR.out (⟨5,⟨#[]⟩,x,0,0,0,0,⟨#[]⟩⟩)⟩
      have hd:sayA x n=⟨6,⟨#[]⟩,x,0,0,0,n,⟨#[]⟩⟩:=by unfold sayA;rw[if_neg n0,if_neg n1]
      have HD:=Lib.hid hd
      have q0:(n==0)=false:=by simpa using n0
      have q1:(n==25)=false:=by simpa using n1
      clear hd n0 n1
      go_wp2
      exact bodyPost_ret (v:=.tuple #[vC (⟨6,⟨#[]⟩,x,0,0,0,n,⟨#[]⟩⟩),.int .i64 0]) (results_c2 (ad:=⟨r0,0,none⟩) rfl rfl (ld_setRow (⟨6,⟨#[]⟩,x,0,0,0,n,⟨#[]⟩⟩) ro) rfl) rfl ⟨by rw[HD.out],fin_row HS.out.1 (HT.out.2.2.2.trans HS.out.2.1) HS.out.2.2 HR.out (⟨6,⟨#[]⟩,x,0,0,0,n,⟨#[]⟩⟩)⟩
    ·rw[hpk,if_pos h1] at hz
     subst hz
     have q1:(s.act[k].state != 3)=true:=by simpa using h1
     clear h1 hpk
     go_wp2
     exact bodyPost_ret (v:=.tuple #[vC (zC),.int .i64 10]) (results_c2 (ad:=⟨r0,0,none⟩) rfl rfl (ld_setRow (zC) ro) rfl) rfl ⟨rfl,fin_row HT.out.1 HT.out.2.2.2 HGF.out.2 HR.out (zC)⟩
theorem cancel28 (b:Nat) (s:Tk) (F:List Nat) (x:Id) (w:World) (h:TkAt b s F w) (hna:s.act.length≤100) (hnk:s.kept.length≤8) :
  Calls Tryz.prog 28 #[.pointer (some ⟨b,0,none⟩),vI x] w (AnsP b (cancelT s x).1 (cancelT s x).2.1 (cancelT s x).2.2 F w):=by
 obtain⟨va,vk,h⟩:=h
 obtain⟨F0,h0,hK0,hlt⟩:=h.shrink
 obtain⟨g,hg⟩:∃ g,w.heap.size=g:=⟨_,rfl⟩
 obtain⟨W1,hW1⟩:∃ W1,w.alloc (.cells (aI x) 30)=W1:=⟨_,rfl⟩
 have hb1:Below w.heap.size w W1:=by rw[← hW1];exact below_alloc _ _
 have hrow:Row W1 g (cI x) 30:=by rw[← hW1,← hg];exact Row.new w (cI x) _
 obtain⟨r0,hr0⟩:∃ r0,W1.heap.size=r0:=⟨_,rfl⟩
 obtain⟨W2,hW2⟩:∃ W2,W1.alloc (.cells (aC zC) 32)=W2:=⟨_,rfl⟩
 have hb2:Below W1.heap.size W1 W2:=by rw[← hW2];exact below_alloc _ _
 have hro:Row W2 r0 (cC zC) 32:=by rw[← hW2,← hr0];exact Row.new W1 (cC zC) _
 have hb:=Below.step hb1 hb2
 have hs1:=hb1.size
 have ro:=hro.rowOk (cC_length zC)
 have H3:=Lib.hid (And.intro (hrow.keep hb2) (And.intro hro (And.intro (h0.keep hb) (hK0.trans (Kp.of_below hb)))))
 have HGF:=Lib.hid (And.intro (show g∉F0 from fun hm=>by have:=hlt g hm;omega) (show r0∉F0 from fun hm=>by have:=hlt r0 hm;omega))
 have HR:=Lib.hid (show w.heap.size≤r0 by omega)
 clear hb1 hb2 hb hrow hro h h0 hK0 hlt hs1
 have HNA:=Lib.hid (show s.act.length≤1000000 by omega)
 have HNK:=Lib.hid hnk
 obtain⟨Z,hZ⟩:∃ Z,cancelT s x=Z:=⟨_,rfl⟩
 rw[hZ]
 unfold cancelT at hZ
 obtain⟨i,hi⟩:∃ i,idxL s.act x=i:=⟨_,rfl⟩
 have HI:=Lib.hid hi
 have HZ:=Lib.hid hZ
 clear hi hZ
 go_enter Tryz.func28,Tryz.ntmps28
 go_wp2
 refine AnyO.wp_anyI (by kernel_rfl) (by kernel_rfl) (AnyO.InvG (σ:=Unit) (fun σ=>AnyO.pvL [some (.pointer (some ⟨b,0,none⟩)),some (.pointer (some ⟨b,0,none⟩)),some (.pointer (some ⟨b,2,none⟩)),some (.slice va.1 s.act.length va.2.2),some (vI x),some (.int .i64 i),some (.int .i64 i)]) (fun _ _ u=>Below W2.heap.size W2 u)) (AnyO.InvG.start (g:=()) (below_drew _)) ?_ ?_
 ·intro i hi
  have hi2:i=4∨i=5∨i=0∨i=1∨i=2∨i=3∨i=6:=by simp only[List.size_toArray,List.length_cons,List.length_nil] at hi;omega
  clear hi
  rcases hi2 with rfl|rfl|rfl|rfl|rfl|rfl|rfl
  ·refine AnyO.I rfl [] ?_;rintro D vs u σ Q h0 hC hp ac hb K hK
   have s3:=AnyO.sz (v:=.pointer (some ⟨g,0,none⟩)) 3 hb
   have q:=Row.okw (H3.out.1.keep Q.out.2) (cI_length x)
   have rr1:=q.1
   have rr2:rdA u ⟨g,0,none⟩ 32=vI x:=q.2
   clear q
   go_simp;exact hK _ _ (AnyO.InvG.step (g:=σ) Q.out.1 rfl Q.out.2)
  ·refine AnyO.I rfl [3,4] ?_;rintro D vs u σ Q h0 hC hp ac hb K hK
   have s13:_=_:=AnyO.sv 13 3 hb hp Q
   have s14:_=_:=AnyO.sv 14 4 hb hp Q
   go_simp
   go_at_call 40
   refine (find40 va.1 va.2.2 s.act x u (Own.slOf ((H3.out.2.2.1.keep Q.out.2).oa)) HNA.out).mono ?_
   rintro e w2 ⟨rfl,hcb⟩
   rw[HI.out]
   exact hK _ _ (AnyO.InvG.step (g:=σ) Q.out.1 rfl (Below.step Q.out.2 hcb))
  all_goals
   refine AnyO.J rfl ?_;rintro D vs u σ Q h0 hC hp ac hb K hK
   try have s0:ac.tmps[0]?.getD undef=.pointer (some ⟨b,0,none⟩):=by rw[hb.out];kernel_rfl
   try have s10:_=_:=AnyO.sv 10 0 hb hp Q
   try have s11:_=_:=AnyO.sv 11 1 hb hp Q
   try have s12:_=_:=AnyO.sv 12 2 hb hp Q
   try have s15:_=_:=AnyO.sv 15 5 hb hp Q
   have rr:=(H3.out.2.2.1.keep Q.out.2).c2
   rw[H3.out.2.2.1.la] at rr
   go_simp
   exact hK _ _ (AnyO.InvG.step (g:=σ) Q.out.1 rfl Q.out.2)
 ·intro D vs u hI hD
  obtain⟨σ,hP,hW⟩:=hI
  have e0:_=_:=hP 0 (hD 0 (by decide))
  have e1:_=_:=hP 1 (hD 1 (by decide))
  have e2:_=_:=hP 2 (hD 2 (by decide))
  have e3:_=_:=hP 3 (hD 3 (by decide))
  have e4:_=_:=hP 4 (hD 4 (by decide))
  have e5:_=_:=hP 5 (hD 5 (by decide))
  have e6:_=_:=hP 6 (hD 6 (by decide))
  have HW:=Lib.hid hW
  clear hW hP hD
  rw[puts_range [some 10,some 11,some 12,some 13,some 14,some 15,some 6] (by kernel_rfl)]
  simp only[putL,Nat.reduceAdd,e0,e1,e2,e3,e4,e5,e6]
  clear e0 e1 e2 e3 e4 e5 e6
  go_simp
  clear ro
  obtain⟨U,rfl⟩:∃ U,U=u:=⟨_,rfl⟩
  have ro:=(H3.out.2.1.keep HW.out).rowOk (cC_length zC)
  have HT:=Lib.hid (And.intro (H3.out.2.2.1.keep HW.out) (And.intro (H3.out.1.keep HW.out) (And.intro (H3.out.2.1.keep HW.out) (H3.out.2.2.2.trans (Kp.of_below HW.out)))))
  cases hp:posL s.act x with
  | none =>
   have hii:i=-1:=by rw[← HI.out];exact idx_none hp
   subst hii
   have hz:=HZ.out
   rw[hp] at hz
   dsimp only at hz
   subst hz
   clear hp
   go_wp2
   exact bodyPost_ret (v:=.tuple #[vC (zC),.int .i64 8]) (results_c2 (ad:=⟨r0,0,none⟩) rfl rfl (ld_setRow (zC) ro) rfl) rfl ⟨rfl,fin_row HT.out.1 HT.out.2.2.2 HGF.out.2 HR.out (zC)⟩
  | some k =>
   obtain⟨hk, -, -⟩:=pos_some hp
   have hii:i=(k:Int):=by rw[← HI.out];exact idx_some hp
   subst hii
   have hz:=HZ.out
   rw[hp] at hz
   dsimp only at hz
   clear hp
   obtain⟨ad,hae,ok1,rd1,hat⟩:=Sl.pt (Own.slOf HT.out.1.oa) hk
   have rr:=HT.out.1.c2
   rw[HT.out.1.la] at rr
   have r33:=hat.f33
   have hk1:(k:Int)<(s.act.length:Int):=by omega
   have hpk:ptK s.act k=s.act[k]:=ptK_eq hk
   clear hat
   rw[hae] at rr
   by_cases h1:s.act[k].state=2
   ·rw[hpk,if_neg (by intro h;exact h h1)] at hz
    subst hz
    rw[h1] at r33
    obtain⟨pk,hpp⟩:∃ pk,s.act[k]=pk:=⟨_,rfl⟩
    obtain⟨s1,hs1⟩:∃ s1:Tk,{ s with kept:=keepP s.kept pk }=s1:=⟨_,rfl⟩
    have HKP:=Lib.hid (show AnsP b { s with act:=withoutL s.act x,kept:=keepP s.kept s.act[k] } ⟨5,⟨#[]⟩,x,0,0,0,0,⟨#[]⟩⟩ 0 F w=AnsP b { s1 with act:=withoutL s1.act x } ⟨5,⟨#[]⟩,x,0,0,0,0,⟨#[]⟩⟩ 0 F w by rw[← hs1,hpp])
    have HS1:=Lib.hid (show s1.act.length≤1000000 by rw[← hs1];exact HNA.out)
    rw[hpp] at rd1
    have HPP:=Lib.hid hs1
    clear h1 hpk hpp hs1
    go_wp2_with (go_at_call 43;refine (keep43 b s F0 va vk pk U HT.out.1 HNK.out).mono ?_;rintro e w4 ⟨rfl,F4,vk4,hT4,hK4⟩;rw[HPP.out] at hT4;have H4:=Lib.hid (And.intro hT4 (And.intro (HT.out.2.1.kp hK4 HGF.out.1) (And.intro (HT.out.2.2.1.kp hK4 HGF.out.2) (And.intro (HT.out.2.2.2.trans hK4) (And.intro (hK4.out g HT.out.2.1.lt HGF.out.1).1 (hK4.out r0 HT.out.2.2.1.lt HGF.out.2).1)))));clear hT4 hK4)
    clear hae rr r33 ro ok1 rd1
    refine AnyO.wp_anyI (by kernel_rfl) (by kernel_rfl) (AnyO.InvG (σ:=SlV) (fun σ=>AnyO.pvL [some (.pointer (some ⟨b,0,none⟩)),some (.pointer (some ⟨b,0,none⟩)),some (.pointer (some ⟨b,0,none⟩)),some (.pointer (some ⟨b,2,none⟩)),some (.slice va.1 va.2.1 va.2.2),some (vI x),some (.slice σ.1 σ.2.1 σ.2.2),some (.pointer (some ⟨b,0,none⟩)),some (.pointer (some ⟨b,2,none⟩)),none]) (fun σ D u=>WA b s1 F4 va vk4 (withoutL s1.act x) w4 σ u (D 6) (D 9))) (AnyO.InvG.start (g:=(none,0,0)) (below_drew _)) ?_ ?_
    ·intro i hi
     have hi2:i=4∨i=5∨i=6∨i=9∨i=0∨i=1∨i=2∨i=3∨i=7∨i=8:=by simp only[List.size_toArray,List.length_cons,List.length_nil] at hi;omega
     clear hi
     rcases hi2 with rfl|rfl|rfl|rfl|rfl|rfl|rfl|rfl|rfl|rfl
     ·refine AnyO.I rfl [3] ?_;rintro D vs u σ Q h0 hC hp ac hb K hK
      have s43:_=_:=AnyO.sv 43 3 hb hp Q
      have hf6:=AnyO.fls (hC.out 6) h0 (show AnyO.pre _ 6=[4,5] from by kernel_rfl) (by decide)
      have hst:=Q.out.2
      rw[show D 6=false from hf6] at hst
      have rr:=(H4.out.1.keep hst).c2
      clear hst hf6
      go_simp
      exact hK _ _ (AnyO.InvG.step (g:=σ) Q.out.1 rfl (WA.read Q.out.2 (Below.refl _ _)))
     ·refine AnyO.I rfl [] ?_;rintro D vs u σ Q h0 hC hp ac hb K hK
      have s3:=AnyO.sz (v:=.pointer (some ⟨g,0,none⟩)) 3 hb
      have q:=Row.okw (Q.out.2.row H4.out.1 H4.out.2.1 H4.out.2.2.2.2.1) (cI_length x)
      have rr1:=q.1
      have rr2:rdA u ⟨g,0,none⟩ 32=vI x:=q.2
      clear q
      go_simp
      exact hK _ _ (AnyO.InvG.step (g:=σ) Q.out.1 rfl (WA.read Q.out.2 (Below.refl _ _)))
     ·refine AnyO.I rfl [4,5] ?_;rintro D vs u σ Q h0 hC hp ac hb K hK
      have s44:_=_:=AnyO.sv 44 4 hb hp Q
      have s45:_=_:=AnyO.sv 45 5 hb hp Q
      have hf9:=AnyO.fls (hC.out 9) h0 (show AnyO.pre _ 9=[8,6,6,0,1,2,3,4,5,6] from by kernel_rfl) (by decide)
      go_simp
      have hst:=Q.out.2
      rw[show D 6=false from h0] at hst
      go_at_call 42
      refine (without42 0 _ s1.act x u (H4.out.1.keep hst).oa HS1.out).mono ?_
      rintro e w2 ⟨v',rfl,ho',hg',hat'⟩
      obtain⟨A1,c1,rfl, -, -⟩:=Own.sl ho'
      refine hK _ _ (AnyO.InvG.ghost (g:=σ) (A1,_,c1) Q.out.1 ?_ rfl ?_)
      ·intro j hj hq
       rcases j with _|_|_|_|_|_|_|_|_|_|j
       all_goals first|exact hq|exact absurd (show D 6=true from hj) (by rw[h0];decide)
      rw[show AnyO.addD D 6 6=true from rfl,show AnyO.addD D 6 9=D 9 from rfl,hf9]
      exact WA.grow hst ho' hg' (Or.inl hat')
     ·refine AnyO.I rfl [8,6,6,0,1,2,3,4,5,6] ?_;rintro D vs u σ Q h0 hC hp ac hb K hK
      have s48:_=_:=AnyO.sv 48 8 hb hp Q
      have s46:_=_:=AnyO.sv 46 6 hb hp Q
      have hp6:D 6=true:=hp.out 6 (by decide)
      have hst:=Q.out.2
      rw[show D 6=true from hp6,show D 9=false from h0] at hst
      obtain⟨rf,rc,rp⟩:=WA.put hst H4.out.1
      have RP:=Lib.hid rp
      clear hst rp
      go_simp
      exact hK undef _ (AnyO.InvG.step (g:=σ) Q.out.1 trivial (by rw[show AnyO.addD D 9 6=D 6 from rfl,hp6,show AnyO.addD D 9 9=true from rfl];exact RP.out))
     all_goals
      refine AnyO.J rfl ?_;rintro D vs u σ Q h0 hC hp ac hb K hK
      try have s0:ac.tmps[0]?.getD undef=.pointer (some ⟨b,0,none⟩):=by rw[hb.out];kernel_rfl
      try have s41:_=_:=AnyO.sv 41 1 hb hp Q
      try have s42:_=_:=AnyO.sv 42 2 hb hp Q
      try have s40:_=_:=AnyO.sv 40 0 hb hp Q
      try have s47:_=_:=AnyO.sv 47 7 hb hp Q
      go_simp
      exact hK _ _ (AnyO.InvG.step (g:=σ) Q.out.1 rfl (WA.read Q.out.2 (Below.refl _ _)))
    ·intro D vs u hI hD
     obtain⟨σ,hP,hW⟩:=hI
     have e0:_=_:=hP 0 (hD 0 (by decide))
     have e1:_=_:=hP 1 (hD 1 (by decide))
     have e2:_=_:=hP 2 (hD 2 (by decide))
     have e3:_=_:=hP 3 (hD 3 (by decide))
     have e4:_=_:=hP 4 (hD 4 (by decide))
     have e5:_=_:=hP 5 (hD 5 (by decide))
     have e6:_=_:=hP 6 (hD 6 (by decide))
     have e7:_=_:=hP 7 (hD 7 (by decide))
     have e8:_=_:=hP 8 (hD 8 (by decide))
     have hst:=hW
     rw[show D 6=true from hD 6 (by decide),show D 9=true from hD 9 (by decide)] at hst
     have HST:=Lib.hid hst
     clear hst
     have HW:=Lib.hid hW
     clear hW hP hD
     rw[puts_range [some 40,some 41,some 42,some 43,some 44,some 45,some 46,some 47,some 48,none] (by kernel_rfl)]
     simp only[putL,Nat.reduceAdd,e0,e1,e2,e3,e4,e5,e6,e7,e8]
     clear e0 e1 e2 e3 e4 e5 e6 e7 e8
     obtain⟨hT7,hK7⟩:=HST.out
     obtain⟨U7,rfl⟩:∃ U7,U7=u:=⟨_,rfl⟩
     obtain⟨v7,rfl⟩:∃ v7,v7=σ:=⟨_,rfl⟩
     obtain⟨F7,hF7⟩:∃ F7,blkL v7++F4=F7:=⟨_,rfl⟩
     rw[hF7] at hT7 hK7
     have hout:=(hK7.out r0 H4.out.2.2.1.lt H4.out.2.2.2.2.2).1
     have hr7:=H4.out.2.2.1.kp hK7 H4.out.2.2.2.2.2
     have ro:=hr7.rowOk (cC_length zC)
     have q:=Row.okw (H4.out.2.1.kp hK7 H4.out.2.2.2.2.1) (cI_length x)
     have r1:=q.1
     have r2:rdA U7 ⟨g,0,none⟩ 32=vI x:=q.2
     have HS:=Lib.hid (And.intro hT7 (And.intro hK7 hout))
     clear hT7 hK7 hF7 hr7 q hout
     go_simp
     go_wp2
     have HE:=HKP.out
     have hfin:AnsP b { s1 with act:=withoutL s1.act x } ⟨5,⟨#[]⟩,x,0,0,0,0,⟨#[]⟩⟩ 0 F w (.returned (.tuple #[vC ⟨5,⟨#[]⟩,x,0,0,0,0,⟨#[]⟩⟩,.int .i64 0])) (U7.setRow r0 (aC ⟨5,⟨#[]⟩,x,0,0,0,0,⟨#[]⟩⟩)):=⟨rfl,fin_row HS.out.1 (H4.out.2.2.2.1.trans HS.out.2.1) HS.out.2.2 HR.out ⟨5,⟨#[]⟩,x,0,0,0,0,⟨#[]⟩⟩⟩
     rw[← HKP.out] at hfin
     exact bodyPost_ret (v:=.tuple #[vC ⟨5,⟨#[]⟩,x,0,0,0,0,⟨#[]⟩⟩,.int .i64 0]) (results_c2 (ad:=⟨r0,0,none⟩) rfl rfl (ld_setRow ⟨5,⟨#[]⟩,x,0,0,0,0,⟨#[]⟩⟩ ro) rfl) rfl hfin
   ·rw[hpk,if_pos h1] at hz
    subst hz
    have q1:(s.act[k].state != 2)=true:=by simpa using h1
    clear h1 hpk
    go_wp2
    exact bodyPost_ret (v:=.tuple #[vC (zC),.int .i64 10]) (results_c2 (ad:=⟨r0,0,none⟩) rfl rfl (ld_setRow (zC) ro) rfl) rfl ⟨rfl,fin_row HT.out.1 HT.out.2.2.2 HGF.out.2 HR.out (zC)⟩
theorem forget35 (b:Nat) (s:Tk) (F:List Nat) (x:Id) (w:World) (h:TkAt b s F w) (hna:s.act.length≤100) (hnk:s.kept.length≤100) :
  Calls Tryz.prog 35 #[.pointer (some ⟨b,0,none⟩),vI x] w (fun e w'=>e=.returned (.bool (forgetT s x).2)∧∃ F',TkAt b (forgetT s x).1 F' w'∧Kp F F' w w'):=by
 obtain⟨va,vk,h⟩:=h
 obtain⟨F0,h0,hK0,hlt⟩:=h.shrink
 obtain⟨g,hg⟩:∃ g,w.heap.size=g:=⟨_,rfl⟩
 obtain⟨W1,hW1⟩:∃ W1,w.alloc (.cells (aI x) 30)=W1:=⟨_,rfl⟩
 have hb1:Below w.heap.size w W1:=by rw[← hW1];exact below_alloc _ _
 have hrow:Row W1 g (cI x) 30:=by rw[← hW1,← hg];exact Row.new w (cI x) _
 have H3:=Lib.hid (And.intro hrow (And.intro trivial (And.intro (h0.keep hb1) (hK0.trans (Kp.of_below hb1)))))
 have HGF:=Lib.hid (show g∉F0 from fun hm=>by have:=hlt g hm;omega)
 clear hb1 hrow h h0 hK0 hlt
 have HNA:=Lib.hid (show s.act.length≤1000000 by omega)
 have HNK:=Lib.hid hnk
 obtain⟨Z,hZ⟩:∃ Z,forgetT s x=Z:=⟨_,rfl⟩
 rw[hZ]
 unfold forgetT at hZ
 cases hp:posL s.kept x with
 | none =>
  rw[hp] at hZ
  dsimp only at hZ
  subst hZ
  have HI:=Lib.hid (idx_none hp)
  clear hp
  go_enter Tryz.func35,Tryz.ntmps35
  go_wp2
  refine AnyO.wp_anyI (by kernel_rfl) (by kernel_rfl) (AnyO.InvG (σ:=Unit) (fun σ=>AnyO.pvL [some (.pointer (some ⟨b,0,none⟩)),some (.bool false),some (.bool false),some (.pointer (some ⟨b,0,none⟩)),some (.pointer (some ⟨b,0,none⟩)),some (.pointer (some ⟨b,3,none⟩)),some (.slice vk.1 s.kept.length vk.2.2),some (vI x),some (.int .i64 (-1)),some (.bool true),some (.bool true)]) (fun _ _ u=>Below W1.heap.size W1 u)) (AnyO.InvG.start (g:=()) (below_drew _)) ?_ ?_
  ·intro i hi
   have hi2:i=3∨i=4∨i=5∨i=6∨i=7∨i=8∨i=9∨i=0∨i=1∨i=2∨i=10:=by simp only[List.size_toArray,List.length_cons,List.length_nil] at hi;omega
   clear hi
   rcases hi2 with rfl|rfl|rfl|rfl|rfl|rfl|rfl|rfl|rfl|rfl|rfl
   ·refine AnyO.StepI.mk rfl [2] (by kernel_rfl) ?_;rintro D vs u ⟨σ,hP,hW⟩ h0 hC hp ac hb K hK
    have s0:ac.tmps[0]?.getD undef=.pointer (some ⟨b,0,none⟩):=by rw[hb];kernel_rfl
    have s7:=AnyO.slot 7 hb (by kernel_rfl) (hP 2 (hp 2 (by decide)))
    rw[if_pos (AnyO.wanted_some (g:=2) (t:=7) (want:=false) rfl rfl s7)]
    clear hb hp
    clear hC h0;have HPW:=Lib.hid (And.intro hP hW);clear hP hW;go_simp;exact hK _ _ (AnyO.InvG.step (g:=σ) HPW.out.1 rfl HPW.out.2)
   ·refine AnyO.StepI.mk rfl [3,2] (by kernel_rfl) ?_;rintro D vs u ⟨σ,hP,hW⟩ h0 hC hp ac hb K hK
    have s8:=AnyO.slot 8 hb (by kernel_rfl) (hP 3 (hp 3 (by decide)))
    have s7:=AnyO.slot 7 hb (by kernel_rfl) (hP 2 (hp 2 (by decide)))
    rw[if_pos (AnyO.wanted_some (g:=2) (t:=7) (want:=false) rfl rfl s7)]
    clear hb hp
    clear hC h0;have HPW:=Lib.hid (And.intro hP hW);clear hP hW;go_simp;exact hK _ _ (AnyO.InvG.step (g:=σ) HPW.out.1 rfl HPW.out.2)
   ·refine AnyO.StepI.mk rfl [4,2] (by kernel_rfl) ?_;rintro D vs u ⟨σ,hP,hW⟩ h0 hC hp ac hb K hK
    have s9:=AnyO.slot 9 hb (by kernel_rfl) (hP 4 (hp 4 (by decide)))
    have s7:=AnyO.slot 7 hb (by kernel_rfl) (hP 2 (hp 2 (by decide)))
    rw[if_pos (AnyO.wanted_some (g:=2) (t:=7) (want:=false) rfl rfl s7)]
    clear hb hp
    clear hC h0;have HPW:=Lib.hid (And.intro hP hW);clear hP hW;go_simp;exact hK _ _ (AnyO.InvG.step (g:=σ) HPW.out.1 rfl HPW.out.2)
   ·refine AnyO.StepI.mk rfl [5,2] (by kernel_rfl) ?_;rintro D vs u ⟨σ,hP,hW⟩ h0 hC hp ac hb K hK
    have s10:=AnyO.slot 10 hb (by kernel_rfl) (hP 5 (hp 5 (by decide)))
    have s7:=AnyO.slot 7 hb (by kernel_rfl) (hP 2 (hp 2 (by decide)))
    rw[if_pos (AnyO.wanted_some (g:=2) (t:=7) (want:=false) rfl rfl s7)]
    clear hb hp
    have rr:=(H3.out.2.2.1.keep hW).c3
    rw[H3.out.2.2.1.lk] at rr
    clear hC h0;have HPW:=Lib.hid (And.intro hP hW);clear hP hW;go_simp;exact hK _ _ (AnyO.InvG.step (g:=σ) HPW.out.1 rfl HPW.out.2)
   ·refine AnyO.StepI.mk rfl [2] (by kernel_rfl) ?_;rintro D vs u ⟨σ,hP,hW⟩ h0 hC hp ac hb K hK
    have s3:ac.tmps[3]?.getD undef=.pointer (some ⟨g,0,none⟩):=by rw[hb];kernel_rfl
    have s7:=AnyO.slot 7 hb (by kernel_rfl) (hP 2 (hp 2 (by decide)))
    rw[if_pos (AnyO.wanted_some (g:=2) (t:=7) (want:=false) rfl rfl s7)]
    clear hb hp
    have q:=Row.okw (H3.out.1.keep hW) (cI_length x)
    have rr1:=q.1
    have rr2:rdA u ⟨g,0,none⟩ 32=vI x:=q.2
    clear q
    clear hC h0;have HPW:=Lib.hid (And.intro hP hW);clear hP hW;go_simp;exact hK _ _ (AnyO.InvG.step (g:=σ) HPW.out.1 rfl HPW.out.2)
   ·refine AnyO.StepI.mk rfl [6,7,2,2] (by kernel_rfl) ?_;rintro D vs u ⟨σ,hP,hW⟩ h0 hC hp ac hb K hK
    have s11:=AnyO.slot 11 hb (by kernel_rfl) (hP 6 (hp 6 (by decide)))
    have s12:=AnyO.slot 12 hb (by kernel_rfl) (hP 7 (hp 7 (by decide)))
    have s7:=AnyO.slot 7 hb (by kernel_rfl) (hP 2 (hp 2 (by decide)))
    rw[if_pos (AnyO.wanted_some (g:=2) (t:=7) (want:=false) rfl rfl s7)]
    clear hb hp
    clear hC h0;have HPW:=Lib.hid (And.intro hP hW);clear hP hW;go_simp;obtain⟨hP,hW⟩:=HPW.out
    go_at_call 40
    refine (find40 vk.1 vk.2.2 s.kept x u (Own.slOf ((H3.out.2.2.1.keep hW).ok)) (by have:=HNK.out;omega)).mono ?_
    rintro e w2 ⟨rfl,hcb⟩
    rw[HI.out]
    exact hK _ _ (AnyO.InvG.step (g:=σ) hP rfl (Below.step hW hcb))
   ·refine AnyO.StepI.mk rfl [8,2] (by kernel_rfl) ?_;rintro D vs u ⟨σ,hP,hW⟩ h0 hC hp ac hb K hK
    have s13:=AnyO.slot 13 hb (by kernel_rfl) (hP 8 (hp 8 (by decide)))
    have s7:=AnyO.slot 7 hb (by kernel_rfl) (hP 2 (hp 2 (by decide)))
    rw[if_pos (AnyO.wanted_some (g:=2) (t:=7) (want:=false) rfl rfl s7)]
    clear hb hp
    clear hC h0;have HPW:=Lib.hid (And.intro hP hW);clear hP hW;go_simp;exact hK _ _ (AnyO.InvG.step (g:=σ) HPW.out.1 rfl HPW.out.2)
   all_goals
    refine AnyO.J rfl ?_;rintro D vs u σ Q h0 hC hp ac hb K hK
    try have s0:ac.tmps[0]?.getD undef=.pointer (some ⟨b,0,none⟩):=by rw[hb.out];kernel_rfl
    try have s5:_=_:=AnyO.sv 5 0 hb hp Q
    try have s6:_=_:=AnyO.sv 6 1 hb hp Q
    try have s7:_=_:=AnyO.sv 7 2 hb hp Q
    try have s14:_=_:=AnyO.sv 14 9 hb hp Q
    go_simp
    exact hK _ _ (AnyO.InvG.step (g:=σ) Q.out.1 rfl Q.out.2)
  ·intro D vs u hI hD
   obtain⟨σ,hP,hW⟩:=hI
   have e0:_=_:=hP 0 (hD 0 (by decide))
   have e1:_=_:=hP 1 (hD 1 (by decide))
   have e2:_=_:=hP 2 (hD 2 (by decide))
   have e3:_=_:=hP 3 (hD 3 (by decide))
   have e4:_=_:=hP 4 (hD 4 (by decide))
   have e5:_=_:=hP 5 (hD 5 (by decide))
   have e6:_=_:=hP 6 (hD 6 (by decide))
   have e7:_=_:=hP 7 (hD 7 (by decide))
   have e8:_=_:=hP 8 (hD 8 (by decide))
   have e9:_=_:=hP 9 (hD 9 (by decide))
   have e10:_=_:=hP 10 (hD 10 (by decide))
   have HW:=Lib.hid hW
   clear hW hP hD
   rw[puts_range [some 5,some 6,some 7,some 8,some 9,some 10,some 11,some 12,some 13,some 14,some 15] (by kernel_rfl)]
   simp only[putL,Nat.reduceAdd,e0,e1,e2,e3,e4,e5,e6,e7,e8,e9,e10]
   clear e0 e1 e2 e3 e4 e5 e6 e7 e8 e9 e10
   go_simp
   go_wp2
   go_ret
   exact⟨rfl,F0,⟨va,vk,H3.out.2.2.1.keep HW.out⟩,H3.out.2.2.2.trans (Kp.of_below HW.out)⟩
 | some k =>
  rw[hp] at hZ
  dsimp only at hZ
  subst hZ
  have HI:=Lib.hid (idx_some hp)
  have hk0:¬ (k:Int)<0:=by omega
  clear hp
  go_enter Tryz.func35,Tryz.ntmps35
  go_wp2
  refine AnyO.wp_anyI (by kernel_rfl) (by kernel_rfl) (AnyO.InvG (σ:=Unit) (fun σ=>AnyO.pvL [some (.pointer (some ⟨b,0,none⟩)),some (.bool false),some (.bool false),some (.pointer (some ⟨b,0,none⟩)),some (.pointer (some ⟨b,0,none⟩)),some (.pointer (some ⟨b,3,none⟩)),some (.slice vk.1 s.kept.length vk.2.2),some (vI x),some (.int .i64 (k:Int)),some (.bool false),some (.bool false)]) (fun _ _ u=>Below W1.heap.size W1 u)) (AnyO.InvG.start (g:=()) (below_drew _)) ?_ ?_
  ·intro i hi
   have hi2:i=3∨i=4∨i=5∨i=6∨i=7∨i=8∨i=9∨i=0∨i=1∨i=2∨i=10:=by simp only[List.size_toArray,List.length_cons,List.length_nil] at hi;omega
   clear hi
   rcases hi2 with rfl|rfl|rfl|rfl|rfl|rfl|rfl|rfl|rfl|rfl|rfl
   ·refine AnyO.StepI.mk rfl [2] (by kernel_rfl) ?_;rintro D vs u ⟨σ,hP,hW⟩ h0 hC hp ac hb K hK
    have s0:ac.tmps[0]?.getD undef=.pointer (some ⟨b,0,none⟩):=by rw[hb];kernel_rfl
    have s7:=AnyO.slot 7 hb (by kernel_rfl) (hP 2 (hp 2 (by decide)))
    rw[if_pos (AnyO.wanted_some (g:=2) (t:=7) (want:=false) rfl rfl s7)]
    clear hb hp
    clear hC h0;have HPW:=Lib.hid (And.intro hP hW);clear hP hW;go_simp;exact hK _ _ (AnyO.InvG.step (g:=σ) HPW.out.1 rfl HPW.out.2)
   ·refine AnyO.StepI.mk rfl [3,2] (by kernel_rfl) ?_;rintro D vs u ⟨σ,hP,hW⟩ h0 hC hp ac hb K hK
    have s8:=AnyO.slot 8 hb (by kernel_rfl) (hP 3 (hp 3 (by decide)))
    have s7:=AnyO.slot 7 hb (by kernel_rfl) (hP 2 (hp 2 (by decide)))
    rw[if_pos (AnyO.wanted_some (g:=2) (t:=7) (want:=false) rfl rfl s7)]
    clear hb hp
    clear hC h0;have HPW:=Lib.hid (And.intro hP hW);clear hP hW;go_simp;exact hK _ _ (AnyO.InvG.step (g:=σ) HPW.out.1 rfl HPW.out.2)
   ·refine AnyO.StepI.mk rfl [4,2] (by kernel_rfl) ?_;rintro D vs u ⟨σ,hP,hW⟩ h0 hC hp ac hb K hK
    have s9:=AnyO.slot 9 hb (by kernel_rfl) (hP 4 (hp 4 (by decide)))
    have s7:=AnyO.slot 7 hb (by kernel_rfl) (hP 2 (hp 2 (by decide)))
    rw[if_pos (AnyO.wanted_some (g:=2) (t:=7) (want:=false) rfl rfl s7)]
    clear hb hp
    clear hC h0;have HPW:=Lib.hid (And.intro hP hW);clear hP hW;go_simp;exact hK _ _ (AnyO.InvG.step (g:=σ) HPW.out.1 rfl HPW.out.2)
   ·refine AnyO.StepI.mk rfl [5,2] (by kernel_rfl) ?_;rintro D vs u ⟨σ,hP,hW⟩ h0 hC hp ac hb K hK
    have s10:=AnyO.slot 10 hb (by kernel_rfl) (hP 5 (hp 5 (by decide)))
    have s7:=AnyO.slot 7 hb (by kernel_rfl) (hP 2 (hp 2 (by decide)))
    rw[if_pos (AnyO.wanted_some (g:=2) (t:=7) (want:=false) rfl rfl s7)]
    clear hb hp
    have rr:=(H3.out.2.2.1.keep hW).c3
    rw[H3.out.2.2.1.lk] at rr
    clear hC h0;have HPW:=Lib.hid (And.intro hP hW);clear hP hW;go_simp;exact hK _ _ (AnyO.InvG.step (g:=σ) HPW.out.1 rfl HPW.out.2)
   ·refine AnyO.StepI.mk rfl [2] (by kernel_rfl) ?_;rintro D vs u ⟨σ,hP,hW⟩ h0 hC hp ac hb K hK
    have s3:ac.tmps[3]?.getD undef=.pointer (some ⟨g,0,none⟩):=by rw[hb];kernel_rfl
    have s7:=AnyO.slot 7 hb (by kernel_rfl) (hP 2 (hp 2 (by decide)))
    rw[if_pos (AnyO.wanted_some (g:=2) (t:=7) (want:=false) rfl rfl s7)]
    clear hb hp
    have q:=Row.okw (H3.out.1.keep hW) (cI_length x)
    have rr1:=q.1
    have rr2:rdA u ⟨g,0,none⟩ 32=vI x:=q.2
    clear q
    clear hC h0;have HPW:=Lib.hid (And.intro hP hW);clear hP hW;go_simp;exact hK _ _ (AnyO.InvG.step (g:=σ) HPW.out.1 rfl HPW.out.2)
   ·refine AnyO.StepI.mk rfl [6,7,2,2] (by kernel_rfl) ?_;rintro D vs u ⟨σ,hP,hW⟩ h0 hC hp ac hb K hK
    have s11:=AnyO.slot 11 hb (by kernel_rfl) (hP 6 (hp 6 (by decide)))
    have s12:=AnyO.slot 12 hb (by kernel_rfl) (hP 7 (hp 7 (by decide)))
    have s7:=AnyO.slot 7 hb (by kernel_rfl) (hP 2 (hp 2 (by decide)))
    rw[if_pos (AnyO.wanted_some (g:=2) (t:=7) (want:=false) rfl rfl s7)]
    clear hb hp
    clear hC h0;have HPW:=Lib.hid (And.intro hP hW);clear hP hW;go_simp;obtain⟨hP,hW⟩:=HPW.out
    go_at_call 40
    refine (find40 vk.1 vk.2.2 s.kept x u (Own.slOf ((H3.out.2.2.1.keep hW).ok)) (by have:=HNK.out;omega)).mono ?_
    rintro e w2 ⟨rfl,hcb⟩
    rw[HI.out]
    exact hK _ _ (AnyO.InvG.step (g:=σ) hP rfl (Below.step hW hcb))
   ·refine AnyO.StepI.mk rfl [8,2] (by kernel_rfl) ?_;rintro D vs u ⟨σ,hP,hW⟩ h0 hC hp ac hb K hK
    have s13:=AnyO.slot 13 hb (by kernel_rfl) (hP 8 (hp 8 (by decide)))
    have s7:=AnyO.slot 7 hb (by kernel_rfl) (hP 2 (hp 2 (by decide)))
    rw[if_pos (AnyO.wanted_some (g:=2) (t:=7) (want:=false) rfl rfl s7)]
    clear hb hp
    clear hC h0;have HPW:=Lib.hid (And.intro hP hW);clear hP hW;go_simp;exact hK _ _ (AnyO.InvG.step (g:=σ) HPW.out.1 rfl HPW.out.2)
   all_goals
    refine AnyO.J rfl ?_;rintro D vs u σ Q h0 hC hp ac hb K hK
    try have s0:ac.tmps[0]?.getD undef=.pointer (some ⟨b,0,none⟩):=by rw[hb.out];kernel_rfl
    try have s5:_=_:=AnyO.sv 5 0 hb hp Q
    try have s6:_=_:=AnyO.sv 6 1 hb hp Q
    try have s7:_=_:=AnyO.sv 7 2 hb hp Q
    try have s14:_=_:=AnyO.sv 14 9 hb hp Q
    go_simp
    exact hK _ _ (AnyO.InvG.step (g:=σ) Q.out.1 rfl Q.out.2)
  ·intro D vs u hI hD
   obtain⟨σ,hP,hW⟩:=hI
   have e0:_=_:=hP 0 (hD 0 (by decide))
   have e1:_=_:=hP 1 (hD 1 (by decide))
   have e2:_=_:=hP 2 (hD 2 (by decide))
   have e3:_=_:=hP 3 (hD 3 (by decide))
   have e4:_=_:=hP 4 (hD 4 (by decide))
   have e5:_=_:=hP 5 (hD 5 (by decide))
   have e6:_=_:=hP 6 (hD 6 (by decide))
   have e7:_=_:=hP 7 (hD 7 (by decide))
   have e8:_=_:=hP 8 (hD 8 (by decide))
   have e9:_=_:=hP 9 (hD 9 (by decide))
   have e10:_=_:=hP 10 (hD 10 (by decide))
   have HW:=Lib.hid hW
   clear hW hP hD
   rw[puts_range [some 5,some 6,some 7,some 8,some 9,some 10,some 11,some 12,some 13,some 14,some 15] (by kernel_rfl)]
   simp only[putL,Nat.reduceAdd,e0,e1,e2,e3,e4,e5,e6,e7,e8,e9,e10]
   clear e0 e1 e2 e3 e4 e5 e6 e7 e8 e9 e10
   go_simp
   go_wp2
   obtain⟨U,rfl⟩:∃ U,U=u:=⟨_,rfl⟩
   have HT:=Lib.hid (And.intro (H3.out.2.2.1.keep HW.out) (And.intro (H3.out.1.keep HW.out) (H3.out.2.2.2.trans (Kp.of_below HW.out))))
   refine AnyO.wp_anyI (by kernel_rfl) (by kernel_rfl) (AnyO.InvG (σ:=SlV) (fun σ=>AnyO.pvL [some (.pointer (some ⟨b,0,none⟩)),some (.pointer (some ⟨b,0,none⟩)),some (.pointer (some ⟨b,0,none⟩)),some (.pointer (some ⟨b,3,none⟩)),some (.slice vk.1 vk.2.1 vk.2.2),some (vI x),some (.slice σ.1 σ.2.1 σ.2.2),some (.pointer (some ⟨b,0,none⟩)),some (.pointer (some ⟨b,3,none⟩)),none]) (fun σ D u=>WK b s F0 va vk (withoutL s.kept x) U σ u (D 6) (D 9))) (AnyO.InvG.start (g:=(none,0,0)) (below_drew _)) ?_ ?_
   ·intro i hi
    have hi2:i=4∨i=5∨i=6∨i=9∨i=0∨i=1∨i=2∨i=3∨i=7∨i=8:=by simp only[List.size_toArray,List.length_cons,List.length_nil] at hi;omega
    clear hi
    rcases hi2 with rfl|rfl|rfl|rfl|rfl|rfl|rfl|rfl|rfl|rfl
    ·refine AnyO.I rfl [3] ?_;rintro D vs u σ Q h0 hC hp ac hb K hK
     have s19:_=_:=AnyO.sv 19 3 hb hp Q
     have hf6:=AnyO.fls (hC.out 6) h0 (show AnyO.pre _ 6=[4,5] from by kernel_rfl) (by decide)
     have hst:=Q.out.2
     rw[show D 6=false from hf6] at hst
     have rr:=(HT.out.1.keep hst).c3
     clear hst hf6
     go_simp
     exact hK _ _ (AnyO.InvG.step (g:=σ) Q.out.1 rfl (WK.read Q.out.2 (Below.refl _ _)))
    ·refine AnyO.I rfl [] ?_;rintro D vs u σ Q h0 hC hp ac hb K hK
     have s3:=AnyO.sz (v:=.pointer (some ⟨g,0,none⟩)) 3 hb
     have q:=Row.okw (Q.out.2.row HT.out.1 HT.out.2.1 HGF.out) (cI_length x)
     have rr1:=q.1
     have rr2:rdA u ⟨g,0,none⟩ 32=vI x:=q.2
     clear q
     go_simp
     exact hK _ _ (AnyO.InvG.step (g:=σ) Q.out.1 rfl (WK.read Q.out.2 (Below.refl _ _)))
    ·refine AnyO.I rfl [4,5] ?_;rintro D vs u σ Q h0 hC hp ac hb K hK
     have s20:_=_:=AnyO.sv 20 4 hb hp Q
     have s21:_=_:=AnyO.sv 21 5 hb hp Q
     have hf9:=AnyO.fls (hC.out 9) h0 (show AnyO.pre _ 9=[8,6,6,0,1,2,3,4,5,6] from by kernel_rfl) (by decide)
     go_simp
     have hst:=Q.out.2
     rw[show D 6=false from h0] at hst
     go_at_call 42
     refine (without42 0 _ s.kept x u (HT.out.1.keep hst).ok (show s.kept.length≤1000000 by have:=HNK.out;omega)).mono ?_
     rintro e w2 ⟨v',rfl,ho',hg',hat'⟩
     obtain⟨A1,c1,rfl, -, -⟩:=Own.sl ho'
     refine hK _ _ (AnyO.InvG.ghost (g:=σ) (A1,_,c1) Q.out.1 ?_ rfl ?_)
     ·intro j hj hq
      rcases j with _|_|_|_|_|_|_|_|_|_|j
      all_goals first|exact hq|exact absurd (show D 6=true from hj) (by rw[h0];decide)
     rw[show AnyO.addD D 6 6=true from rfl,show AnyO.addD D 6 9=D 9 from rfl,hf9]
     exact WK.grow hst ho' hg' (Or.inl hat')
    ·refine AnyO.I rfl [8,6,6,0,1,2,3,4,5,6] ?_;rintro D vs u σ Q h0 hC hp ac hb K hK
     have s24:_=_:=AnyO.sv 24 8 hb hp Q
     have s22:_=_:=AnyO.sv 22 6 hb hp Q
     have hp6:D 6=true:=hp.out 6 (by decide)
     have hst:=Q.out.2
     rw[show D 6=true from hp6,show D 9=false from h0] at hst
     obtain⟨rf,rc,rp⟩:=WK.put hst HT.out.1
     have RP:=Lib.hid rp
     clear hst rp
     go_simp
     exact hK undef _ (AnyO.InvG.step (g:=σ) Q.out.1 trivial (by rw[show AnyO.addD D 9 6=D 6 from rfl,hp6,show AnyO.addD D 9 9=true from rfl];exact RP.out))
    all_goals
     refine AnyO.J rfl ?_;rintro D vs u σ Q h0 hC hp ac hb K hK
     try have s0:ac.tmps[0]?.getD undef=.pointer (some ⟨b,0,none⟩):=by rw[hb.out];kernel_rfl
     try have s17:_=_:=AnyO.sv 17 1 hb hp Q
     try have s18:_=_:=AnyO.sv 18 2 hb hp Q
     try have s16:_=_:=AnyO.sv 16 0 hb hp Q
     try have s23:_=_:=AnyO.sv 23 7 hb hp Q
     go_simp
     exact hK _ _ (AnyO.InvG.step (g:=σ) Q.out.1 rfl (WK.read Q.out.2 (Below.refl _ _)))
   ·intro D vs u hI hD
    obtain⟨σ,hP,hW⟩:=hI
    have e0:_=_:=hP 0 (hD 0 (by decide))
    have e1:_=_:=hP 1 (hD 1 (by decide))
    have e2:_=_:=hP 2 (hD 2 (by decide))
    have e3:_=_:=hP 3 (hD 3 (by decide))
    have e4:_=_:=hP 4 (hD 4 (by decide))
    have e5:_=_:=hP 5 (hD 5 (by decide))
    have e6:_=_:=hP 6 (hD 6 (by decide))
    have e7:_=_:=hP 7 (hD 7 (by decide))
    have e8:_=_:=hP 8 (hD 8 (by decide))
    have hst:=hW
    rw[show D 6=true from hD 6 (by decide),show D 9=true from hD 9 (by decide)] at hst
    have HST:=Lib.hid hst
    clear hst
    have HW:=Lib.hid hW
    clear hW hP hD
    rw[puts_range [some 16,some 17,some 18,some 19,some 20,some 21,some 22,some 23,some 24,none] (by kernel_rfl)]
    simp only[putL,Nat.reduceAdd,e0,e1,e2,e3,e4,e5,e6,e7,e8]
    clear e0 e1 e2 e3 e4 e5 e6 e7 e8
    obtain⟨hT7,hK7⟩:=HST.out
    obtain⟨U7,rfl⟩:∃ U7,U7=u:=⟨_,rfl⟩
    obtain⟨v7,rfl⟩:∃ v7,v7=σ:=⟨_,rfl⟩
    have HS:=Lib.hid (And.intro hT7 hK7)
    clear hT7 hK7
    go_simp
    go_wp2
    go_ret
    exact⟨rfl,_,⟨_,_,HS.out.1⟩,HT.out.2.2.trans HS.out.2⟩
end
end Go.Proofs.YtgojaelkdpabkaaGreatDoor
