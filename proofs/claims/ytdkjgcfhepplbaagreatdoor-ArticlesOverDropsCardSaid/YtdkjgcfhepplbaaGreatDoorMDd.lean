/- Taker's data and done: what Hear does with the parts and the end of an article. -/
import Derived.Test.YtdkjgcfhepplbaaGreatDoorMRcv
namespace Go.Proofs.YtdkjgcfhepplbaaGreatDoor
open Go.RowKit
theorem TkR.shrink {b:Nat} {s:Tk} {F:List Nat} {va vk:SlV} {w:World} (h:TkR b s F va vk w):∃ F2,TkR b s F2 va vk w∧Kp F F2 w w∧∀ k∈F2,k<w.heap.size:=by
 refine⟨b :: (blkL va++blkL vk),⟨h.row,h.oa,h.ok,List.mem_cons_self,fun ad e=>⟨List.mem_cons_of_mem _ (List.mem_append_left _ (mem_blk e)),(h.aF ad e).2⟩,fun ad e=>⟨List.mem_cons_of_mem _ (List.mem_append_right _ (mem_blk e)),(h.kF ad e).2⟩⟩,⟨rfl,rfl,rfl,Nat.le_refl _,fun k _ hF=>⟨fun hm=>?_,rfl⟩⟩,fun k hm=>?_⟩
 ·rcases List.mem_cons.1 hm with rfl|hm
  ·exact hF h.bF
  ·rcases List.mem_append.1 hm with hm|hm
   ·obtain⟨ad,e,rfl⟩:=of_mem_blk hm
    exact hF (h.aF ad e).1
   ·obtain⟨ad,e,rfl⟩:=of_mem_blk hm
    exact hF (h.kF ad e).1
 ·rcases List.mem_cons.1 hm with rfl|hm
  ·exact h.blt
  ·rcases List.mem_append.1 hm with hm|hm
   ·obtain⟨ad,e,rfl⟩:=of_mem_blk hm
    exact h.alt e
   ·obtain⟨ad,e,rfl⟩:=of_mem_blk hm
    exact h.klt e
def HearP (b:Nat) (s':Tk) (qs:List Qn) (ts:List Txt) (no:Int) (F:List Nat) (w:World) (e:Ending) (w':World):Prop :=
 ∃ q l:SlV,e=.returned (.tuple #[.slice q.1 q.2.1 q.2.2,.slice l.1 l.2.1 l.2.2,.int .i64 no])∧∃ F',TkAt b s' F' w'∧Kp F F' w w'∧SlF F' w' cQn q qs∧SlF F' w' cTx l ts
theorem HearP.none {b:Nat} {s':Tk} {no:Int} {F F':List Nat} {w w':World} (h:TkAt b s' F' w') (hk:Kp F F' w w'):HearP b s' [] [] no F w (.returned (.tuple #[.slice none 0 0,.slice none 0 0,.int .i64 no])) w' :=
 ⟨(Option.none,0,0),(Option.none,0,0),rfl,F',h,hk,SlF.nil _ _ _,SlF.nil _ _ _⟩
def ptK (l:List Pt) (k:Nat):Pt:=l[k]?.getD zA
theorem ptK_eq {l:List Pt} {k:Nat} (hk:k<l.length):ptK l k=l[k]:=by unfold ptK;rw[List.getElem?_eq_getElem hk];rfl
def addB (p:Pt) (t:ByteArray):Pt:={ p with bytes:=p.bytes++t }
def endB (p:Pt):Pt:={ p with state:=3 }
def dataT (s:Tk) (c:Cm):Tk×Int:=match rcvL s.act c.id with
 | none=>(s,0)
 | some k=>if c.from_≠(ptK s.act k).bytes.size then (s,30) else if (ptK s.act k).size<(ptK s.act k).bytes.size+c.text.size then (s,5) else ({ s with act:=s.act.set k (addB (ptK s.act k) c.text) },0)
def doneT (s:Tk) (c:Cm):Tk×List Txt×Int:=match rcvL s.act c.id with
 | none=>(s,[],0)
 | some k=>if ((ptK s.act k).bytes.size:Int)<(ptK s.act k).size then (s,[],4) else ({ s with act:=s.act.set k (endB (ptK s.act k)) },[((ptK s.act k).id,(ptK s.act k).bytes)],0)
def DSt (b:Nat) (_s s2:Tk) (F:List Nat) (va vk:SlV) (W:World) (u:World):Bool→Prop
 | false=>Below W.heap.size W u
 | true=>TkR b s2 F va vk u∧Kp F F W u
theorem DSt.read {b:Nat} {s s2:Tk} {F:List Nat} {va vk:SlV} {W u u':World} {d:Bool} (h:DSt b s s2 F va vk W u d) (hb:Below u.heap.size u u'):DSt b s s2 F va vk W u' d:=by
 cases d with
 | false=>exact Below.step h hb
 | true=>exact⟨h.1.keep hb,h.2.trans (Kp.of_below hb)⟩
structure TxW (W:World) (x:Txt) (g:Nat) (d:Bool) (u:World):Prop where
 bl:Below W.heap.size W u
 one:d=true→Sl u cTx (some ⟨g,0,none⟩) [x]∧W.heap.size≤g
theorem TxW.read {W:World} {x:Txt} {g:Nat} {d:Bool} {u u':World} (h:TxW W x g d u) (hb:Below u.heap.size u u'):TxW W x g d u':=⟨Below.step h.bl hb,fun hd=>⟨(h.one hd).1.keep hb,(h.one hd).2⟩⟩
set_option maxRecDepth 100000 in
set_option maxHeartbeats 3200000 in
theorem data38 (b:Nat) (s:Tk) (F:List Nat) (c:Cm) (w:World) (h:TkAt b s F w) (hn:s.act.length≤1000000) (hz:∀ p∈s.act,p.bytes.size≤1000000) (hc:c.text.size≤1000000) :
  Calls Tryz.prog 66 #[.pointer (some ⟨b,0,none⟩),vC c] w (HearP b (dataT s c).1 [] [] (dataT s c).2 F w):=by
 obtain⟨va,vk,h⟩:=h
 obtain⟨g,hg⟩:∃ g,w.heap.size=g:=⟨_,rfl⟩
 obtain⟨W1,hW1⟩:∃ W1,w.alloc (.cells (aC c) 74)=W1:=⟨_,rfl⟩
 have hb1:Below w.heap.size w W1:=by rw[← hW1];exact below_alloc _ _
 have hrow:Row W1 g (cC c) 74:=by rw[← hW1,← hg];exact Row.new w (cC c) _
 obtain⟨i1,i2⟩:=hrow.idC
 have hgF:g∉F∨True:=Or.inr trivial
 have H1:=Lib.hid (And.intro hrow (And.intro (h.keep hb1) hb1))
 have HV:=Lib.hid h
 clear hb1 h hrow hgF
 cases hr:rcvL s.act c.id with
 | none =>
  have e:dataT s c=(s,0):=by unfold dataT;rw[hr]
  rw[e]
  clear e
  have HRn:=Lib.hid hr
  clear hr
  go_enter Tryz.func66,Tryz.ntmps66
  go_wp2_with (go_at_call 101;refine (receiving63 b s F va vk c.id W1 H1.out.2.1 hn).mono ?_;rintro e w2 ⟨rfl,hb2⟩;have H2:=Lib.hid hb2;clear hb2;rw[HRn.out];simp only[rcvV])
  go_ret3
  exact HearP.none ⟨va,vk,H1.out.2.1.keep H2.out⟩ (Kp.of_below (Below.step H1.out.2.2 H2.out))
 | some k =>
  obtain⟨hk, -, -⟩:=rcv_some hr
  obtain⟨g0,hva⟩:=Own.ad0 (HV.out.oa) (fun e=>by rw[e] at hk;exact absurd hk (Nat.not_lt_zero _))
  obtain⟨p,hp⟩:∃ p,s.act[k]=p:=⟨_,rfl⟩
  have hpk:ptK s.act k=p:=(ptK_eq hk).trans hp
  have hv:rcvV va (some k)=.pointer (some ⟨g0,k * 35,none⟩):=by
   unfold rcvV
   rw[hva]
   show Value.pointer (some ((⟨g0,0,none⟩:Addr).add (k * 35)))=_
   rw[add_off,Nat.zero_add]
  have hsz:p.bytes.size≤1000000:=hz p (by rw[← hp];exact List.getElem_mem hk)
  have hat:∀ u,Below W1.heap.size W1 u→At u ⟨g0,k * 35,none⟩ (cA p):=by
   intro u hu
   obtain⟨ad,e1, -, -,hat⟩:=Sl.pt (Own.slOf (H1.out.2.1.keep hu).oa) hk
   rw[hva] at e1
   cases e1
   rw[add_off,Nat.zero_add,hp] at hat
   exact hat
  have e:dataT s c=(if c.from_≠p.bytes.size then (s,30) else if p.size<p.bytes.size+c.text.size then (s,5) else ({ s with act:=s.act.set k (addB p c.text) },0)):=by unfold dataT;rw[hr];dsimp only;rw[hpk]
  rw[e]
  clear e
  have HRS:=Lib.hid hr
  have HAT:=Lib.hid hat
  have HVV:=Lib.hid (And.intro hv (And.intro hva (And.intro hp hsz)))
  clear hr hat hv hva hpk hp

  by_cases h1:c.from_=p.bytes.size
  ·rw[if_neg (by intro h;exact h h1)]
   by_cases h2:p.size<p.bytes.size+c.text.size
   ·rw[if_pos h2]
    go_enter Tryz.func66,Tryz.ntmps66
    go_wp2_with (go_at_call 101;refine (receiving63 b s F va vk c.id W1 H1.out.2.1 hn).mono ?_;rintro e w2 ⟨rfl,hb2⟩;have H2:=Lib.hid (And.intro (H1.out.1.keep hb2) (And.intro (HAT.out w2 hb2) hb2));clear hb2;rw[HRS.out,HVV.out.1];have r34:=H2.out.2.1.f34;have r32:=H2.out.2.1.f32;have q35:=(H2.out.1.cell 35).trans (cC_at (aC_35 c));have q38:=(H2.out.1.cell 38).trans (cC_at (aC_38 c));rw[h1] at q35;dsimp only at r34 r32)
    go_quiet (fail)
    go_wp2
    go_quiet (fail)
    go_wp2
    go_ret3
    refine HearP.none (F':=F) ⟨va,vk,(H1.out.2.1.keep H2.out.2.2).keep ?_⟩ (Kp.of_below (Below.step (Below.step H1.out.2.2 H2.out.2.2) ?_)) <;> first|exact below_drewN _ _|exact Below.step (below_drewN _ _) (below_drewN _ _)
   ·rw[if_neg h2]
    go_enter Tryz.func66,Tryz.ntmps66
    go_wp2_with (go_at_call 101;refine (receiving63 b s F va vk c.id W1 H1.out.2.1 hn).mono ?_;rintro e w2 ⟨rfl,hb2⟩;have H2:=Lib.hid (And.intro (H1.out.1.keep hb2) (And.intro (HAT.out w2 hb2) hb2));clear hb2;rw[HRS.out,HVV.out.1];have r34:=H2.out.2.1.f34;have r32:=H2.out.2.1.f32;have q35:=(H2.out.1.cell 35).trans (cC_at (aC_35 c));have q38:=(H2.out.1.cell 38).trans (cC_at (aC_38 c));rw[h1] at q35;dsimp only at r34 r32)
    go_quiet (fail)
    go_wp2
    go_quiet (fail)
    go_wp2

    refine AnyO.wp_anyI (by kernel_rfl) (by kernel_rfl) (AnyO.InvG (σ:=Unit) (fun σ=>AnyO.pvL [some (.pointer (some ⟨g0,k * 35,none⟩)),some (.pointer (some ⟨g0,k * 35,none⟩)),some (.pointer (some ⟨g0,k * 35+34,none⟩)),some (.string p.bytes),some (.pointer (some ⟨g,38,none⟩)),some (.string c.text),some (.string (p.bytes++c.text)),some (.pointer (some ⟨g0,k * 35,none⟩)),some (.pointer (some ⟨g0,k * 35+34,none⟩)),none]) (fun _ D u=>DSt b s { s with act:=s.act.set k (addB p c.text) } F va vk w2 u (D 9))) (AnyO.InvG.start (g:=()) (Below.step (Below.step (below_drewN _ _) (below_drewN _ _)) (below_drew _))) ?_ ?_
    ·intro i hi
     have hi2:i=3∨i=5∨i=9∨i=0∨i=1∨i=2∨i=4∨i=6∨i=7∨i=8:=by simp only[List.size_toArray,List.length_cons,List.length_nil] at hi;omega
     clear hi
     rcases hi2 with rfl|rfl|rfl|rfl|rfl|rfl|rfl|rfl|rfl|rfl
     ·refine AnyO.I rfl [2] ?_;rintro D vs u σ Q h0 hC hp ac hb K hK
      have s41:_=_:=AnyO.sv 41 2 hb hp Q
      have hf6:=AnyO.fls (hC.out 6) h0 (by kernel_rfl)
      have hf7:=AnyO.fls (hC.out 7) h0 (by kernel_rfl)
      have hf9:=AnyO.fls (hC.out 9) hf6 (by kernel_rfl)
      have hst:=Q.out.2
      rw[show D 9=false from hf9] at hst
      have rr:=(HAT.out u (Below.step H2.out.2.2 hst)).f34
      dsimp only at rr
      clear hst hf9 hf6 hf7
      go_simp
      exact hK _ _ (AnyO.InvG.step (g:=σ) Q.out.1 rfl (DSt.read Q.out.2 (Below.refl _ _)))
     ·refine AnyO.I rfl [4] ?_;rintro D vs u σ Q h0 hC hp ac hb K hK
      have s43:_=_:=AnyO.sv 43 4 hb hp Q
      have hf6:=AnyO.fls (hC.out 6) h0 (by kernel_rfl)
      have hf7:=AnyO.fls (hC.out 7) h0 (by kernel_rfl)
      have hf9:=AnyO.fls (hC.out 9) hf6 (by kernel_rfl)
      have hst:=Q.out.2
      rw[show D 9=false from hf9] at hst
      have rr:=((H2.out.1.keep hst).cell 38).trans (cC_at (aC_38 c))
      clear hst hf9 hf6 hf7
      go_simp
      exact hK _ _ (AnyO.InvG.step (g:=σ) Q.out.1 rfl (DSt.read Q.out.2 (Below.refl _ _)))
     ·refine AnyO.I rfl [8,6,0,1,2,3,4,5,6] ?_;rintro D vs u σ Q h0 hC hp ac hb K hK
      have s47:_=_:=AnyO.sv 47 8 hb hp Q
      have s45:_=_:=AnyO.sv 45 6 hb hp Q
      have hst:=Q.out.2
      rw[show D 9=false from h0] at hst
      have hset:=((H1.out.2.1.keep H2.out.2.2).keep hst).setF HVV.out.2.1 k hk 34 (by decide) (.string (p.bytes++c.text)) (addB p c.text) (by rw[HVV.out.2.2.1];exact cA_set34 _ _)
      have ff:=hset.1
      have rr:=(HAT.out u (Below.step H2.out.2.2 hst)).f34
      dsimp only at rr
      have HS:=Lib.hid (And.intro hset.2.1 ((Kp.of_below hst).trans hset.2.2))
      clear hset hst
      go_simp
      exact hK undef _ (AnyO.InvG.step (g:=σ) Q.out.1 trivial HS.out)
     all_goals
      refine AnyO.J rfl ?_;rintro D vs u σ Q h0 hC hp ac hb K hK
      try have s7:ac.tmps[7]?.getD undef=.pointer (some ⟨g0,k * 35,none⟩):=by rw[hb.out];kernel_rfl
      try have s39:_=_:=AnyO.sv 39 0 hb hp Q
      try have s40:_=_:=AnyO.sv 40 1 hb hp Q
      try have s3:ac.tmps[3]?.getD undef=.pointer (some ⟨g,0,none⟩):=by rw[hb.out];kernel_rfl
      try have s42:_=_:=AnyO.sv 42 3 hb hp Q
      try have s44:_=_:=AnyO.sv 44 5 hb hp Q
      try have s46:_=_:=AnyO.sv 46 7 hb hp Q
      have hcat:¬ 9223372036854775807<p.bytes.size+c.text.size:=by have:=HVV.out.2.2.2;omega
      go_simp
      exact hK _ _ (AnyO.InvG.step (g:=σ) Q.out.1 rfl (DSt.read Q.out.2 (Below.refl _ _)))
    ·intro D vs u hI hD
     obtain⟨σ,hP,hW⟩:=hI
     have e0:_=_:=hP 0 (hD 0 (by decide))
     have e1:_=_:=hP 1 (hD 1 (by decide))
     have e2:_=_:=hP 2 (hD 2 (by decide))
     have e3:_=_:=hP 3 (hD 3 (by decide))
     have e4:_=_:=hP 4 (hD 4 (by decide))
     have e5:_=_:=hP 5 (hD 5 (by decide))
     have e6:_=_:=hP 6 (hD 6 (by decide))
     have e7:_=_:=hP 7 (hD 7 (by decide))
     have e8:_=_:=hP 8 (hD 8 (by decide))
     have hst:=hW
     rw[show D 9=true from hD 9 (by decide)] at hst
     have HST:=Lib.hid hst
     clear hst
     have HW:=Lib.hid hW
     clear hW hP hD
     rw[puts_range [some 39,some 40,some 41,some 42,some 43,some 44,some 45,some 46,some 47,none] (by kernel_rfl)]
     simp only[putL,Nat.reduceAdd,e0,e1,e2,e3,e4,e5,e6,e7,e8]
     clear e0 e1 e2 e3 e4 e5 e6 e7 e8
     go_simp
     go_wp2
     go_ret3
     exact HearP.none ⟨va,vk,HST.out.1⟩ ((Kp.of_below (Below.step H1.out.2.2 H2.out.2.2)).trans HST.out.2)

  ·rw[if_pos h1]
   go_enter Tryz.func66,Tryz.ntmps66
   go_wp2_with (go_at_call 101;refine (receiving63 b s F va vk c.id W1 H1.out.2.1 hn).mono ?_;rintro e w2 ⟨rfl,hb2⟩;have H2:=Lib.hid (And.intro (H1.out.1.keep hb2) (And.intro (HAT.out w2 hb2) hb2));clear hb2;rw[HRS.out,HVV.out.1];have r34:=H2.out.2.1.f34;have r32:=H2.out.2.1.f32;have q35:=(H2.out.1.cell 35).trans (cC_at (aC_35 c));have q38:=(H2.out.1.cell 38).trans (cC_at (aC_38 c));dsimp only at r34 r32)
   go_quiet (fail)
   go_wp2
   go_ret3
   refine HearP.none (F':=F) ⟨va,vk,(H1.out.2.1.keep H2.out.2.2).keep ?_⟩ (Kp.of_below (Below.step (Below.step H1.out.2.2 H2.out.2.2) ?_)) <;> first|exact below_drewN _ _|exact Below.step (below_drewN _ _) (below_drewN _ _)

end Go.Proofs.YtdkjgcfhepplbaaGreatDoor
