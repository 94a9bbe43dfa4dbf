/- bulletintop: receive. -/
import Derived.Test.YtdkjgcfhepplbaaGreatDoorMSs5
namespace Go.Proofs.YtdkjgcfhepplbaaGreatDoor
open Go.RowKit
theorem bl_mk (l:List UInt8):bl ⟨l.toArray⟩=l:=rfl
theorem SlF.cm {F:List Nat} {w:World} {A:Option Addr} {n cp:Nat} {cs:List Cm} (h:SlF F w cC (A,n,cp) cs) {k:Nat} (hk:k<cs.length):∃ ad,A=some ad∧∀ u,Below w.heap.size w u→okA u (ad.add (k * 39)) 39=true∧rdA u (ad.add (k * 39)) 39=vC cs[k]:=by
 obtain⟨ad,e,hat⟩:=Sl.at_ cC_length h.2.2.1 hk
 refine⟨ad,e,fun u hu=>?_⟩
 have h3:=(hat.keep hu).ok
 have h4:=(hat.keep hu).rd
 rw[cC_length] at h3 h4
 exact⟨h3,h4⟩
theorem SlF.tx {F:List Nat} {w:World} {A:Option Addr} {n cp:Nat} {ts:List Txt} (h:SlF F w cTx (A,n,cp) ts) {j:Nat} (hj:j<ts.length):∃ ad,A=some ad∧∀ u,Below w.heap.size w u→okA u (ad.add (j * 33)) 33=true∧rdA u (ad.add (j * 33)) 33=vTx ts[j]:=by
 obtain⟨ad,e,hat⟩:=Sl.at_ cTx_length h.2.2.1 hj
 refine⟨ad,e,fun u hu=>?_⟩
 have h3:=(hat.keep hu).ok
 have h4:=(hat.keep hu).rd
 rw[cTx_length] at h3 h4
 exact⟨h3,h4⟩
theorem SlF.txI {F:List Nat} {w:World} {A:Option Addr} {n cp:Nat} {ts:List Txt} (h:SlF F w cTx (A,n,cp) ts) {j:Nat} (hj:j<ts.length):∃ ad,A=some ad∧∀ u,Below w.heap.size w u→okA u (ad.add (j * 33)) 32=true∧rdA u (ad.add (j * 33)) 32=vI ts[j].1:=by
 obtain⟨ad,e,hat⟩:=Sl.at_ cTx_length h.2.2.1 hj
 refine⟨ad,e,fun u hu=>?_⟩
 have h1:=hat.keep hu
 have h2:At u (ad.add (j * 33)) (cI ts[j].1):=⟨h1.1,fun i v hv=>h1.2 i v (by
  unfold cTx
  rw[List.getElem?_append_left (List.getElem?_eq_some_iff.1 hv).1]
  exact hv)⟩
 have h3:=h2.ok
 have h4:=h2.rd
 rw[cI_length] at h3 h4
 exact⟨h3,h4⟩
theorem gt_new (u:World) (t:Txt):At (u.alloc (.cells (aTxs [t]) 47)) ⟨u.heap.size,0,none⟩ (cTx t) :=
 (Row.new u ([t].flatMap cTx) 47).at_ (n:=33) (by rw[List.drop_zero,List.flatMap_singleton,List.take_of_length_le (Nat.le_of_eq (cTx_length t))])
theorem own_blkA {A:Option Addr} {n c:Nat}:(Value.slice A n c).ownBlock=blkA A:=Option.ext fun g=>own_eq
theorem row47:(Tryz.prog.info? 47).map (fun i=>(i.zero.map (·.cells.size),i.size,i.bytes))=some (some 33,33,48):=by kernel_rfl
theorem cell_plain {u:World} {ad:Addr} {v:Value} (h:u.cell? ad=some v):u.cell? ⟨ad.block,ad.off,none⟩=some v:=by
 unfold World.cell? at h ⊢
 split at h
 ·rename_i heq
  rw[heq]
  split at h
  ·cases h
  ·exact h
 ·cases h
theorem SlF.qn {F:List Nat} {w:World} {A:Option Addr} {n cp:Nat} {qs:List Qn} (h:SlF F w cQn (A,n,cp) qs) {j:Nat} (hj:j<qs.length):∃ ad,A=some ad∧∀ u,Below w.heap.size w u→okA u (ad.add (j * 34)) 32=true∧rdA u (ad.add (j * 34)) 32=vI qs[j].1∧u.cell? ⟨(ad.add (j * 34)).block,(ad.add (j * 34)).off+33,none⟩=some (.int .i64 qs[j].2.2):=by
 obtain⟨ad,e,hat⟩:=Sl.at_ (fun x=>(by simp[cQn,cI_length]:(cQn x).length=34)) h.2.2.1 hj
 refine⟨ad,e,fun u hu=>?_⟩
 have h1:=hat.keep hu
 have h2:At u (ad.add (j * 34)) (cI qs[j].1):=⟨h1.1,fun i v hv=>h1.2 i v (by
  unfold cQn
  rw[List.getElem?_append_left (List.getElem?_eq_some_iff.1 hv).1]
  exact hv)⟩
 have h3:=h2.ok
 have h4:=h2.rd
 rw[cI_length] at h3 h4
 have h5:=h1.2 33 (.int .i64 qs[j].2.2) (by simp[cQn,cI_length,List.getElem?_append_right])
 have h6:=cell_plain h5
 rw[block_of_add] at h6
 exact⟨h3,h4,h6⟩
set_option maxRecDepth 100000 in
set_option maxHeartbeats 6400000 in
theorem receive22 (w0:World) (a:Sa) (ch:Int) (p p':Ps) (w:World) (h:SsAt w0 a ch p w) (hL:Laid w0) (hE:Sn.EffAt w0) (hR:RcvR ch p p') :
  Calls Tryz.prog 22 #[.pointer (some ⟨a.k,0,none⟩)] w fun e w'=>e=.returned (.tuple #[])∧SsAt w0 a ch p' w':=by
 obtain⟨G,gv,h⟩:=h
 obtain⟨cs,rest,f,cs2,rest2,g,hR⟩:=hR
 have k0:w.cell? ⟨a.k,0,none⟩=some (.pointer (some ⟨a.ln,0,none⟩)):=h.row.cell 0
 have HB:=Lib.hid h
 have HL:=Lib.hid (And.intro hL hE)
 have HR:=Lib.hid hR
 clear h hL hE hR
 go_enter Tryz.func22,Tryz.ntmps22
 go_wp2_with (first
  | (go_at_call 43;refine (HB.out.rcv1 HR.out.l5).mono ?_;rintro e w2 ⟨rfl,h2⟩;obtain⟨G2,gv2,h2, -⟩:=h2;have k5:w2.cell? ⟨a.k,5,none⟩=some (.pointer (some ⟨a.rr,0,none⟩)):=h2.row.cell 5;have H2:=Lib.hid h2;clear h2)
  | (go_at_call 44;refine (H2.out.feedR HL.out.1 ⟨(p.bs 5).toArray⟩ (by rw[bl_mk];exact HR.out.feed5) (by have:=HR.out.s5;rw[bl_size];exact this)).mono ?_;rintro e w3 ⟨⟨A,n,cp⟩,rfl,G3,gv3,h3, -,hv3⟩;have k7:w3.cell? ⟨a.k,7,none⟩=some (.bool false):=h3.row.cell 7;have f7:=h3.row.fz 7;have H3:=Lib.hid (And.intro h3 hv3);clear h3 hv3 H2))
 generalize hW4:World.setCell _ _ _=W4
 have hn:n=cs.length:=H3.out.2.1.symm
 have h4:SsR w0 a ch (f 0) G3 gv3 W4∧SlF (Gall G3) W4 cC (A,n,cp) cs:=by
  rw[← hW4,HR.out.f0]
  obtain⟨h5,h6⟩:=H3.out.1.setBrk
  exact⟨h5,H3.out.2.kp h6⟩
 have H4:=Lib.hid h4
 have HN:=Lib.hid hn
 have hnb:n≤1000000:=by rw[hn];exact HR.out.n5
 clear h4 hW4 hn H3 k7 f7 k5 k0
 go_wp2
 go_loopw [6] (fun i wr=>∃ (k:Nat) (G':Nat→List Nat) (gv':SlV),k≤n∧i=.int .i64 (k:Int)∧SsR w0 a ch (f k) G' gv' wr∧SlF (Gall G') wr cC (A,n,cp) cs) (fun i _=>n - (intOf i).toNat)
 case atStart=>exact⟨0,G3,gv3,Nat.zero_le _,rfl,H4.out.1,H4.out.2⟩
 case round =>
  clear H4
  obtain⟨k,G4,gv4,hk,rfl,h4,hv4⟩:=hrel
  by_cases hlt:k<n
  ·have hlk:(k:Int)<(n:Int):=by omega
   have hkl:k<cs.length:=by rw[← HN.out];exact hlt
   obtain⟨ad,rfl,hcm⟩:=hv4.cm hkl
   have hr:=HR.out.fs k hkl
   obtain⟨c,hc⟩:∃ c,cs[k]=c:=⟨_,rfl⟩
   rw[hc] at hcm hr
   obtain⟨s1,qs,ts,p2,hr⟩:=hr
   have HCM:=Lib.hid hcm
   have HC:Hid (∀ u,Below wr.heap.size wr u→Calls Tryz.prog 31 #[.pointer (some ⟨a.tk,0,none⟩),vC c] u fun e w'=>∃ q l:SlV,e=.returned (.tuple #[.slice q.1 q.2.1 q.2.2,.slice l.1 l.2.1 l.2.2,.int .i64 0])∧HrW w0 a ch { f k with tkr:=s1 } qs ts q l G4 wr w'):=Lib.hid fun u hb=>((h4.keep hb).hearAny HL.out.1 c hr.name hr.text hr.hear hr.done).mono fun e w' ⟨q,l,e1,h5⟩=>⟨q,l,e1,h5.under hb⟩
   have H4:=Lib.hid (And.intro h4 hv4)
   have HH:=Lib.hid hr
   clear h4 hv4 hr hcm hc
   go_wp2
   refine AnyO.wp_anyI (by kernel_rfl) (by kernel_rfl) (AnyO.InvG (σ:=SlV×SlV) (fun σ=>AnyO.pvL [some (.pointer (some ⟨a.k,0,none⟩)),some (.pointer (some ⟨a.k,0,none⟩)),some (.pointer (some ⟨a.k,3,none⟩)),some (.pointer (some ⟨a.tk,0,none⟩)),some (.slice (some ad) n cp),some (.int .i64 (k:Int)),some (.pointer (some (ad.add (k * 39)))),some (vC c),some (.tuple #[.slice σ.1.1 σ.1.2.1 σ.1.2.2,.slice σ.2.1 σ.2.2.1 σ.2.2.2,.int .i64 0]),some (.tuple #[.slice σ.1.1 σ.1.2.1 σ.1.2.2,.slice σ.2.1 σ.2.2.1 σ.2.2.2,.int .i64 0]),some (.slice σ.1.1 σ.1.2.1 σ.1.2.2),some (.slice σ.2.1 σ.2.2.1 σ.2.2.2),some (.int .i64 0),some (.slice σ.1.1 σ.1.2.1 σ.1.2.2),some (.slice σ.2.1 σ.2.2.1 σ.2.2.2),some (.int .i64 0)]) (fun σ D u=>W1 wr (fun (s:SlV×SlV) u=>HrW w0 a ch { f k with tkr:=s1 } qs ts s.1 s.2 G4 wr u) σ (D 8) u)) (AnyO.InvG.start (g:=((none,0,0),(none,0,0))) (below_drew wr)) ?_ ?_
   ·intro i hi
    have hi2:i=3∨i=7∨i=8∨i=0∨i=1∨i=2∨i=4∨i=5∨i=6∨i=9∨i=10∨i=11∨i=12∨i=13∨i=14∨i=15:=by simp only[List.size_toArray,List.length_cons,List.length_nil] at hi;omega
    clear hi
    rcases hi2 with rfl|rfl|rfl|rfl|rfl|rfl|rfl|rfl|rfl|rfl|rfl|rfl|rfl|rfl|rfl|rfl
    ·refine AnyO.I rfl [2] ?_;rintro D vs u σ Q h0 hC hp ac hb K hK
     have s55:_=_:=AnyO.sv 55 2 hb hp Q
     have hf8:=AnyO.fls (hC.out 8) h0 (by kernel_rfl)
     have hst:=Q.out.2
     rw[hf8] at hst
     have rr:=(H4.out.1.keep hst).row.cell 3
     have rr2:u.cell? ⟨a.k,3,none⟩=some (.pointer (some ⟨a.tk,0,none⟩)):=rr
     clear hst rr
     go_simp;exact hK _ _ (AnyO.InvG.step (g:=σ) Q.out.1 rfl Q.out.2)
    ·refine AnyO.I rfl [6] ?_;rintro D vs u σ Q h0 hC hp ac hb K hK
     have s59:_=_:=AnyO.sv 59 6 hb hp Q
     have hf8:=AnyO.fls (hC.out 8) h0 (by kernel_rfl)
     have hst:=Q.out.2
     rw[hf8] at hst
     obtain⟨rr1,rr2⟩:=HCM.out u hst
     clear hst
     go_simp;exact hK _ _ (AnyO.InvG.step (g:=σ) Q.out.1 rfl Q.out.2)
    ·refine AnyO.I rfl [3,7] ?_;rintro D vs u σ Q h0 hC hp ac hb K hK
     have s56:_=_:=AnyO.sv 56 3 hb hp Q
     have s60:_=_:=AnyO.sv 60 7 hb hp Q
     have hf9:=AnyO.fls (hC.out 9) h0 (by kernel_rfl)
     have hf10:=AnyO.fls (hC.out 10) hf9 (by kernel_rfl)
     have hf11:=AnyO.fls (hC.out 11) hf9 (by kernel_rfl)
     have hf13:=AnyO.fls (hC.out 13) hf10 (by kernel_rfl)
     have hf14:=AnyO.fls (hC.out 14) hf11 (by kernel_rfl)
     have hst:=Q.out.2
     rw[h0] at hst
     have HST:=Lib.hid hst
     clear hst
     go_simp
     go_at_call 31
     refine (HC.out u HST.out).mono ?_
     rintro e w2 ⟨q,l,rfl,hq⟩
     refine hK _ _ (AnyO.InvG.ghost (g:=σ) (q,l) Q.out.1 ?_ rfl ?_)
     ·intro j hj hq
      rcases j with _|_|_|_|_|_|_|_|_|_|_|_|_|_|_|_|j
      all_goals first|exact hq|exact absurd (show D 8=true from hj) (by rw[h0];decide)|exact absurd (show D 9=true from hj) (by rw[hf9];decide)|exact absurd (show D 10=true from hj) (by rw[hf10];decide)|exact absurd (show D 11=true from hj) (by rw[hf11];decide)|exact absurd (show D 13=true from hj) (by rw[hf13];decide)|exact absurd (show D 14=true from hj) (by rw[hf14];decide)
     rw[show AnyO.addD D 8 8=true from rfl]
     exact hq
    all_goals
     refine AnyO.J rfl ?_;rintro D vs u σ Q h0 hC hp ac hb K hK
     try have s0:ac.tmps[0]?.getD undef=.pointer (some ⟨a.k,0,none⟩):=by rw[hb.out];kernel_rfl
     try have s53:_=_:=AnyO.sv 53 0 hb hp Q
     try have s54:_=_:=AnyO.sv 54 1 hb hp Q
     try have s4:ac.tmps[4]?.getD undef=.slice (some ad) n cp:=by rw[hb.out];kernel_rfl
     try have s6:ac.tmps[6]?.getD undef=.int .i64 (k:Int):=by rw[hb.out];kernel_rfl
     try have s57:_=_:=AnyO.sv 57 4 hb hp Q
     try have s58:_=_:=AnyO.sv 58 5 hb hp Q
     try have s61:_=_:=AnyO.sv 61 8 hb hp Q
     try have s52:_=_:=AnyO.sv 52 9 hb hp Q
     try have s62:_=_:=AnyO.sv 62 10 hb hp Q
     try have s63:_=_:=AnyO.sv 63 11 hb hp Q
     try have s64:_=_:=AnyO.sv 64 12 hb hp Q
     go_simp
     exact hK _ _ (AnyO.InvG.step (g:=σ) Q.out.1 rfl Q.out.2)
   ·intro D vs u hI hD
    obtain⟨σ,hP,hW⟩:=hI
    have e0:_=_:=hP 0 (hD 0 (by decide))
    have e1:_=_:=hP 1 (hD 1 (by decide))
    have e2:_=_:=hP 2 (hD 2 (by decide))
    have e3:_=_:=hP 3 (hD 3 (by decide))
    have e4:_=_:=hP 4 (hD 4 (by decide))
    have e5:_=_:=hP 5 (hD 5 (by decide))
    have e6:_=_:=hP 6 (hD 6 (by decide))
    have e7:_=_:=hP 7 (hD 7 (by decide))
    have e8:_=_:=hP 8 (hD 8 (by decide))
    have e9:_=_:=hP 9 (hD 9 (by decide))
    have e10:_=_:=hP 10 (hD 10 (by decide))
    have e11:_=_:=hP 11 (hD 11 (by decide))
    have e12:_=_:=hP 12 (hD 12 (by decide))
    have e13:_=_:=hP 13 (hD 13 (by decide))
    have e14:_=_:=hP 14 (hD 14 (by decide))
    have e15:_=_:=hP 15 (hD 15 (by decide))
    rw[show D 8=true from hD 8 (by decide)] at hW
    have HW:=Lib.hid hW
    clear hW hP hD
    rw[puts_range [some 53,some 54,some 55,some 56,some 57,some 58,some 59,some 60,some 61,some 52,some 62,some 63,some 64,some 7,some 8,some 9] (by kernel_rfl)]
    simp only[putL,Nat.reduceAdd,e0,e1,e2,e3,e4,e5,e6,e7,e8,e9,e10,e11,e12,e13,e14,e15]
    clear e0 e1 e2 e3 e4 e5 e6 e7 e8 e9 e10 e11 e12 e13 e14 e15
    obtain⟨⟨qA,qn,qc⟩,lA,ln,lc⟩:=σ
    obtain⟨G5,gv5,h5,hk5,hq5,hl5⟩:=HW.out
    have k7:u.cell? ⟨a.k,7,none⟩=some (.bool false):=h5.row.cell 7
    have f7:=h5.row.fz 7
    have hqn:qn=qs.length:=hq5.1.symm
    have hln:ln=ts.length:=hl5.1.symm
    have hv5:=H4.out.2.kp hk5
    have H5:=Lib.hid (And.intro h5 (And.intro hv5 (And.intro hq5 hl5)))
    have HQN:=Lib.hid (And.intro hqn hln)
    clear h5 hk5 hq5 hl5 hqn hln hv5 HW H4 HC HCM
    go_simp
    go_wp2
    generalize hW7:World.setCell _ _ _=W7
    have h7:SsR w0 a ch { f k with tkr:=s1 } G5 gv5 W7∧SlF (Gall G5) W7 cC (some ad,n,cp) cs∧SlF [a.k] W7 cQn (qA,qn,qc) qs∧SlF (Gall G5) W7 cTx (lA,ln,lc) ts:=by
     rw[← hW7]
     obtain⟨h6,h7⟩:=H5.out.1.setBrk
     exact⟨h6,H5.out.2.1.kp h7,H5.out.2.2.1.kp (Kp.of_one (One.set 7 _) (List.mem_singleton.2 rfl)),H5.out.2.2.2.kp h7⟩
    have H7:=Lib.hid h7
    clear h7 hW7 H5 k7 f7
    go_wp2
    obtain⟨wo,rfl⟩:∃ x,x=wr:=⟨_,rfl⟩
    go_loopw [10] (fun i wr5=>∃ (j:Nat) (G':Nat→List Nat) (gv':SlV) (pj:Ps),j≤qn∧i=.int .i64 (j:Int)∧SsR w0 a ch pj G' gv' wr5∧SlF (Gall G') wr5 cC (some ad,n,cp) cs∧SlF (Gall G') wr5 cTx (lA,ln,lc) ts∧(j<qn→j=0∧pj={ f k with tkr:=s1 }∧SlF [a.k] wr5 cQn (qA,qn,qc) qs)∧(¬ j<qn→pj=p2)) (fun i _=>qn - (intOf i).toNat)
    case atStart =>
     refine⟨0,G5,gv5,_,Nat.zero_le _,rfl,H7.out.1,H7.out.2.1,H7.out.2.2.2,fun _=>⟨rfl,rfl,H7.out.2.2.1⟩,fun hz=>?_⟩
     rcases HH.out.ask with⟨-,e⟩|⟨x,e, -⟩
     ·exact e.symm
     ·rw[HQN.out.1,e] at hz
      exact absurd Nat.zero_lt_one hz
    case round =>
     clear H7
     obtain⟨j,G6,gv6,pj,hj,rfl,h6,hv6,hl6,hq6,hp6⟩:=hrel
     by_cases hlj:j<qn
     ·have hlji:(j:Int)<(qn:Int):=by omega
      obtain⟨hj0,rfl,hqx⟩:=hq6 hlj
      clear hp6
      rcases HH.out.ask with⟨e, -⟩|⟨x,e,hask⟩
      ·rw[HQN.out.1,e] at hlj
       exact absurd hlj (Nat.not_lt_zero _)
      have hjl:j<qs.length:=by rw[← HQN.out.1];exact hlj
      have hxj:qs[j]=x:=by subst e;subst hj0;rfl
      have hqn1:qn=1:=by rw[HQN.out.1,e];rfl
      have hjb:j≤1000000:=by omega
      obtain⟨aq,rfl,hqr⟩:=hqx.qn hjl
      rw[hxj] at hqr
      obtain⟨hgl,s2,c2,hans,hsay,hp2⟩:=hask
      obtain⟨got,hgot⟩:∃ g,(f k).got=g:=⟨_,rfl⟩
      have hans:answerT s1 (ansC got x)=(s2,c2,0):=by rw[← hgot];exact hans
      have HA:=Lib.hid (And.intro hans (And.intro hsay (And.intro hp2 (And.intro hgot (And.intro hj0 (And.intro hqn1 hgl))))))
      have H6:=Lib.hid (And.intro h6 (And.intro hv6 hl6))
      have HQ:=Lib.hid hqr
      clear h6 hv6 hl6 hq6 hqx hqr hxj hans hsay hp2 hgot hgl hj0 hqn1 e
      go_wp2
      refine AnyO.wp_anyI (by kernel_rfl) (by kernel_rfl) (AnyO.InvG (σ:=Nat) (fun σ=>AnyO.pvL [some (.slice (some aq) qn qc),some (.int .i64 (j:Int)),some (.pointer (some (aq.add (j * 34)))),some (.pointer (some (aq.add (j * 34)))),some (vI x.1),some (.slice (some aq) qn qc),some (.int .i64 (j:Int)),some (.pointer (some (aq.add (j * 34)))),some (.pointer (some ⟨(aq.add (j * 34)).block,(aq.add (j * 34)).off+33,none⟩)),some (.int .i64 x.2.2),some (vC (wantC x.1 x.2.2)),some (.pointer (some ⟨σ,0,none⟩)),none]) (fun σ D u=>CbW wr (wantC x.1 x.2.2) σ (D 11) (D 12) u)) (AnyO.InvG.start (g:=0) (CbW.start (below_drew wr))) ?_ ?_
      ·intro i hi
       have hi2:i=11∨i=12∨i=0∨i=1∨i=2∨i=3∨i=4∨i=5∨i=6∨i=7∨i=8∨i=9∨i=10:=by simp only[List.size_toArray,List.length_cons,List.length_nil] at hi;omega
       clear hi
       rcases hi2 with rfl|rfl|rfl|rfl|rfl|rfl|rfl|rfl|rfl|rfl|rfl|rfl|rfl
       ·refine AnyO.I rfl [] ?_;rintro D vs u σ Q h0 hC hp ac hb K hK
        have hf12:=AnyO.fls (hC.out 12) h0 (by kernel_rfl)
        have hst:=Q.out.2
        rw[h0,hf12] at hst
        have HST:=Lib.hid hst
        clear hst
        go_simp
        refine hK _ _ (AnyO.InvG.ghost (g:=σ) u.heap.size Q.out.1 ?_ rfl ?_)
        ·intro j hj hq
         rcases j with _|_|_|_|_|_|_|_|_|_|_|_|_|j
         all_goals first|exact hq|exact absurd (show D 11=true from hj) (by rw[h0];decide)|exact absurd (show D 12=true from hj) (by rw[hf12];decide)
        rw[show AnyO.addD D 11 11=true from rfl,show AnyO.addD D 11 12=D 12 from rfl,hf12]
        exact HST.out.made
       ·refine AnyO.I rfl [11,10,0,1,2,3,4,5,6,7,8,9,10,11] ?_;rintro D vs u σ Q h0 hC hp ac hb K hK
        have s11:_=_:=AnyO.sv 11 11 hb hp Q
        have s92:_=_:=AnyO.sv 92 10 hb hp Q
        have hp11:D 11=true:=hp.out 11 (by decide)
        have hst:=Q.out.2
        rw[hp11,h0] at hst
        have rr1:=Row.rowOk' (hst.a1 rfl rfl) (cC_length _)
        have HST:=Lib.hid hst
        clear hst
        go_simp
        exact hK undef _ (AnyO.InvG.step (g:=σ) Q.out.1 trivial (by rw[show AnyO.addD D 12 11=D 11 from rfl,hp11,show AnyO.addD D 12 12=true from rfl];exact HST.out.put))
       all_goals
        refine AnyO.J rfl ?_;rintro D vs u σ Q h0 hC hp ac hb K hK
        try have s7:ac.tmps[7]?.getD undef=.slice (some aq) qn qc:=by rw[hb.out];kernel_rfl
        try have s10:ac.tmps[10]?.getD undef=.int .i64 (j:Int):=by rw[hb.out];kernel_rfl
        try have s82:_=_:=AnyO.sv 82 0 hb hp Q
        try have s83:_=_:=AnyO.sv 83 1 hb hp Q
        try have s84:_=_:=AnyO.sv 84 2 hb hp Q
        try have s85:_=_:=AnyO.sv 85 3 hb hp Q
        try have s87:_=_:=AnyO.sv 87 5 hb hp Q
        try have s88:_=_:=AnyO.sv 88 6 hb hp Q
        try have s89:_=_:=AnyO.sv 89 7 hb hp Q
        try have s90:_=_:=AnyO.sv 90 8 hb hp Q
        try have s86:_=_:=AnyO.sv 86 4 hb hp Q
        try have s91:_=_:=AnyO.sv 91 9 hb hp Q
        obtain⟨rr1,rr2,rr3⟩:=HQ.out u Q.out.2.bl
        go_simp
        exact hK _ _ (AnyO.InvG.step (g:=σ) Q.out.1 rfl Q.out.2)
      ·intro D vs u hI hD
       obtain⟨σ,hP,hW⟩:=hI
       have e0:_=_:=hP 0 (hD 0 (by decide))
       have e1:_=_:=hP 1 (hD 1 (by decide))
       have e2:_=_:=hP 2 (hD 2 (by decide))
       have e3:_=_:=hP 3 (hD 3 (by decide))
       have e4:_=_:=hP 4 (hD 4 (by decide))
       have e5:_=_:=hP 5 (hD 5 (by decide))
       have e6:_=_:=hP 6 (hD 6 (by decide))
       have e7:_=_:=hP 7 (hD 7 (by decide))
       have e8:_=_:=hP 8 (hD 8 (by decide))
       have e9:_=_:=hP 9 (hD 9 (by decide))
       have e10:_=_:=hP 10 (hD 10 (by decide))
       have e11:_=_:=hP 11 (hD 11 (by decide))
       rw[show D 11=true from hD 11 (by decide),show D 12=true from hD 12 (by decide)] at hW
       have HW:=Lib.hid hW
       clear hW hP hD
       rw[puts_range [some 82,some 83,some 84,some 85,some 86,some 87,some 88,some 89,some 90,some 91,some 92,some 11,none] (by kernel_rfl)]
       simp only[putL,Nat.reduceAdd,e0,e1,e2,e3,e4,e5,e6,e7,e8,e9,e10,e11]
       clear e0 e1 e2 e3 e4 e5 e6 e7 e8 e9 e10 e11
       have hrow:Row u σ (cC (wantC x.1 x.2.2)) 74:=HW.out.a2 rfl
       have hbl:=HW.out.bl
       have hgx:=HW.out.nw rfl
       obtain⟨g1,hg1⟩:∃ g1,σ=g1:=⟨_,rfl⟩
       rw[hg1] at hrow hgx
       obtain⟨q4,q5, -⟩:=HQ.out u hbl
       have HB9:=Lib.hid (And.intro hrow (And.intro hbl hgx))
       clear hrow hbl hgx HW
       go_simp
       rcases hhs:hasG x.1 got with _|_
       all_goals
        go_wp2_with (go_at_call 45;refine (has45 w0 a ch _ u ⟨_,_,H6.out.1.keep HB9.out.2.1⟩ x.1 HA.out.2.2.2.2.2.2).mono ?_;rintro e w8 ⟨rfl,hb8⟩;rw[show hasG x.1 ({ f k with tkr:=s1 }:Ps).got=_ from (congrArg (hasG x.1) HA.out.2.2.2.1).trans hhs];obtain⟨q6,q7, -⟩:=HQ.out w8 (Below.step HB9.out.2.1 hb8);have r9:=Row.rowOk' (HB9.out.1.keep hb8) (cC_length _))
       all_goals
        obtain⟨W9,an,h9,hN9⟩:∃ (W9:World) (an:Cm),(ansC got x=an∧Below wr.heap.size wr W9∧Row W9 g1 (cC an) 74)∧an.name.size≤1000000∧(an.verb=3∨an.verb=4)∧W9=(if hasG x.1 got=true then w8.setRow g1 (aC (haveC x.1)) else w8):=by
         have hb9:=Below.step HB9.out.2.1 hb8
         by_cases hh:hasG x.1 got=true
         ·refine⟨_,haveC x.1,⟨by unfold ansC;rw[if_pos hh],?_,Row.setRow (HB9.out.1.keep hb8) (cC (haveC x.1))⟩,(by show (⟨#[]⟩:ByteArray).size≤1000000;decide),Or.inr rfl,by rw[if_pos hh];rfl⟩
          have ho:One g1 w8 (w8.setRow g1 (aC (haveC x.1))):=One.setRow _ _
          exact Below.trans hb9 (ho.below HB9.out.2.2 hb9.size)
         ·exact⟨_,wantC x.1 x.2.2,⟨by unfold ansC;rw[if_neg hh],hb9,HB9.out.1.keep hb8⟩,(by show (⟨#[]⟩:ByteArray).size≤1000000;decide),Or.inl rfl,by rw[if_neg hh]⟩
        obtain⟨hN9,hV9,hW9⟩:=hN9
        rw[hhs] at hW9
        first
         | (rw[if_pos rfl] at hW9
            generalize hWW:World.setRow _ _ _=WW
            obtain rfl:W9=WW:=hW9.trans hWW)
         | (rw[if_neg (by decide)] at hW9
            subst hW9)
        obtain⟨h9,h9b,h9r⟩:=h9
        have HA9:=Lib.hid (show answerT s1 an=(s2,c2,0) by rw[← h9];exact HA.out.1)
        have HN9:=Lib.hid hN9
        have HV9:=Lib.hid hV9
        have H9:=Lib.hid (And.intro (H6.out.1.keep h9b) (And.intro (H6.out.2.1.keep h9b) (And.intro (H6.out.2.2.keep h9b) h9r)))
        clear h9 h9b h9r hN9 hV9 H6 HQ q4 q5 q6 q7 r9 HB9
        go_wp2
        refine AnyO.wp_anyI (by kernel_rfl) (by kernel_rfl) (AnyO.InvG (σ:=(Nat→List Nat)×Nat) (fun σ=>AnyO.pvL [some (.pointer (some ⟨a.k,0,none⟩)),some (.pointer (some ⟨a.k,0,none⟩)),some (.pointer (some ⟨a.k,3,none⟩)),some (.pointer (some ⟨a.tk,0,none⟩)),some (vC an),some (.tuple #[vC c2,.int .i64 0]),some (.tuple #[vC c2,.int .i64 0]),some (vC c2),some (.int .i64 0),some (.pointer (some ⟨σ.2,0,none⟩)),none,some (.int .i64 0)]) (fun σ D u=>AnW w0 a ch { f k with tkr:=s2 } gv6 W9 G6 c2 σ (D 5) (D 9) (D 10) u)) (AnyO.InvG.start (g:=(G6,0)) (AnW.start (below_drew _))) ?_ ?_
        ·intro i hi
         have hi2:i=3∨i=4∨i=5∨i=9∨i=10∨i=0∨i=1∨i=2∨i=6∨i=7∨i=8∨i=11:=by simp only[List.size_toArray,List.length_cons,List.length_nil] at hi;omega
         clear hi
         rcases hi2 with rfl|rfl|rfl|rfl|rfl|rfl|rfl|rfl|rfl|rfl|rfl|rfl
         ·refine AnyO.I rfl [2] ?_;rintro D vs u σ Q h0 hC hp ac hb K hK
          have s109:_=_:=AnyO.sv 109 2 hb hp Q
          have hf5:=AnyO.fls (hC.out 5) h0 (by kernel_rfl)
          have hst:=Q.out.2.s0 hf5
          have rr:=(H9.out.1.keep hst).row.cell 3
          have rr2:u.cell? ⟨a.k,3,none⟩=some (.pointer (some ⟨a.tk,0,none⟩)):=rr
          clear hst rr
          go_simp;exact hK _ _ (AnyO.InvG.step (g:=σ) Q.out.1 rfl Q.out.2)
         ·refine AnyO.I rfl [] ?_;rintro D vs u σ Q h0 hC hp ac hb K hK
          have s11:=AnyO.sz (v:=.pointer (some ⟨g1,0,none⟩)) 11 hb
          have hf5:=AnyO.fls (hC.out 5) h0 (by kernel_rfl)
          have hst:=Q.out.2.s0 hf5
          have rw0:=Row.okw (H9.out.2.2.2.keep hst) (cC_length _)
          have rr1:=rw0.1
          have rr2:rdA u ⟨g1,0,none⟩ 39=vC an:=rw0.2
          clear rw0
          clear hst
          go_simp;exact hK _ _ (AnyO.InvG.step (g:=σ) Q.out.1 rfl Q.out.2)
         ·refine AnyO.I rfl [3,4] ?_;rintro D vs u σ Q h0 hC hp ac hb K hK
          have s110:_=_:=AnyO.sv 110 3 hb hp Q
          have s111:_=_:=AnyO.sv 111 4 hb hp Q
          have hf6:=AnyO.fls (hC.out 6) h0 (by kernel_rfl)
          have hf7:=AnyO.fls (hC.out 7) hf6 (by kernel_rfl)
          have hf10:=AnyO.fls (hC.out 10) hf7 (by kernel_rfl)
          have hst:=Q.out.2
          rw[h0,hf10] at hst
          have HST:=Lib.hid hst
          clear hst
          go_simp
          go_at_call 32
          have ha9:=HA9.out
          refine ((H9.out.1.keep (HST.out.s0 rfl)).answer HL.out.1 an HN9.out (congrArg (fun z=>z.2.2) ha9) HV9.out).mono ?_
          rintro e w2 ⟨rfl,G9,h9,hk9⟩
          rw[show (answerT ({ f k with tkr:=s1 }:Ps).tkr an)=(s2,c2,0) from ha9] at h9 ⊢
          refine hK _ _ (AnyO.InvG.ghost (g:=σ) (G9,σ.2) Q.out.1 ?_ rfl ?_)
          ·intro j hj hq
           rcases j with _|_|_|_|_|_|_|_|_|_|_|_|j
           all_goals first|exact hq|exact absurd (show D 5=true from hj) (by rw[h0];decide)|exact absurd (show D 6=true from hj) (by rw[hf6];decide)|exact absurd (show D 7=true from hj) (by rw[hf7];decide)|exact absurd (show D 10=true from hj) (by rw[hf10];decide)
          rw[show AnyO.addD D 5 5=true from rfl,show AnyO.addD D 5 9=D 9 from rfl,show AnyO.addD D 5 10=D 10 from rfl,hf10]
          exact HST.out.called H9.out.1.lt h9 hk9
         ·refine AnyO.I rfl [] ?_;rintro D vs u σ Q h0 hC hp ac hb K hK
          have hf10:=AnyO.fls (hC.out 10) h0 (by kernel_rfl)
          have hst:=Q.out.2
          rw[h0,hf10] at hst
          have HST:=Lib.hid hst
          clear hst
          go_simp
          refine hK _ _ (AnyO.InvG.ghost (g:=σ) (σ.1,u.heap.size) Q.out.1 ?_ rfl ?_)
          ·intro j hj hq
           rcases j with _|_|_|_|_|_|_|_|_|_|_|_|j
           all_goals first|exact hq|exact absurd (show D 9=true from hj) (by rw[h0];decide)|exact absurd (show D 10=true from hj) (by rw[hf10];decide)
          rw[show AnyO.addD D 9 9=true from rfl,show AnyO.addD D 9 5=D 5 from rfl,show AnyO.addD D 9 10=D 10 from rfl,hf10]
          exact HST.out.made
         ·refine AnyO.I rfl [9,7,5,0,1,2,3,4,5,6,7,9] ?_;rintro D vs u σ Q h0 hC hp ac hb K hK
          have s12:_=_:=AnyO.sv 12 9 hb hp Q
          have s113:_=_:=AnyO.sv 113 7 hb hp Q
          have hp5:D 5=true:=hp.out 5 (by decide)
          have hp9:D 9=true:=hp.out 9 (by decide)
          have hst:=Q.out.2
          rw[hp5,hp9,h0] at hst
          have rr1:=Row.rowOk' (hst.al rfl rfl) (cC_length _)
          have HST:=Lib.hid hst
          clear hst
          go_simp
          exact hK undef _ (AnyO.InvG.step (g:=σ) Q.out.1 trivial (by rw[show AnyO.addD D 10 5=D 5 from rfl,hp5,show AnyO.addD D 10 9=D 9 from rfl,hp9,show AnyO.addD D 10 10=true from rfl];exact HST.out.put H9.out.1.gp.bel.size))
         all_goals
          refine AnyO.J rfl ?_;rintro D vs u σ Q h0 hC hp ac hb K hK
          try have s0:ac.tmps[0]?.getD undef=.pointer (some ⟨a.k,0,none⟩):=by rw[hb.out];kernel_rfl
          try have s107:_=_:=AnyO.sv 107 0 hb hp Q
          try have s108:_=_:=AnyO.sv 108 1 hb hp Q
          try have s112:_=_:=AnyO.sv 112 5 hb hp Q
          try have s106:_=_:=AnyO.sv 106 6 hb hp Q
          try have s114:_=_:=AnyO.sv 114 8 hb hp Q
          go_simp
          exact hK _ _ (AnyO.InvG.step (g:=σ) Q.out.1 rfl Q.out.2)
        ·intro D vs u hI hD
         obtain⟨σ,hP,hW⟩:=hI
         have e0:_=_:=hP 0 (hD 0 (by decide))
         have e1:_=_:=hP 1 (hD 1 (by decide))
         have e2:_=_:=hP 2 (hD 2 (by decide))
         have e3:_=_:=hP 3 (hD 3 (by decide))
         have e4:_=_:=hP 4 (hD 4 (by decide))
         have e5:_=_:=hP 5 (hD 5 (by decide))
         have e6:_=_:=hP 6 (hD 6 (by decide))
         have e7:_=_:=hP 7 (hD 7 (by decide))
         have e8:_=_:=hP 8 (hD 8 (by decide))
         have e9:_=_:=hP 9 (hD 9 (by decide))
         have e11:_=_:=hP 11 (hD 11 (by decide))
         rw[show D 5=true from hD 5 (by decide),show D 9=true from hD 9 (by decide),show D 10=true from hD 10 (by decide)] at hW
         have HW:=Lib.hid hW
         clear hW hP hD
         rw[puts_range [some 107,some 108,some 109,some 110,some 111,some 112,some 106,some 113,some 114,some 12,none,some 13] (by kernel_rfl)]
         simp only[putL,Nat.reduceAdd,e0,e1,e2,e3,e4,e5,e6,e7,e8,e9,e11]
         clear e0 e1 e2 e3 e4 e5 e6 e7 e8 e9 e11
         obtain⟨G10,g2⟩:=σ
         obtain⟨h10,hk10⟩:=HW.out.s1 rfl
         have hr10:Row u g2 (cC c2) 74:=HW.out.st rfl
         have hg10:g2∉Gall G10:=HW.out.nG rfl rfl
         have k7:u.cell? ⟨a.k,7,none⟩=some (.bool false):=h10.row.cell 7
         have f7:=h10.row.fz 7
         have hak:a.k∈Gall G10:=mem_Gall.2 ⟨0,by decide,h10.l0⟩
         have hr11:Row (u.setCell ⟨a.k,7,none⟩ (.bool false)) g2 (cC c2) 74:=(One.set (w:=u) (g:=a.k) 7 (.bool false)).row hr10 (fun e=>hg10 (e▸hak))
         obtain⟨r11,r12⟩:=Row.okw hr11 (cC_length _)
         have r12:rdA (u.setCell ⟨a.k,7,none⟩ (.bool false)) ⟨g2,0,none⟩ 39=vC c2:=r12
         have H10:=Lib.hid (And.intro h10 (And.intro (H9.out.2.1.kp hk10) (H9.out.2.2.1.kp hk10)))
         clear h10 hk10 hr10 hr11 hg10 hak HW H9
         go_simp
         go_wp2_with (go_at_call 24;obtain⟨h11,hk11⟩:=H10.out.1.setBrk;refine (say24_1 w0 a ch _ G10 gv6 _ h11 HL.out.1 c2 HA.out.2.1.chk HA.out.2.1.ok HA.out.2.1.up HA.out.2.1.room).mono ?_;rintro e w12 ⟨rfl,G12,gv12,h12,hk12⟩;have H12:=Lib.hid (And.intro h12 (And.intro ((H10.out.2.1.kp hk11).kp hk12) ((H10.out.2.2.kp hk11).kp hk12)));clear h11 hk11 h12 hk12 H10 r11 r12 k7 f7)
         go_roundw
         case rel=>exact⟨j+1,G12,gv12,p2,hlj,by go_num,by rw[HA.out.2.2.1];exact H12.out.1,H12.out.2.1,H12.out.2.2,fun e=>absurd e (by rw[HA.out.2.2.2.2.1,HA.out.2.2.2.2.2.1];decide),fun _=>rfl⟩
         case measure=>simp[intOf] <;> omega
     ·have hpj:pj=p2:=hp6 hlj
      subst hpj
      have H6:=Lib.hid (And.intro h6 (And.intro hv6 hl6))
      clear h6 hv6 hl6 hq6 hp6
      have hlji:¬ (j:Int)<(qn:Int):=by omega
      go_wp2
      obtain⟨wq,rfl⟩:∃ x,x=wr:=⟨_,rfl⟩
      go_loopw [14] (fun i wr6=>∃ (j:Nat) (G':Nat→List Nat) (gv':SlV) (pk:Ps),j≤ln∧i=.int .i64 (j:Int)∧SsR w0 a ch pk G' gv' wr6∧SlF (Gall G') wr6 cC (some ad,n,cp) cs∧(j<ln→j=0∧pk=pj∧SlF (Gall G') wr6 cTx (lA,ln,lc) ts)∧(¬ j<ln→pk=f (k+1))) (fun i _=>ln - (intOf i).toNat)
      case atStart =>
       refine⟨0,G6,gv6,_,Nat.zero_le _,rfl,H6.out.1,H6.out.2.1,fun _=>⟨rfl,rfl,H6.out.2.2⟩,fun hz=>?_⟩
       rcases HH.out.take with⟨-,e⟩|⟨x,e, -⟩
       ·exact e.symm
       ·rw[HQN.out.2,e] at hz
        exact absurd Nat.zero_lt_one hz
      case round =>
       clear H6
       obtain⟨p2,rfl⟩:∃ x,x=pj:=⟨_,rfl⟩
       obtain⟨i,G6,⟨Ag,ng,cg⟩,pk,hi,rfl,h6,hv6,hl6,hp6⟩:=hrel
       by_cases hli:i<ln
       ·have hlii:(i:Int)<(ln:Int):=by omega
        obtain⟨hi0,hpk,hlx⟩:=hl6 hli
        rw[hpk] at h6
        clear hp6 hpk
        rcases HH.out.take with⟨e, -⟩|⟨t,e,htk⟩
        ·rw[HQN.out.2,e] at hli
         exact absurd hli (Nat.not_lt_zero _)
        have hil:i<ts.length:=by rw[← HQN.out.2];exact hli
        have hti:ts[i]=t:=by subst e;subst hi0;rfl
        have hln1:ln=1:=by rw[HQN.out.2,e];rfl
        have hib:i≤1000000:=by omega
        obtain⟨al,rfl,hlr⟩:=hlx.tx hil
        rw[hti] at hlr
        obtain⟨hgl,s2,c2,hacc,hsay,hp2⟩:=htk
        have HA:=Lib.hid (And.intro hacc (And.intro hsay (And.intro hp2 (And.intro hi0 (And.intro hln1 hgl)))))
        have hngl:ng=p2.got.length:=by
         obtain⟨A',c',e1, -, -⟩:=h6.got.sl
         have e2:Ag=A'∧ng=p2.got.length∧cg=c':=by simpa using e1
         exact e2.2.1
        have HGL:=Lib.hid (And.intro hngl hgl)
        have H6:=Lib.hid (And.intro h6 (And.intro hv6 hlx))
        have HT:=Lib.hid hlr
        have HTI:=Lib.hid hti
        clear h6 hv6 hl6 hlx hlr hti hacc hsay hp2 hgl hi0 hln1 hngl e pk
        go_wp2
        refine AnyO.wp_anyI (by kernel_rfl) (by kernel_rfl) (AnyO.InvG (σ:=Nat×SlV) (fun σ=>AnyO.pvL [some (.pointer (some ⟨a.k,0,none⟩)),some (.pointer (some ⟨a.k,0,none⟩)),some (.pointer (some ⟨a.k,0,none⟩)),some (.pointer (some ⟨a.k,6,none⟩)),some (.slice Ag ng cg),some (.slice (some al) ln lc),some (.int .i64 (i:Int)),some (.pointer (some (al.add (i * 33)))),some (vTx t),some (.slice (some ⟨σ.1,0,none⟩) 1 1),some (.slice σ.2.1 σ.2.2.1 σ.2.2.2),some (.pointer (some ⟨a.k,0,none⟩)),some (.pointer (some ⟨a.k,6,none⟩)),none]) (fun σ D u=>GtW w0 a ch p2 (Ag,ng,cg) wr G6 t σ (D 9) (D 10) (D 13) u)) (AnyO.InvG.start (g:=(0,(none,0,0))) (GtW.start (below_drew wr))) ?_ ?_
        ·intro i hi
         have hi2:i=4∨i=8∨i=9∨i=10∨i=13∨i=0∨i=1∨i=2∨i=3∨i=5∨i=6∨i=7∨i=11∨i=12:=by simp only[List.size_toArray,List.length_cons,List.length_nil] at hi;omega
         clear hi
         rcases hi2 with rfl|rfl|rfl|rfl|rfl|rfl|rfl|rfl|rfl|rfl|rfl|rfl|rfl|rfl
         ·refine AnyO.I rfl [3] ?_;rintro D vs u σ Q h0 hC hp ac hb K hK
          have s138:_=_:=AnyO.sv 138 3 hb hp Q
          have hf10:=AnyO.fls (hC.out 10) h0 (by kernel_rfl)
          have hst:=Q.out.2.s0 hf10
          have rr:=(H6.out.1.keep hst).row.cell 6
          have rr2:u.cell? ⟨a.k,6,none⟩=some (.slice Ag ng cg):=rr
          clear hst rr
          go_simp;exact hK _ _ (AnyO.InvG.step (g:=σ) Q.out.1 rfl Q.out.2)
         ·refine AnyO.I rfl [7] ?_;rintro D vs u σ Q h0 hC hp ac hb K hK
          have s142:_=_:=AnyO.sv 142 7 hb hp Q
          have hf9:=AnyO.fls (hC.out 9) h0 (by kernel_rfl)
          have hf10:=AnyO.fls (hC.out 10) hf9 (by kernel_rfl)
          have hst:=Q.out.2.s0 hf10
          obtain⟨rr1,rr2⟩:=HT.out u hst
          clear hst
          go_simp;exact hK _ _ (AnyO.InvG.step (g:=σ) Q.out.1 rfl Q.out.2)
         ·refine AnyO.I rfl [8] ?_;rintro D vs u σ Q h0 hC hp ac hb K hK
          have s143:_=_:=AnyO.sv 143 8 hb hp Q
          have hf10:=AnyO.fls (hC.out 10) h0 (by kernel_rfl)
          have hf13:=AnyO.fls (hC.out 13) hf10 (by kernel_rfl)
          have hst:=Q.out.2
          rw[h0,hf10,hf13] at hst
          have HST:=Lib.hid hst
          clear hst
          go_simp
          refine hK _ _ (AnyO.InvG.ghost (g:=σ) (u.heap.size,σ.2) Q.out.1 ?_ rfl ?_)
          ·intro j hj hq
           rcases j with _|_|_|_|_|_|_|_|_|_|_|_|_|_|j
           all_goals first|exact hq|exact absurd (show D 9=true from hj) (by rw[h0];decide)|exact absurd (show D 10=true from hj) (by rw[hf10];decide)|exact absurd (show D 13=true from hj) (by rw[hf13];decide)
          rw[show AnyO.addD D 9 9=true from rfl,show AnyO.addD D 9 10=D 10 from rfl,show AnyO.addD D 9 13=D 13 from rfl,hf10,hf13]
          exact HST.out.made (below_alloc _ _) (gt_new u t)
         ·refine AnyO.I rfl [4,9] ?_;rintro D vs u σ Q h0 hC hp ac hb K hK
          have s139:_=_:=AnyO.sv 139 4 hb hp Q
          have s144:_=_:=AnyO.sv 144 9 hb hp Q
          have hp9:D 9=true:=hp.out 9 (by decide)
          have hf13:=AnyO.fls (hC.out 13) h0 (by kernel_rfl)
          have hst:=Q.out.2
          rw[hp9,h0,hf13] at hst
          have hsd:=hst.s0 rfl
          refine Sn.wp_append_at u (.tmp 139) (.tmp 144) 34 rfl 0 47 33 48 cTx Tryz.underlying34 row47 (by decide) cTx_length cTx_one (.slice Ag ng cg) p2.got (ev_tmp s139) (H6.out.1.keep hsd).got ⟨σ.1,0,none⟩ 1 1 [t] rfl (ev_tmp s144) (by have h:=hst.one rfl rfl;simpa using h) (by have:=HGL.out;simp;omega) (by have:=HGL.out;simp;omega) (Nat.zero_le _) ?_
          intro v2 w2 ho2 hg2 hb2
          obtain⟨A2,c2',rfl, -, -⟩:=ho2.sl
          refine hK _ _ (AnyO.InvG.ghost (g:=σ) (σ.1,A2,(p2.got++[t]).length,c2') Q.out.1 ?_ rfl ?_)
          ·intro j hj hq
           rcases j with _|_|_|_|_|_|_|_|_|_|_|_|_|_|j
           all_goals first|exact hq|exact absurd (show D 10=true from hj) (by rw[h0];decide)|exact absurd (show D 13=true from hj) (by rw[hf13];decide)
          rw[show AnyO.addD D 10 9=D 9 from rfl,hp9,show AnyO.addD D 10 10=true from rfl,show AnyO.addD D 10 13=D 13 from rfl,hf13]
          exact hst.grew (v:=(A2,(p2.got++[t]).length,c2')) ho2 (own_blkA▸hg2) (by rw[own_blkA,own_blkA] at hb2;exact hb2)
         ·refine AnyO.I rfl [12,10,10,0,1,2,3,4,5,6,7,8,9,10] ?_;rintro D vs u σ Q h0 hC hp ac hb K hK
          have s147:_=_:=AnyO.sv 147 12 hb hp Q
          have s145:_=_:=AnyO.sv 145 10 hb hp Q
          have hp9:D 9=true:=hp.out 9 (by decide)
          have hp10:D 10=true:=hp.out 10 (by decide)
          have hst:=Q.out.2
          rw[hp9,hp10,h0] at hst
          have rrw:=hst.row H6.out.1
          have rr1:=rrw.fz 6
          have rr2:u.cell? ⟨a.k,6,none⟩=some (.slice Ag ng cg):=rrw.cell 6
          have HST:=Lib.hid hst
          clear hst rrw
          go_simp
          exact hK undef _ (AnyO.InvG.step (g:=σ) Q.out.1 trivial (by rw[show AnyO.addD D 13 9=D 9 from rfl,hp9,show AnyO.addD D 13 10=D 10 from rfl,hp10,show AnyO.addD D 13 13=true from rfl];exact HST.out.stored H6.out.1))
         all_goals
          refine AnyO.J rfl ?_;rintro D vs u σ Q h0 hC hp ac hb K hK
          try have s0:ac.tmps[0]?.getD undef=.pointer (some ⟨a.k,0,none⟩):=by rw[hb.out];kernel_rfl
          try have s136:_=_:=AnyO.sv 136 1 hb hp Q
          try have s137:_=_:=AnyO.sv 137 2 hb hp Q
          try have s8:ac.tmps[8]?.getD undef=.slice (some al) ln lc:=by rw[hb.out];kernel_rfl
          try have s14:ac.tmps[14]?.getD undef=.int .i64 (i:Int):=by rw[hb.out];kernel_rfl
          try have s140:_=_:=AnyO.sv 140 5 hb hp Q
          try have s141:_=_:=AnyO.sv 141 6 hb hp Q
          try have s135:_=_:=AnyO.sv 135 0 hb hp Q
          try have s146:_=_:=AnyO.sv 146 11 hb hp Q
          go_simp
          exact hK _ _ (AnyO.InvG.step (g:=σ) Q.out.1 rfl Q.out.2)
        ·intro D vs u hI hD
         obtain⟨σ,hP,hW⟩:=hI
         have e0:_=_:=hP 0 (hD 0 (by decide))
         have e1:_=_:=hP 1 (hD 1 (by decide))
         have e2:_=_:=hP 2 (hD 2 (by decide))
         have e3:_=_:=hP 3 (hD 3 (by decide))
         have e4:_=_:=hP 4 (hD 4 (by decide))
         have e5:_=_:=hP 5 (hD 5 (by decide))
         have e6:_=_:=hP 6 (hD 6 (by decide))
         have e7:_=_:=hP 7 (hD 7 (by decide))
         have e8:_=_:=hP 8 (hD 8 (by decide))
         have e9:_=_:=hP 9 (hD 9 (by decide))
         have e10:_=_:=hP 10 (hD 10 (by decide))
         have e11:_=_:=hP 11 (hD 11 (by decide))
         have e12:_=_:=hP 12 (hD 12 (by decide))
         rw[show D 9=true from hD 9 (by decide),show D 10=true from hD 10 (by decide),show D 13=true from hD 13 (by decide)] at hW
         have HW:=Lib.hid hW
         clear hW hP hD
         rw[puts_range [some 135,some 136,some 137,some 138,some 139,some 140,some 141,some 142,some 143,some 144,some 145,some 146,some 147,none] (by kernel_rfl)]
         simp only[putL,Nat.reduceAdd,e0,e1,e2,e3,e4,e5,e6,e7,e8,e9,e10,e11,e12]
         clear e0 e1 e2 e3 e4 e5 e6 e7 e8 e9 e10 e11 e12
         obtain⟨G9a,gv9,h9,hk9⟩:=HW.out.st rfl
         obtain⟨W9,rfl⟩:∃ x,x=u:=⟨_,rfl⟩
         have hlx:=H6.out.2.2.kp hk9
         obtain⟨al2,e2,hT9⟩:=hlx.txI (j:=i) (by rw[← HQN.out.2];exact hli)
         obtain rfl:al=al2:=Option.some.inj e2
         have hti:ts[i]'(by rw[← HQN.out.2];exact hli)=t:=HTI.out
         rw[hti] at hT9
         have HT9:=Lib.hid hT9
         have H9:=Lib.hid (And.intro h9 (H6.out.2.1.kp hk9))
         clear h9 hk9 hlx hti hT9 e2 HW H6 HT HGL
         go_simp
         go_wp2
         refine AnyO.wp_anyI (by kernel_rfl) (by kernel_rfl) (AnyO.InvG (σ:=(Nat→List Nat)×Nat) (fun σ=>AnyO.pvL [some (.pointer (some ⟨a.k,0,none⟩)),some (.pointer (some ⟨a.k,0,none⟩)),some (.pointer (some ⟨a.k,3,none⟩)),some (.pointer (some ⟨a.tk,0,none⟩)),some (.slice (some al) ln lc),some (.int .i64 (i:Int)),some (.pointer (some (al.add (i * 33)))),some (.pointer (some (al.add (i * 33)))),some (vI t.1),some (.tuple #[vC c2,.int .i64 0]),some (.tuple #[vC c2,.int .i64 0]),some (vC c2),some (.int .i64 0),some (.pointer (some ⟨σ.2,0,none⟩)),none,some (.int .i64 0)]) (fun σ D u=>AnW w0 a ch { p2 with got:=p2.got++[t],tkr:=s2 } gv9 W9 G9a c2 σ (D 9) (D 13) (D 14) u)) (AnyO.InvG.start (g:=(G9a,0)) (AnW.start (below_drew _))) ?_ ?_
         ·intro i hi
          have hi2:i=3∨i=8∨i=9∨i=13∨i=14∨i=0∨i=1∨i=2∨i=4∨i=5∨i=6∨i=7∨i=10∨i=11∨i=12∨i=15:=by simp only[List.size_toArray,List.length_cons,List.length_nil] at hi;omega
          clear hi
          rcases hi2 with rfl|rfl|rfl|rfl|rfl|rfl|rfl|rfl|rfl|rfl|rfl|rfl|rfl|rfl|rfl|rfl
          ·refine AnyO.I rfl [2] ?_;rintro D vs u σ Q h0 hC hp ac hb K hK
           have s151:_=_:=AnyO.sv 151 2 hb hp Q
           have hf9:=AnyO.fls (hC.out 9) h0 (by kernel_rfl)
           have hst:=Q.out.2.s0 hf9
           have rr:=(H9.out.1.keep hst).row.cell 3
           have rr2:u.cell? ⟨a.k,3,none⟩=some (.pointer (some ⟨a.tk,0,none⟩)):=rr
           clear hst rr
           go_simp;exact hK _ _ (AnyO.InvG.step (g:=σ) Q.out.1 rfl Q.out.2)
          ·refine AnyO.I rfl [7] ?_;rintro D vs u σ Q h0 hC hp ac hb K hK
           have s156:_=_:=AnyO.sv 156 7 hb hp Q
           have hf9:=AnyO.fls (hC.out 9) h0 (by kernel_rfl)
           have hst:=Q.out.2.s0 hf9
           obtain⟨rr1,rr2⟩:=HT9.out u hst
           clear hst
           go_simp;exact hK _ _ (AnyO.InvG.step (g:=σ) Q.out.1 rfl Q.out.2)
          ·refine AnyO.I rfl [3,8] ?_;rintro D vs u σ Q h0 hC hp ac hb K hK
           have s152:_=_:=AnyO.sv 152 3 hb hp Q
           have s157:_=_:=AnyO.sv 157 8 hb hp Q
           have hf10:=AnyO.fls (hC.out 10) h0 (by kernel_rfl)
           have hf11:=AnyO.fls (hC.out 11) hf10 (by kernel_rfl)
           have hf14:=AnyO.fls (hC.out 14) hf11 (by kernel_rfl)
           have hst:=Q.out.2
           rw[h0,hf14] at hst
           have HST:=Lib.hid hst
           clear hst
           go_simp
           go_at_call 46
           have ha9:=HA.out.1
           refine ((H9.out.1.keep (HST.out.s0 rfl)).accepted t.1 0).mono ?_
           rintro e w2 ⟨rfl,G9,h9,hk9⟩
           rw[show (acceptedT ({ p2 with got:=p2.got++[t] }:Ps).tkr t.1 0)=(s2,c2,0) from ha9] at h9 ⊢
           refine hK _ _ (AnyO.InvG.ghost (g:=σ) (G9,σ.2) Q.out.1 ?_ rfl ?_)
           ·intro j hj hq
            rcases j with _|_|_|_|_|_|_|_|_|_|_|_|_|_|_|_|j
            all_goals first|exact hq|exact absurd (show D 9=true from hj) (by rw[h0];decide)|exact absurd (show D 10=true from hj) (by rw[hf10];decide)|exact absurd (show D 11=true from hj) (by rw[hf11];decide)|exact absurd (show D 14=true from hj) (by rw[hf14];decide)
           rw[show AnyO.addD D 9 9=true from rfl,show AnyO.addD D 9 13=D 13 from rfl,show AnyO.addD D 9 14=D 14 from rfl,hf14]
           exact HST.out.called H9.out.1.lt h9 hk9
          ·refine AnyO.I rfl [] ?_;rintro D vs u σ Q h0 hC hp ac hb K hK
           have hf14:=AnyO.fls (hC.out 14) h0 (by kernel_rfl)
           have hst:=Q.out.2
           rw[h0,hf14] at hst
           have HST:=Lib.hid hst
           clear hst
           go_simp
           refine hK _ _ (AnyO.InvG.ghost (g:=σ) (σ.1,u.heap.size) Q.out.1 ?_ rfl ?_)
           ·intro j hj hq
            rcases j with _|_|_|_|_|_|_|_|_|_|_|_|_|_|_|_|j
            all_goals first|exact hq|exact absurd (show D 13=true from hj) (by rw[h0];decide)|exact absurd (show D 14=true from hj) (by rw[hf14];decide)
           rw[show AnyO.addD D 13 13=true from rfl,show AnyO.addD D 13 9=D 9 from rfl,show AnyO.addD D 13 14=D 14 from rfl,hf14]
           exact HST.out.made
          ·refine AnyO.I rfl [13,11,9,0,1,2,3,4,5,6,7,8,9,10,11,13] ?_;rintro D vs u σ Q h0 hC hp ac hb K hK
           have s15:_=_:=AnyO.sv 15 13 hb hp Q
           have s159:_=_:=AnyO.sv 159 11 hb hp Q
           have hp9:D 9=true:=hp.out 9 (by decide)
           have hp13:D 13=true:=hp.out 13 (by decide)
           have hst:=Q.out.2
           rw[hp9,hp13,h0] at hst
           have rr1:=Row.rowOk' (hst.al rfl rfl) (cC_length _)
           have HST:=Lib.hid hst
           clear hst
           go_simp
           exact hK undef _ (AnyO.InvG.step (g:=σ) Q.out.1 trivial (by rw[show AnyO.addD D 14 9=D 9 from rfl,hp9,show AnyO.addD D 14 13=D 13 from rfl,hp13,show AnyO.addD D 14 14=true from rfl];exact HST.out.put H9.out.1.gp.bel.size))
          all_goals
           refine AnyO.J rfl ?_;rintro D vs u σ Q h0 hC hp ac hb K hK
           try have s0:ac.tmps[0]?.getD undef=.pointer (some ⟨a.k,0,none⟩):=by rw[hb.out];kernel_rfl
           try have s149:_=_:=AnyO.sv 149 0 hb hp Q
           try have s150:_=_:=AnyO.sv 150 1 hb hp Q
           try have s8:ac.tmps[8]?.getD undef=.slice (some al) ln lc:=by rw[hb.out];kernel_rfl
           try have s14:ac.tmps[14]?.getD undef=.int .i64 (i:Int):=by rw[hb.out];kernel_rfl
           try have s153:_=_:=AnyO.sv 153 4 hb hp Q
           try have s154:_=_:=AnyO.sv 154 5 hb hp Q
           try have s155:_=_:=AnyO.sv 155 6 hb hp Q
           try have s158:_=_:=AnyO.sv 158 9 hb hp Q
           try have s148:_=_:=AnyO.sv 148 10 hb hp Q
           try have s160:_=_:=AnyO.sv 160 12 hb hp Q
           go_simp
           exact hK _ _ (AnyO.InvG.step (g:=σ) Q.out.1 rfl Q.out.2)
         ·intro D vs u hI hD
          obtain⟨σ,hP,hW⟩:=hI
          have e0:_=_:=hP 0 (hD 0 (by decide))
          have e1:_=_:=hP 1 (hD 1 (by decide))
          have e2:_=_:=hP 2 (hD 2 (by decide))
          have e3:_=_:=hP 3 (hD 3 (by decide))
          have e4:_=_:=hP 4 (hD 4 (by decide))
          have e5:_=_:=hP 5 (hD 5 (by decide))
          have e6:_=_:=hP 6 (hD 6 (by decide))
          have e7:_=_:=hP 7 (hD 7 (by decide))
          have e8:_=_:=hP 8 (hD 8 (by decide))
          have e9:_=_:=hP 9 (hD 9 (by decide))
          have e10:_=_:=hP 10 (hD 10 (by decide))
          have e11:_=_:=hP 11 (hD 11 (by decide))
          have e12:_=_:=hP 12 (hD 12 (by decide))
          have e13:_=_:=hP 13 (hD 13 (by decide))
          have e15:_=_:=hP 15 (hD 15 (by decide))
          rw[show D 9=true from hD 9 (by decide),show D 13=true from hD 13 (by decide),show D 14=true from hD 14 (by decide)] at hW
          have HW:=Lib.hid hW
          clear hW hP hD
          rw[puts_range [some 149,some 150,some 151,some 152,some 153,some 154,some 155,some 156,some 157,some 158,some 148,some 159,some 160,some 15,none,some 16] (by kernel_rfl)]
          simp only[putL,Nat.reduceAdd,e0,e1,e2,e3,e4,e5,e6,e7,e8,e9,e10,e11,e12,e13,e15]
          clear e0 e1 e2 e3 e4 e5 e6 e7 e8 e9 e10 e11 e12 e13 e15
          obtain⟨G10,g2⟩:=σ
          obtain⟨h10,hk10⟩:=HW.out.s1 rfl
          have hr10:Row u g2 (cC c2) 74:=HW.out.st rfl
          have hg10:g2∉Gall G10:=HW.out.nG rfl rfl
          have k7:u.cell? ⟨a.k,7,none⟩=some (.bool false):=h10.row.cell 7
          have f7:=h10.row.fz 7
          have hak:a.k∈Gall G10:=mem_Gall.2 ⟨0,by decide,h10.l0⟩
          have hr11:Row (u.setCell ⟨a.k,7,none⟩ (.bool false)) g2 (cC c2) 74:=(One.set (w:=u) (g:=a.k) 7 (.bool false)).row hr10 (fun e=>hg10 (e▸hak))
          obtain⟨r11,r12⟩:=Row.okw hr11 (cC_length _)
          have r12:rdA (u.setCell ⟨a.k,7,none⟩ (.bool false)) ⟨g2,0,none⟩ 39=vC c2:=r12
          have H10:=Lib.hid (And.intro h10 (H9.out.2.kp hk10))
          clear h10 hk10 hr10 hr11 hg10 hak HW H9 HT9 HTI
          go_simp
          go_wp2_with (go_at_call 24;obtain⟨h11,hk11⟩:=H10.out.1.setBrk;refine (say24_1 w0 a ch _ G10 gv9 _ h11 HL.out.1 c2 HA.out.2.1.chk HA.out.2.1.ok HA.out.2.1.up HA.out.2.1.room).mono ?_;rintro e w12 ⟨rfl,G12,gv12,h12,hk12⟩;have H12:=Lib.hid (And.intro h12 ((H10.out.2.kp hk11).kp hk12));clear h11 hk11 h12 hk12 H10 r11 r12 k7 f7)
          go_roundw
          case rel=>exact⟨i+1,G12,gv12,f (k+1),hli,by go_num,by rw[HA.out.2.2.1];exact H12.out.1,H12.out.2,fun e=>absurd e (by rw[HA.out.2.2.2.1,HA.out.2.2.2.2.1];decide),fun _=>rfl⟩
          case measure=>simp[intOf] <;> omega
       ·have hpk:pk=f (k+1):=hp6 hli
        rw[hpk] at h6
        have H6:=Lib.hid (And.intro h6 hv6)
        clear h6 hv6 hl6 hp6 hpk
        have hlii:¬ (i:Int)<(ln:Int):=by omega
        go_wp2
        go_roundw
        case rel=>exact⟨k+1,G6,(Ag,ng,cg),hlt,by go_num,H6.out.1,H6.out.2⟩
        case measure=>simp[intOf] <;> omega
  ·obtain rfl:k=n:=by omega
   have h4:SsR w0 a ch (f cs.length) G4 gv4 wr:=by rw[← HN.out];exact h4
   have k0:wr.cell? ⟨a.k,0,none⟩=some (.pointer (some ⟨a.ln,0,none⟩)):=h4.row.cell 0
   have H4:=Lib.hid h4
   clear h4 hv4
   have hlk:¬ (k:Int)<(k:Int):=by omega
   go_wp2_with (first
    | (go_at_call 43;refine (H4.out.rcv0 HR.out.l2).mono ?_;rintro e w2 ⟨rfl,h2⟩;obtain⟨G2,gv2,h2, -⟩:=h2;have k5:w2.cell? ⟨a.k,4,none⟩=some (.pointer (some ⟨a.rl,0,none⟩)):=h2.row.cell 4;have H2:=Lib.hid h2;clear h2 H4)
    | (go_at_call 44;refine (H2.out.feedL_ HL.out.1 ⟨((f cs.length).bs 2).toArray⟩ (by rw[bl_mk];exact HR.out.feed2) (by have:=HR.out.s2;rw[bl_size];exact this)).mono ?_;rintro e w3 ⟨⟨A,n,cp⟩,rfl,G3,gv3,h3, -,hv3⟩;have k7:w3.cell? ⟨a.k,7,none⟩=some (.bool false):=h3.row.cell 7;have f7:=h3.row.fz 7;have H3:=Lib.hid (And.intro h3 hv3);clear h3 hv3 H2))
   generalize hW4:World.setCell _ _ _=W4
   have hn:n=cs2.length:=H3.out.2.1.symm
   have h4:SsR w0 a ch (g 0) G3 gv3 W4∧SlF (Gall G3) W4 cC (A,n,cp) cs2:=by
    rw[← hW4,HR.out.g0]
    obtain⟨h5,h6⟩:=H3.out.1.setBrk
    exact⟨h5,H3.out.2.kp h6⟩
   have H4:=Lib.hid h4
   have HN2:=Lib.hid hn
   have hnb2:n≤1000000:=by rw[hn];exact HR.out.n2
   clear h4 hW4 hn H3 k7 f7 k5 k0 hlk hk hlt
   go_wp2
   obtain⟨wo,rfl⟩:∃ x,x=wr:=⟨_,rfl⟩
   go_loopw [17] (fun i wr7=>∃ (k:Nat) (G':Nat→List Nat) (gv':SlV),k≤n∧i=.int .i64 (k:Int)∧SsR w0 a ch (g k) G' gv' wr7∧SlF (Gall G') wr7 cC (A,n,cp) cs2) (fun i _=>n - (intOf i).toNat)
   case atStart=>exact⟨0,G3,gv3,Nat.zero_le _,rfl,H4.out.1,H4.out.2⟩
   case round =>
    clear H4
    obtain⟨k,G4,gv4,hk,rfl,h4,hv4⟩:=hrel
    by_cases hlt:k<n
    ·have hlk:(k:Int)<(n:Int):=by omega
     have hkl:k<cs2.length:=by rw[← HN2.out];exact hlt
     obtain⟨ad,rfl,hcm⟩:=hv4.cm hkl
     have hr:=HR.out.gs k hkl
     obtain⟨c,hc⟩:∃ c,cs2[k]=c:=⟨_,rfl⟩
     rw[hc] at hcm hr
     have HCM:=Lib.hid hcm
     have HC:Hid (∀ u,Below wr.heap.size wr u→Calls Tryz.prog 47 #[.pointer (some ⟨a.sn,0,none⟩),vC c] u fun e w'=>e=.returned (.int .i64 0)∧SsN w0 a ch (g (k+1)) G4 wr w'):=Lib.hid fun u hb=>((h4.keep hb).hear19 hr.good HL.out.1 (At.keep HL.out.2 (h4.keep hb).gp.bel) c hr.name hr.outs hr.hk).mono fun e w' ⟨e1,h5⟩=>⟨by rw[e1,hr.hear],by rw[hr.post];exact h5.under (Kp.of_below hb)⟩
     have H4:=Lib.hid (And.intro h4 hv4)
     clear h4 hv4 hr hcm hc
     go_wp2
     refine AnyO.wp_anyI (by kernel_rfl) (by kernel_rfl) (AnyO.InvG (σ:=Unit) (fun σ=>AnyO.pvL [some (.pointer (some ⟨a.k,0,none⟩)),some (.pointer (some ⟨a.k,0,none⟩)),some (.pointer (some ⟨a.k,0,none⟩)),some (.pointer (some ⟨a.k,7,none⟩)),some (.bool false),some (.bool false),some (.pointer (some ⟨a.k,0,none⟩)),some (.pointer (some ⟨a.k,0,none⟩)),some (.pointer (some ⟨a.k,2,none⟩)),some (.pointer (some ⟨a.sn,0,none⟩)),some (.slice (some ad) n cp),some (.int .i64 (k:Int)),some (.pointer (some (ad.add (k * 39)))),some (vC c),some (.int .i64 0),some (.bool false),some (.bool false),some (.pointer (some ⟨a.k,0,none⟩)),some (.pointer (some ⟨a.k,7,none⟩)),none]) (fun σ D u=>W1 wr (fun (_:Unit) u=>SsN w0 a ch (g (k+1)) G4 wr u) σ (D 14) u)) (AnyO.InvG.start (g:=()) (below_drew wr)) ?_ ?_
     ·intro i hi
      have hi2:i=4∨i=6∨i=7∨i=8∨i=9∨i=10∨i=11∨i=12∨i=13∨i=14∨i=15∨i=19∨i=0∨i=1∨i=2∨i=3∨i=5∨i=16∨i=17∨i=18:=by simp only[List.size_toArray,List.length_cons,List.length_nil] at hi;omega
      clear hi
      rcases hi2 with rfl|rfl|rfl|rfl|rfl|rfl|rfl|rfl|rfl|rfl|rfl|rfl|rfl|rfl|rfl|rfl|rfl|rfl|rfl|rfl
      ·refine AnyO.I rfl [3] ?_;rintro D vs u σ Q h0 hC hp ac hb K hK
       have s212:_=_:=AnyO.sv 212 3 hb hp Q
       have hf5:=AnyO.fls (hC.out 5) h0 (by kernel_rfl)
       have hf14:=AnyO.fls (hC.out 14) hf5 (by kernel_rfl)
       have hst:=Q.out.2
       rw[hf14] at hst
       have rr:=(H4.out.1.keep hst).row.cell 7
       have rr2:u.cell? ⟨a.k,7,none⟩=some (.bool false):=rr
       clear hst rr
       go_simp;exact hK _ _ (AnyO.InvG.step (g:=σ) Q.out.1 rfl Q.out.2)
      ·refine AnyO.StepI.mk rfl [5] (by kernel_rfl) ?_;rintro D vs u ⟨σ,hP,hW⟩ h0 hC hp ac hb K hK
       have s0:ac.tmps[0]?.getD undef=.pointer (some ⟨a.k,0,none⟩):=by rw[hb];kernel_rfl
       have s214:=AnyO.slot 214 hb (by kernel_rfl) (hP 5 (hp 5 (by decide)))
       rw[if_pos (AnyO.wanted_some (g:=5) (t:=214) (want:=false) rfl rfl s214)]
       clear hb hp
       clear hC h0;have HPW:=Lib.hid (And.intro hP hW);clear hP hW;go_simp;exact hK _ _ (AnyO.InvG.step (g:=σ) HPW.out.1 rfl HPW.out.2)
      ·refine AnyO.StepI.mk rfl [6,5] (by kernel_rfl) ?_;rintro D vs u ⟨σ,hP,hW⟩ h0 hC hp ac hb K hK
       have s215:=AnyO.slot 215 hb (by kernel_rfl) (hP 6 (hp 6 (by decide)))
       have s214:=AnyO.slot 214 hb (by kernel_rfl) (hP 5 (hp 5 (by decide)))
       rw[if_pos (AnyO.wanted_some (g:=5) (t:=214) (want:=false) rfl rfl s214)]
       clear hb hp
       clear hC h0;have HPW:=Lib.hid (And.intro hP hW);clear hP hW;go_simp;exact hK _ _ (AnyO.InvG.step (g:=σ) HPW.out.1 rfl HPW.out.2)
      ·refine AnyO.StepI.mk rfl [7,5] (by kernel_rfl) ?_;rintro D vs u ⟨σ,hP,hW⟩ h0 hC hp ac hb K hK
       have s216:=AnyO.slot 216 hb (by kernel_rfl) (hP 7 (hp 7 (by decide)))
       have s214:=AnyO.slot 214 hb (by kernel_rfl) (hP 5 (hp 5 (by decide)))
       rw[if_pos (AnyO.wanted_some (g:=5) (t:=214) (want:=false) rfl rfl s214)]
       clear hb hp
       clear hC h0;have HPW:=Lib.hid (And.intro hP hW);clear hP hW;go_simp;exact hK _ _ (AnyO.InvG.step (g:=σ) HPW.out.1 rfl HPW.out.2)
      ·refine AnyO.StepI.mk rfl [8,5] (by kernel_rfl) ?_;rintro D vs u ⟨σ,hP,hW⟩ h0 hC hp ac hb K hK
       have s217:=AnyO.slot 217 hb (by kernel_rfl) (hP 8 (hp 8 (by decide)))
       have s214:=AnyO.slot 214 hb (by kernel_rfl) (hP 5 (hp 5 (by decide)))
       rw[if_pos (AnyO.wanted_some (g:=5) (t:=214) (want:=false) rfl rfl s214)]
       clear hb hp
       have hf14:=AnyO.fls (hC 14) h0 (by kernel_rfl)
       have hst:=hW
       rw[hf14] at hst
       have rr:=(H4.out.1.keep hst).row.cell 2
       have rr2:u.cell? ⟨a.k,2,none⟩=some (.pointer (some ⟨a.sn,0,none⟩)):=rr
       clear hst rr h0 hC
       have HPW:=Lib.hid (And.intro hP hW);clear hP hW;go_simp;exact hK _ _ (AnyO.InvG.step (g:=σ) HPW.out.1 rfl HPW.out.2)
      ·refine AnyO.StepI.mk rfl [5] (by kernel_rfl) ?_;rintro D vs u ⟨σ,hP,hW⟩ h0 hC hp ac hb K hK
       have s4:ac.tmps[4]?.getD undef=.slice (some ad) n cp:=by rw[hb];kernel_rfl
       have s214:=AnyO.slot 214 hb (by kernel_rfl) (hP 5 (hp 5 (by decide)))
       rw[if_pos (AnyO.wanted_some (g:=5) (t:=214) (want:=false) rfl rfl s214)]
       clear hb hp
       clear hC h0;have HPW:=Lib.hid (And.intro hP hW);clear hP hW;go_simp;exact hK _ _ (AnyO.InvG.step (g:=σ) HPW.out.1 rfl HPW.out.2)
      ·refine AnyO.StepI.mk rfl [5] (by kernel_rfl) ?_;rintro D vs u ⟨σ,hP,hW⟩ h0 hC hp ac hb K hK
       have s17:ac.tmps[17]?.getD undef=.int .i64 (k:Int):=by rw[hb];kernel_rfl
       have s214:=AnyO.slot 214 hb (by kernel_rfl) (hP 5 (hp 5 (by decide)))
       rw[if_pos (AnyO.wanted_some (g:=5) (t:=214) (want:=false) rfl rfl s214)]
       clear hb hp
       clear hC h0;have HPW:=Lib.hid (And.intro hP hW);clear hP hW;go_simp;exact hK _ _ (AnyO.InvG.step (g:=σ) HPW.out.1 rfl HPW.out.2)
      ·refine AnyO.StepI.mk rfl [10,11,5] (by kernel_rfl) ?_;rintro D vs u ⟨σ,hP,hW⟩ h0 hC hp ac hb K hK
       have s219:=AnyO.slot 219 hb (by kernel_rfl) (hP 10 (hp 10 (by decide)))
       have s220:=AnyO.slot 220 hb (by kernel_rfl) (hP 11 (hp 11 (by decide)))
       have s214:=AnyO.slot 214 hb (by kernel_rfl) (hP 5 (hp 5 (by decide)))
       rw[if_pos (AnyO.wanted_some (g:=5) (t:=214) (want:=false) rfl rfl s214)]
       clear hb hp
       clear hC h0;have HPW:=Lib.hid (And.intro hP hW);clear hP hW;go_simp;exact hK _ _ (AnyO.InvG.step (g:=σ) HPW.out.1 rfl HPW.out.2)
      ·refine AnyO.StepI.mk rfl [12,5] (by kernel_rfl) ?_;rintro D vs u ⟨σ,hP,hW⟩ h0 hC hp ac hb K hK
       have s221:=AnyO.slot 221 hb (by kernel_rfl) (hP 12 (hp 12 (by decide)))
       have s214:=AnyO.slot 214 hb (by kernel_rfl) (hP 5 (hp 5 (by decide)))
       rw[if_pos (AnyO.wanted_some (g:=5) (t:=214) (want:=false) rfl rfl s214)]
       clear hb hp
       have hf14:=AnyO.fls (hC 14) h0 (by kernel_rfl)
       have hst:=hW
       rw[hf14] at hst
       obtain⟨rr1,rr2⟩:=HCM.out u hst
       clear hst h0 hC
       have HPW:=Lib.hid (And.intro hP hW);clear hP hW;go_simp;exact hK _ _ (AnyO.InvG.step (g:=σ) HPW.out.1 rfl HPW.out.2)
      ·refine AnyO.StepI.mk rfl [9,13,5,5] (by kernel_rfl) ?_;rintro D vs u ⟨σ,hP,hW⟩ h0 hC hp ac hb K hK
       have s218:=AnyO.slot 218 hb (by kernel_rfl) (hP 9 (hp 9 (by decide)))
       have s222:=AnyO.slot 222 hb (by kernel_rfl) (hP 13 (hp 13 (by decide)))
       have s214:=AnyO.slot 214 hb (by kernel_rfl) (hP 5 (hp 5 (by decide)))
       rw[if_pos (AnyO.wanted_some (g:=5) (t:=214) (want:=false) rfl rfl s214)]
       clear hb hp
       have hf15:=AnyO.fls (hC 15) h0 (by kernel_rfl)
       have hf16:=AnyO.fls (hC 16) hf15 (by kernel_rfl)
       have hst:=hW
       rw[h0] at hst
       have HST:=Lib.hid hst
       clear hst
       have HPW:=Lib.hid (And.intro hP hW);clear hP hW;go_simp;obtain⟨hP,hW⟩:=HPW.out
       go_at_call 47
       refine (HC.out u HST.out).mono ?_
       rintro e w2 ⟨rfl,hq⟩
       refine hK _ _ (AnyO.InvG.step (g:=σ) hP rfl ?_)
       rw[show AnyO.addD D 14 14=true from rfl]
       exact hq
      ·refine AnyO.StepI.mk rfl [14,5] (by kernel_rfl) ?_;rintro D vs u ⟨σ,hP,hW⟩ h0 hC hp ac hb K hK
       have s223:=AnyO.slot 223 hb (by kernel_rfl) (hP 14 (hp 14 (by decide)))
       have s214:=AnyO.slot 214 hb (by kernel_rfl) (hP 5 (hp 5 (by decide)))
       rw[if_pos (AnyO.wanted_some (g:=5) (t:=214) (want:=false) rfl rfl s214)]
       clear hb hp
       clear hC h0;have HPW:=Lib.hid (And.intro hP hW);clear hP hW;go_simp;exact hK _ _ (AnyO.InvG.step (g:=σ) HPW.out.1 rfl HPW.out.2)
      ·refine AnyO.I rfl [18,16,14,0,1,2,3,4,5,6,7,8,9,10,11,12,13,14,15,16] ?_;rintro D vs u σ Q h0 hC hp ac hb K hK
       have s227:_=_:=AnyO.sv 227 18 hb hp Q
       have s225:_=_:=AnyO.sv 225 16 hb hp Q
       have hp14:D 14=true:=hp.out 14 (by decide)
       have hst:=Q.out.2
       rw[hp14] at hst
       obtain⟨G',gv',hs',hk'⟩:=hst
       have rr1:=hs'.row.fz 7
       have rr2:u.cell? ⟨a.k,7,none⟩=some (.bool false):=hs'.row.cell 7
       have HST:=Lib.hid (And.intro hs' hk')
       clear hs' hk'
       go_simp
       obtain⟨hb1,hb2⟩:=HST.out.1.setBrk
       exact hK undef _ (AnyO.InvG.step (g:=σ) Q.out.1 trivial (by rw[show AnyO.addD D 19 14=D 14 from rfl,hp14];exact⟨G',gv',hb1,HST.out.2.trans hb2⟩))
      all_goals
       refine AnyO.J rfl ?_;rintro D vs u σ Q h0 hC hp ac hb K hK
       try have s0:ac.tmps[0]?.getD undef=.pointer (some ⟨a.k,0,none⟩):=by rw[hb.out];kernel_rfl
       try have s210:_=_:=AnyO.sv 210 1 hb hp Q
       try have s211:_=_:=AnyO.sv 211 2 hb hp Q
       try have s213:_=_:=AnyO.sv 213 4 hb hp Q
       try have s214:_=_:=AnyO.sv 214 5 hb hp Q
       try have s224:_=_:=AnyO.sv 224 15 hb hp Q
       try have s209:_=_:=AnyO.sv 209 0 hb hp Q
       try have s226:_=_:=AnyO.sv 226 17 hb hp Q
       go_simp
       exact hK _ _ (AnyO.InvG.step (g:=σ) Q.out.1 rfl Q.out.2)
     ·intro D vs u hI hD
      obtain⟨σ,hP,hW⟩:=hI
      have e0:_=_:=hP 0 (hD 0 (by decide))
      have e1:_=_:=hP 1 (hD 1 (by decide))
      have e2:_=_:=hP 2 (hD 2 (by decide))
      have e3:_=_:=hP 3 (hD 3 (by decide))
      have e4:_=_:=hP 4 (hD 4 (by decide))
      have e5:_=_:=hP 5 (hD 5 (by decide))
      have e6:_=_:=hP 6 (hD 6 (by decide))
      have e7:_=_:=hP 7 (hD 7 (by decide))
      have e8:_=_:=hP 8 (hD 8 (by decide))
      have e9:_=_:=hP 9 (hD 9 (by decide))
      have e10:_=_:=hP 10 (hD 10 (by decide))
      have e11:_=_:=hP 11 (hD 11 (by decide))
      have e12:_=_:=hP 12 (hD 12 (by decide))
      have e13:_=_:=hP 13 (hD 13 (by decide))
      have e14:_=_:=hP 14 (hD 14 (by decide))
      have e15:_=_:=hP 15 (hD 15 (by decide))
      have e16:_=_:=hP 16 (hD 16 (by decide))
      have e17:_=_:=hP 17 (hD 17 (by decide))
      have e18:_=_:=hP 18 (hD 18 (by decide))
      rw[show D 14=true from hD 14 (by decide)] at hW
      have HW:=Lib.hid hW
      clear hW hP hD
      rw[puts_range [some 209,some 210,some 211,some 212,some 213,some 214,some 215,some 216,some 217,some 218,some 219,some 220,some 221,some 222,some 223,some 224,some 225,some 226,some 227,none] (by kernel_rfl)]
      simp only[putL,Nat.reduceAdd,e0,e1,e2,e3,e4,e5,e6,e7,e8,e9,e10,e11,e12,e13,e14,e15,e16,e17,e18]
      clear e0 e1 e2 e3 e4 e5 e6 e7 e8 e9 e10 e11 e12 e13 e14 e15 e16 e17 e18
      obtain⟨G5,gv5,h5,hk5⟩:=HW.out
      have H5:=Lib.hid (And.intro h5 (H4.out.2.kp hk5))
      clear h5 hk5 HW H4
      go_simp
      go_wp2
      go_roundw
      case rel=>exact⟨k+1,G5,gv5,hlt,by go_num,H5.out.1,H5.out.2⟩
      case measure=>simp[intOf] <;> omega
    ·obtain rfl:k=n:=by omega
     have h4:SsR w0 a ch p' G4 gv4 wr:=by rw[HR.out.post,← HN2.out];exact h4
     have H4:=Lib.hid h4
     clear h4 hv4
     have hlk:¬ (k:Int)<(k:Int):=by omega
     go_wp2
     go_end0
     exact⟨rfl,_,_,H4.out⟩
end Go.Proofs.YtdkjgcfhepplbaaGreatDoor
