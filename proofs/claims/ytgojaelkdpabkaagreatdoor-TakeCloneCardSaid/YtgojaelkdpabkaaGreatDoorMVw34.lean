/- The reference's View: what the taker's methods return. -/
import Derived.Test.YtgojaelkdpabkaaGreatDoorMRun
namespace Go.Proofs.YtgojaelkdpabkaaGreatDoor
open Go.RowKit
def AskE (s:Tk):Prop:=∀ p∈s.act,p.state=1→p.bytes.size=0
def viewL (s:Tk) (x:Id):Int×Int×Int:=match posL s.act x with
 | some k=>((ptK s.act k).state,(if (ptK s.act k).state=1 then (match posL s.kept x with|some j=>((ptK s.kept j).bytes.size:Int)|none=>((ptK s.act k).bytes.size:Int)) else ((ptK s.act k).bytes.size:Int)),(ptK s.act k).size)
 | none=>match posL s.kept x with
  | some j=>(4,((ptK s.kept j).bytes.size:Int),(ptK s.kept j).size)
  | none=>(0,0,0)
theorem viewL_eq {s:Tk} (h:TkI s) (ha:AskE s) (x:Id):viewL s x=((lookL s x).state,rcvdL s x,(lookL s x).size):=by
 unfold viewL rcvdL lookL
 cases hp:posL s.act x with
 | some k =>
  obtain⟨hk, -, -⟩:=pos_some hp
  dsimp only
  by_cases h1:(ptK s.act k).state=1
  ·rw[if_pos h1,if_pos h1]
   cases hj:posL s.kept x with
   | some j =>
    unfold gotL
    rw[hj]
    rfl
   | none =>
    rw[got_none hj]
    have:=ha (ptK s.act k) (by rw[ptK_eq hk];exact List.getElem_mem hk) h1
    rw[this]
    rfl
  ·rw[if_neg h1,if_neg h1]
 | none =>
  dsimp only
  cases hj:posL s.kept x with
  | some j =>
   obtain⟨hk, -, -⟩:=pos_some hj
   dsimp only
   have h4:=(h.kst (ptK s.kept j) (by rw[ptK_eq hk];exact List.getElem_mem hk)).1
   rw[if_neg (by rw[h4];decide),h4]
  | none =>
   dsimp only
   rw[if_neg (by decide)]
   rfl
section
theorem ask_set {l:List Pt} {k:Nat} {p:Pt} (h:∀ q∈l,q.state=1→q.bytes.size=0) (hp:p.state≠1):∀ q∈l.set k p,q.state=1→q.bytes.size=0:=fun q hq h1=>by
 rcases List.mem_or_eq_of_mem_set hq with hq|rfl
 ·exact h q hq h1
 ·exact absurd h1 hp
theorem ask_without {l:List Pt} {x:Id} (h:∀ q∈l,q.state=1→q.bytes.size=0):∀ q∈withoutL l x,q.state=1→q.bytes.size=0:=fun q hq h1=>h q (List.mem_filter.1 hq).1 h1
theorem ask_step {s:Tk} (h:AskE s) (p:Opn):AskE (stepT s p):=by
 unfold stepT
 repeat' split
 ·unfold hearT
  repeat' split
  ·exact h
  ·exact h
  ·unfold offerT
   repeat' split
   ·exact h
   ·exact h
   ·intro q hq h1
    rcases List.mem_append.1 hq with hq|hq
    ·exact h q hq h1
    ·rw[List.mem_singleton.1 hq]
     rfl
  ·unfold dataT
   repeat' split
   ·exact h
   ·exact h
   ·exact h
   ·rename_i k hr _ _
    obtain⟨hk, -,h2⟩:=rcv_some hr
    exact ask_set h (by show (ptK s.act k).state≠1;rw[ptK_eq hk,h2];decide)
  ·unfold doneT
   repeat' split
   ·exact h
   ·exact h
   ·exact ask_set h (by show (3:Int)≠1;decide)
  ·exact h
 ·unfold answerT
  repeat' split
  ·exact h
  ·exact h
  ·exact h
  ·exact h
  ·exact h
  ·exact ask_set h (by show (2:Int)≠1;decide)
  ·exact ask_without h
  ·exact ask_without h
 ·unfold acceptedT
  repeat' split
  ·exact h
  ·exact h
  ·exact h
  ·exact ask_without h
 ·unfold cancelT
  repeat' split
  ·exact h
  ·exact h
  ·exact ask_without h
 ·unfold forgetT
  repeat' split
  ·exact h
  ·exact h
 ·unfold openT
  repeat' split
  ·exact h
  ·exact h
 ·unfold dropT
  repeat' split
  ·intro q hq;cases hq
  ·exact h
 ·exact h
theorem ask_run (n:Int) (l:List Opn):AskE (runT (Tk.new n) l):=by
 unfold runT
 suffices h:∀ s,AskE s→AskE (l.foldl stepT s) from h _ (fun q hq=>by cases hq)
 induction l with
 | nil=>exact fun s h=>h
 | cons p r ih=>exact fun s h=>ih _ (ask_step h p)
end
set_option maxRecDepth 100000 in
set_option maxHeartbeats 3200000 in
theorem refView30 (F:List Nat) (s:Tk) (r:Rt) (x:Id) (w:World) (h:RfAt F s r w) (ha:s.act.length≤100) (hk8:s.kept.length≤100) :
  Calls Tryz.prog 30 #[vT r,vI x] w (fun e w'=>e=.returned (.tuple #[.int .i64 (viewL s x).1,.int .i64 (viewL s x).2.1,.int .i64 (viewL s x).2.2])∧Below w.heap.size w w'):=by
 obtain⟨g,W1,m,W2,hg,hW1,hm,hW2,hrg,hrm,hb⟩:∃ g W1 m W2,w.heap.size=g∧w.alloc (.cells (aT r) 60)=W1∧W1.heap.size=m∧W1.alloc (.cells (aI x) 29)=W2∧Row W2 g (cT r) 60∧Row W2 m (cI x) 29∧Below w.heap.size w W2:=by
  refine⟨_,_,_,_,rfl,rfl,rfl,rfl,(Row.new w (cT r) _).keep (below_alloc _ _),Row.new _ (cI x) _,Below.step (below_alloc _ _) (below_alloc _ _)⟩
 have HB:=Lib.hid (And.intro hrg (And.intro hrm (And.intro (h.keep hb) hb)))
 clear hrg hrm hb h
 obtain⟨vv,hvv⟩:∃ vv,viewL s x=vv:=⟨_,rfl⟩
 rw[hvv]
 have HVV:=Lib.hid hvv
 obtain⟨ii,hii⟩:∃ ii,idxL s.act x=ii:=⟨_,rfl⟩
 obtain⟨jj,hjj⟩:∃ jj,idxL s.kept x=jj:=⟨_,rfl⟩
 have HI:=Lib.hid hii
 have HJ:=Lib.hid hjj
 clear hvv hii hjj
 go_enter Tryz.func30,Tryz.ntmps30
 go_wp2
 refine AnyO.wp_anyI (by kernel_rfl) (by kernel_rfl) (AnyO.InvG (σ:=Unit) (fun σ=>AnyO.pvL [some (.pointer (some ⟨g,2,none⟩)),some (.slice r.act.1 s.act.length r.act.2.2),some (vI x),some (.int .i64 ii),some (.pointer (some ⟨g,3,none⟩)),some (.slice r.kept.1 s.kept.length r.kept.2.2),some (vI x),some (.int .i64 jj),some (.int .i64 ii),some (.int .i64 jj)]) (fun _ _ u=>Below W2.heap.size W2 u)) (AnyO.InvG.start (g:=()) (below_drew _)) ?_ ?_
 ·intro i hi
  have hi2:i=2∨i=3∨i=6∨i=7∨i=0∨i=1∨i=4∨i=5∨i=8∨i=9:=by simp only[List.size_toArray,List.length_cons,List.length_nil] at hi;omega
  clear hi
  rcases hi2 with rfl|rfl|rfl|rfl|rfl|rfl|rfl|rfl|rfl|rfl
  ·refine AnyO.I rfl [] ?_;rintro D vs u σ Q h0 hC hp ac hb K hK
   have s3:=AnyO.sz (v:=.pointer (some ⟨m,0,none⟩)) 3 hb
   have q:=Row.okw (HB.out.2.1.keep Q.out.2) (cI_length x)
   have rr1:=q.1
   have rr2:rdA u ⟨m,0,none⟩ 32=vI x:=q.2
   clear q
   go_simp;exact hK _ _ (AnyO.InvG.step (g:=σ) Q.out.1 rfl Q.out.2)
  ·refine AnyO.I rfl [1,2] ?_;rintro D vs u σ Q h0 hC hp ac hb K hK
   have s11:_=_:=AnyO.sv 11 1 hb hp Q
   have s12:_=_:=AnyO.sv 12 2 hb hp Q
   go_simp
   go_at_call 49
   refine (refFind49 r.act.1 r.act.2.2 s.act x u (HB.out.2.2.1.keep Q.out.2).act.2.2.1 (by omega)).mono ?_
   rw[HI.out]
   rintro e w2 ⟨rfl,hb2⟩
   exact hK _ _ (AnyO.InvG.step (g:=σ) Q.out.1 rfl (Below.step Q.out.2 hb2))
  ·refine AnyO.I rfl [] ?_;rintro D vs u σ Q h0 hC hp ac hb K hK
   have s3:=AnyO.sz (v:=.pointer (some ⟨m,0,none⟩)) 3 hb
   have q:=Row.okw (HB.out.2.1.keep Q.out.2) (cI_length x)
   have rr1:=q.1
   have rr2:rdA u ⟨m,0,none⟩ 32=vI x:=q.2
   clear q
   go_simp;exact hK _ _ (AnyO.InvG.step (g:=σ) Q.out.1 rfl Q.out.2)
  ·refine AnyO.I rfl [5,6,3] ?_;rintro D vs u σ Q h0 hC hp ac hb K hK
   have s15:_=_:=AnyO.sv 15 5 hb hp Q
   have s16:_=_:=AnyO.sv 16 6 hb hp Q
   go_simp
   go_at_call 49
   refine (refFind49 r.kept.1 r.kept.2.2 s.kept x u (HB.out.2.2.1.keep Q.out.2).kept.2.2.1 (by omega)).mono ?_
   rw[HJ.out]
   rintro e w2 ⟨rfl,hb2⟩
   exact hK _ _ (AnyO.InvG.step (g:=σ) Q.out.1 rfl (Below.step Q.out.2 hb2))
  all_goals
   refine AnyO.J rfl ?_;rintro D vs u σ Q h0 hC hp ac hb K hK
   try have s2:ac.tmps[2]?.getD undef=.pointer (some ⟨g,0,none⟩):=by rw[hb.out];kernel_rfl
   try have s10:_=_:=AnyO.sv 10 0 hb hp Q
   try have s14:_=_:=AnyO.sv 14 4 hb hp Q
   try have s13:_=_:=AnyO.sv 13 3 hb hp Q
   try have s17:_=_:=AnyO.sv 17 7 hb hp Q
   have rr_0:=(HB.out.1.keep Q.out.2).cell 2
   rw[show (cT r)[2]? = some (.slice r.act.1 s.act.length r.act.2.2) by rw[HB.out.2.2.1.act.1];rfl] at rr_0
   have rr_1:=(HB.out.1.keep Q.out.2).cell 3
   rw[show (cT r)[3]? = some (.slice r.kept.1 s.kept.length r.kept.2.2) by rw[HB.out.2.2.1.kept.1];rfl] at rr_1
   go_simp
   exact hK _ _ (AnyO.InvG.step (g:=σ) Q.out.1 rfl Q.out.2)
 ·intro D vs u hI hD
  obtain⟨σ,hP,hW⟩:=hI
  have e0:_=_:=hP 0 (hD 0 (by decide))
  have e1:_=_:=hP 1 (hD 1 (by decide))
  have e2:_=_:=hP 2 (hD 2 (by decide))
  have e3:_=_:=hP 3 (hD 3 (by decide))
  have e4:_=_:=hP 4 (hD 4 (by decide))
  have e5:_=_:=hP 5 (hD 5 (by decide))
  have e6:_=_:=hP 6 (hD 6 (by decide))
  have e7:_=_:=hP 7 (hD 7 (by decide))
  have e8:_=_:=hP 8 (hD 8 (by decide))
  have e9:_=_:=hP 9 (hD 9 (by decide))
  have HST:=Lib.hid (And.intro (HB.out.1.keep hW) (And.intro (HB.out.2.2.1.keep hW) (Below.step HB.out.2.2.2 hW)))
  have HW:=Lib.hid hW
  clear hW hP hD
  rw[puts_range [some 10,some 11,some 12,some 13,some 14,some 15,some 16,some 17,some 7,some 8] (by kernel_rfl)]
  simp only[putL,Nat.reduceAdd,e0,e1,e2,e3,e4,e5,e6,e7,e8,e9]
  clear e0 e1 e2 e3 e4 e5 e6 e7 e8 e9
  go_simp
  have hvv:=HVV.out
  unfold viewL at hvv
  have z0:((0:Int)≤-1)=False:=by simp
  cases hp:posL s.act x with
  | none =>
   rw[hp] at hvv
   dsimp only at hvv
   obtain rfl:ii=-1:=by rw[← HI.out];exact idx_none hp
   clear hp
   cases hq:posL s.kept x with
   | none =>
    rw[hq] at hvv
    dsimp only at hvv
    subst hvv
    obtain rfl:jj=-1:=by rw[← HJ.out];exact idx_none hq
    clear hq
    go_wp2
    go_ret3
    exact⟨rfl,by first|exact HST.out.2.2|(rw[← hg];exact HST.out.2.2)⟩
   | some J =>
    rw[hq] at hvv
    dsimp only at hvv
    obtain⟨hJ, -, -⟩:=pos_some hq
    have hpk:ptK s.kept J=s.kept[J]:=ptK_eq hJ
    obtain rfl:jj=(J:Int):=by rw[← HJ.out];exact idx_some hq
    have hJ1:(J:Int)<(s.kept.length:Int):=by omega
    have hJ0:(0:Int)≤(J:Int):=Int.natCast_nonneg J
    obtain⟨pk,hpk2⟩:∃ pk,s.kept[J]=pk:=⟨_,rfl⟩
    have HPK:=Lib.hid hpk2
    rw[hpk,hpk2] at hvv
    subst hvv
    clear hq hpk hpk2
    obtain⟨bd,hbd, -, -,hatk⟩:=Sl.pt (HST.out.2.1.kept.2.2.1) hJ
    rw[HPK.out] at hatk
    have b32:=hatk.f32
    have b34:=hatk.f34
    have jk:u.cell? ⟨g,3,none⟩=some (.slice (some bd) s.kept.length r.kept.2.2):=by rw[← hbd,HST.out.2.1.kept.1];exact HST.out.1.cell 3
    clear hbd hatk
    go_wp2
    go_quiet (fail)
    go_wp2
    go_ret3
    exact⟨rfl,by first|exact Below.step HST.out.2.2 (below_drewN _ _)|(rw[← hg];exact Below.step HST.out.2.2 (below_drewN _ _))⟩
  | some k =>
   obtain⟨hk, -, -⟩:=pos_some hp
   have hpa:ptK s.act k=s.act[k]:=ptK_eq hk
   obtain rfl:ii=(k:Int):=by rw[← HI.out];exact idx_some hp
   have hk1:(k:Int)<(s.act.length:Int):=by omega
   have hk0:(0:Int)≤(k:Int):=Int.natCast_nonneg k
   obtain⟨pp,hpp⟩:∃ pp,s.act[k]=pp:=⟨_,rfl⟩
   have HPP:=Lib.hid hpp
   rw[hp] at hvv
   dsimp only at hvv
   rw[hpa,hpp] at hvv
   clear hp hpa hpp
   obtain⟨ad,had,pa1,pa2, -⟩:=Sl.pt (HST.out.2.1.act.2.2.1) hk
   rw[HPP.out] at pa2
   have ja:u.cell? ⟨g,2,none⟩=some (.slice (some ad) s.act.length r.act.2.2):=by rw[← had,HST.out.2.1.act.1];exact HST.out.1.cell 2
   clear had
   obtain⟨kb,V1,V2,hkb,hV1,rokp,hV2,hrp,hbp, -⟩:=row_made (ds:=cA pp) (t:=98) u (cA_length zA)
   rw[show u.alloc (.cells (cA zA).toArray 98)=u.alloc (.cells (aA zA) 98) from rfl] at hV1
   rw[show V1.setRow kb (cA pp).toArray=V1.setRow kb (aA pp) from rfl] at hV2
   have v32:=(hrp.cell 32).trans (cA_at (aA_32 pp))
   have v33:=(hrp.cell 33).trans (cA_at (aA_33 pp))
   have v34:=(hrp.cell 34).trans (cA_at (aA_34 pp))
   have HRP:=Lib.hid (And.intro hrp hbp)
   clear hrp hbp
   by_cases h1:pp.state=1
   ·rw[if_pos h1] at hvv
    have q1:(pp.state==1)=true:=by simpa using h1
    clear h1
    cases hq:posL s.kept x with
    | none =>
     rw[hq] at hvv
     dsimp only at hvv
     subst hvv
     obtain rfl:jj=-1:=by rw[← HJ.out];exact idx_none hq
     clear hq
     go_wp2
     go_quiet (fail)
     go_wp2
     go_ret3
     exact⟨rfl,by first|exact Below.step (Below.step HST.out.2.2 HRP.out.2) (below_drewN _ _)|(rw[← hg];exact Below.step (Below.step HST.out.2.2 HRP.out.2) (below_drewN _ _))⟩
    | some J =>
     rw[hq] at hvv
     dsimp only at hvv
     obtain⟨hJ, -, -⟩:=pos_some hq
     have hpk:ptK s.kept J=s.kept[J]:=ptK_eq hJ
     obtain rfl:jj=(J:Int):=by rw[← HJ.out];exact idx_some hq
     have hJ1:(J:Int)<(s.kept.length:Int):=by omega
     have hJ0:(0:Int)≤(J:Int):=Int.natCast_nonneg J
     obtain⟨pk,hpk2⟩:∃ pk,s.kept[J]=pk:=⟨_,rfl⟩
     have HPK:=Lib.hid hpk2
     rw[hpk,hpk2] at hvv
     subst hvv
     clear hq hpk hpk2
     obtain⟨bd,hbd, -, -,hatk⟩:=Sl.pt (HST.out.2.1.kept.2.2.1) hJ
     rw[HPK.out] at hatk
     have jk:u.cell? ⟨g,3,none⟩=some (.slice (some bd) s.kept.length r.kept.2.2):=by rw[← hbd,HST.out.2.1.kept.1];exact HST.out.1.cell 3
     have b34:=(hatk.keep HRP.out.2).f34
     have jk2:=cell_below jk HRP.out.2
     clear hbd hatk
     go_wp2
     go_quiet (fail)
     go_wp2
     go_ret3
     exact⟨rfl,by first|exact Below.step (Below.step HST.out.2.2 HRP.out.2) (below_drewN _ _)|(rw[← hg];exact Below.step (Below.step HST.out.2.2 HRP.out.2) (below_drewN _ _))⟩
   ·rw[if_neg h1] at hvv
    subst hvv
    have q1:(pp.state==1)=false:=by simpa using h1
    clear h1
    go_wp2
    go_quiet (fail)
    go_wp2
    go_ret3
    exact⟨rfl,by first|exact Below.step (Below.step HST.out.2.2 HRP.out.2) (below_drewN _ _)|(rw[← hg];exact Below.step (Below.step HST.out.2.2 HRP.out.2) (below_drewN _ _))⟩
end Go.Proofs.YtgojaelkdpabkaaGreatDoor
