/- Taker's keep. -/
import Derived.Test.YtgojaelkdpabkaaGreatDoorMTkr
import Derived.Test.YtgojaelkdpabkaaGreatDoorMRfk
import Derived.Test.YtgojaelkdpabkaaGreatDoorMAnyG
namespace Go.Proofs.YtgojaelkdpabkaaGreatDoor
open Go.RowKit
section
variable {P : Program} (w : World)
theorem wp_append_slat {α:Type} {o:Oper} {a:Act} {K:Act→World→Prop} {Q:Exit→Act→World→Prop} (sx x:Operand) (t:TypeId)
  (ho:o.op=.call { callee:=.builtin .append,args:=#[sx,x],argTypes:=#[t,t] })
  (base:Nat) (e:TypeId) (s bytes:Nat) (enc:α→List Value) (ht:P.underlying t=some (.slice e)) (hi:(P.info? e).map (fun i=>(i.zero.map (·.cells.size),i.size,i.bytes))=some (some s,s,bytes)) (hsz:0<s)
  (hs:∀ x,(enc x).length=s) (h1:∀ x,∀ u∈enc x,u.oneCell'=true)
  (v:Value) (xs:List α) (hv:a.eval sx=v) (hown:Own w base e s enc v xs)
  (A:Option Addr) (m c:Nat) (ys:List α) (hm:ys.length=m) (hx:a.eval x=.slice A m c) (hsl:Sl w enc A ys)
  (hlen:(xs.length+m) * bytes≤140737488355328) (hl2:xs.length+m≤9223372036854775807) (hbase:base≤w.heap.size)
  (h:∀ v' w',Own w' base e s enc v' (xs++ys)→w.grownBy w' v.ownBlock→(v'.ownBlock=v.ownBlock∨v'.ownBlock=some w.heap.size)→K (a.put o.dst v') w'):o.wp P a w K Q:=by
 subst hm
 cases hq:P.info? e with
 | none=>rw[hq] at hi;cases hi
 | some i =>
  simp only[hq,Option.map_some,Option.some.injEq,Prod.mk.injEq] at hi
  obtain⟨hz,hsi,hby⟩:=hi
  cases hz0:i.zero with
  | none=>rw[hz0] at hz;cases hz
  | some z =>
   simp only[hz0,Option.map_some,Option.some.injEq] at hz
   have hones:∀ u∈ys.flatMap enc,u.oneCell'=true:=by
    intro u hu
    obtain⟨y,_,hy⟩:=List.mem_flatMap.1 hu
    exact h1 y u hy
   have fin:∀ v' w',w'.ownsRow base e s v' (xs.length+ys.length) (xs.flatMap enc++ys.flatMap enc)→Own w' base e s enc v' (xs++ys):=by
    intro v' w' ho
    unfold Own
    rw[List.length_append,List.flatMap_append]
    exact ho
   by_cases hys:ys=[]
   ·subst hys
    have hrun:(Builtin.append_ #[t,t] o.type #[v,.slice A 0 c]).run P w=.ok v w:=by
     rcases hown.2 with⟨rfl,_⟩|⟨g,cap,cur,rfl,_,_,hnc,_⟩
     ·cases A <;> simp[Builtin.append_,run_underlying ht,sizeOf,typeInfo,hq,Builtin.lenOf,Builtin.firstCells,loadCells,loadCellsFrom]
     ·cases A <;> simp[Builtin.append_,run_underlying ht,sizeOf,typeInfo,hq,Builtin.lenOf,Builtin.firstCells,hnc,storeCells,loadCells,loadCellsFrom]
    unfold Oper.wp execOp
    simp only[ho,resolve,invoke,builtin,Sem.run_bind,Sem.run_pure,Result.andThen_ok,List.map_toArray,List.map_cons,List.map_nil,hv,hx,List.length_nil,hrun]
    exact h v w (fin v w (by have:=hown;unfold Own at this;simpa using this)) (World.grownBy.refl w _) (Or.inl rfl)
   ·obtain⟨ad,rfl,hat⟩:=hsl hys
    obtain⟨v',w',hr,h2,h3,h4,h5⟩:=run_append_own_at (P:=P) w base t o.type e i z s bytes ht hq hz0 hsi hby hz hsz v xs.length (xs.flatMap enc) hown ad ys.length c (ys.flatMap enc) (flatMap_length enc s hs ys) hat.2 hones (by unfold maxLen;omega) hlen hbase
    unfold Oper.wp execOp
    simp only[ho,resolve,invoke,builtin,Sem.run_bind,Sem.run_pure,Result.andThen_ok,List.map_toArray,List.map_cons,List.map_nil,hv,hx,hr]
    exact h v' w' (fin v' w' h2) h3 h5
end
def keepQ (l:List Pt) (a:Pt):List Pt:=let m:=withoutL l a.id++[{ a with state:=4 }];if 8<m.length then m.drop (m.length - 8) else m
def keepP (l:List Pt) (a:Pt):List Pt:=if a.state≠2∨a.bytes.size=0 then l else keepQ l a
def KpP (b:Nat) (s':Tk) (F:List Nat) (va:SlV) (w w':World):Prop:=∃ F' vk',TkR b s' F' va vk' w'∧Kp F F' w w'
def KSt (b:Nat) (s:Tk) (F:List Nat) (va vk:SlV) (p4:Pt) (W0:World) (v1 v2:SlV) (u:World):Bool→Bool→Bool→Prop
 | false,_,_=>Below W0.heap.size W0 u
 | true,false,_=>W0.grownBy u (Value.slice vk.1 vk.2.1 vk.2.2).ownBlock∧Own u 0 86 35 cA (.slice v1.1 v1.2.1 v1.2.2) (withoutL s.kept p4.id)∧(Value.slice v1.1 v1.2.1 v1.2.2).ownBlock=(Value.slice vk.1 vk.2.1 vk.2.2).ownBlock
 | true,true,false=>W0.grownBy u (Value.slice vk.1 vk.2.1 vk.2.2).ownBlock∧Own u 0 86 35 cA (.slice v2.1 v2.2.1 v2.2.2) (withoutL s.kept p4.id++[p4])∧∀ ad,v2.1=some ad→(∃ ad0,vk.1=some ad0∧ad0.block=ad.block)∨W0.heap.size≤ad.block
 | true,true,true=>TkR b { s with kept:=withoutL s.kept p4.id++[p4] } (blkL v2++F) va v2 u∧Kp F (blkL v2++F) W0 u
theorem grown_below {w u u':World} {o:Option Nat} (h:w.grownBy u o) (hb:Below u.heap.size u u'):w.grownBy u' o:=⟨hb.os.trans h.os,hb.tape.trans h.tape,hb.output.trans h.output,Nat.le_trans h.size hb.size,fun k hk hne=>(hb.block k (Nat.lt_of_lt_of_le hk h.size)).trans (h.block k hk hne)⟩
theorem below_grown {w u u':World} {o:Option Nat} (h:Below w.heap.size w u) (hb:u.grownBy u' o):w.grownBy u' o:=⟨hb.os.trans h.os,hb.tape.trans h.tape,hb.output.trans h.output,Nat.le_trans h.size hb.size,fun k hk hne=>(hb.block k (Nat.lt_of_lt_of_le hk h.size) hne).trans (h.block k hk)⟩
theorem grown_grown {w u u':World} {o o':Option Nat} (h:w.grownBy u o) (hb:u.grownBy u' o') (ho:o'=o∨∀ k,o'=some k→w.heap.size≤k):w.grownBy u' o:=⟨hb.os.trans h.os,hb.tape.trans h.tape,hb.output.trans h.output,Nat.le_trans h.size hb.size,fun k hk hne=>(hb.block k (Nat.lt_of_lt_of_le hk h.size) (fun e=>by
 rcases ho with ho|ho
 ·exact hne (e.trans ho)
 ·have:=ho k e.symm;omega)).trans (h.block k hk hne)⟩
theorem KSt.below {b:Nat} {s:Tk} {F:List Nat} {va vk:SlV} {p4:Pt} {W0:World} {v1 v2:SlV} {u u':World} {d1 d2 d3:Bool} (h:KSt b s F va vk p4 W0 v1 v2 u d1 d2 d3) (hb:Below u.heap.size u u'):KSt b s F va vk p4 W0 v1 v2 u' d1 d2 d3:=by
 cases d1 with
 | false=>exact Below.step h hb
 | true =>
  cases d2 with
  | false=>exact⟨grown_below h.1 hb,h.2.1.keep hb,h.2.2⟩
  | true =>
   cases d3 with
   | false=>exact⟨grown_below h.1 hb,h.2.1.keep hb,h.2.2⟩
   | true=>exact⟨h.1.keep hb,h.2.trans (Kp.of_below hb)⟩
structure KW (b g:Nat) (s:Tk) (F:List Nat) (va vk:SlV) (p4:Pt) (W0:World) (σ:SlV×Nat×SlV) (D:Nat→Bool) (u:World):Prop where
 row:Row u g (cA p4) 86
 one:D 9=true→Sl u cA (some ⟨σ.2.1,0,none⟩) [p4]∧W0.heap.size≤σ.2.1
 st:KSt b s F va vk p4 W0 σ.1 σ.2.2 u (D 7) (D 10) (D 13)
theorem KW.read {b g:Nat} {s:Tk} {F:List Nat} {va vk:SlV} {p4:Pt} {W0:World} {σ:SlV×Nat×SlV} {D:Nat→Bool} {u u':World} (h:KW b g s F va vk p4 W0 σ D u) (i:Nat) (hi:i≠9∧i≠7∧i≠10∧i≠13) (hb:Below u.heap.size u u'):KW b g s F va vk p4 W0 σ (AnyO.addD D i) u':=by
 have e (j:Nat) (hj:j≠i):AnyO.addD D i j=D j:=by unfold AnyO.addD;rw[if_neg hj]
 exact⟨h.row.keep hb,fun hd=>by rw[e 9 (Ne.symm hi.1)] at hd;exact⟨(h.one hd).1.keep hb,(h.one hd).2⟩,by rw[e 7 (Ne.symm hi.2.1),e 10 (Ne.symm hi.2.2.1),e 13 (Ne.symm hi.2.2.2)];exact h.st.below hb⟩
theorem kst_size {b:Nat} {s:Tk} {F:List Nat} {va vk:SlV} {p4:Pt} {W0:World} {v1 v2:SlV} {u:World} {d1 d2 d3:Bool} (h:KSt b s F va vk p4 W0 v1 v2 u d1 d2 d3):W0.heap.size≤u.heap.size:=by
 cases d1 with
 | false=>exact Below.size h
 | true =>
  cases d2 with
  | false=>exact World.grownBy.size h.1
  | true =>
   cases d3 with
   | false=>exact World.grownBy.size h.1
   | true=>exact Kp.size h.2
set_option maxRecDepth 100000 in
set_option maxHeartbeats 3200000 in
theorem keep43_yes (b:Nat) (s:Tk) (F:List Nat) (va vk:SlV) (a:Pt) (w:World) (h:TkR b s F va vk w) (hk8:s.kept.length≤8) (hs:a.state=2) (hb:a.bytes.size≠0) :
  Calls Tryz.prog 43 #[.pointer (some ⟨b,0,none⟩),vA a] w fun e w'=>e=.returned (.tuple #[])∧KpP b { s with kept:=keepQ s.kept a } F va w w':=by
 obtain⟨g,hgg⟩:∃ g,w.heap.size=g:=⟨_,rfl⟩
 obtain⟨p4,hp4⟩:∃ p4:Pt,{ a with state:=4 }=p4:=⟨_,rfl⟩
 have hid:a.id=p4.id:=by rw[← hp4]
 have HQ:=Lib.hid (show keepQ s.kept a=(if 8<(withoutL s.kept p4.id++[p4]).length then (withoutL s.kept p4.id++[p4]).drop ((withoutL s.kept p4.id++[p4]).length - 8) else withoutL s.kept p4.id++[p4]) by unfold keepQ;rw[hp4,hid])
 have hrow:Row (w.alloc (.cells (aA a) 86)) g (cA a) 86:=by rw[← hgg];exact Row.new w (cA a) _
 obtain⟨W0,hW0⟩:∃ W0,(w.alloc (.cells (aA a) 86)).setCell ⟨g,33,none⟩ (.int .i64 4)=W0:=⟨_,rfl⟩
 have hbW:Below w.heap.size w W0:=by rw[← hW0];exact Below.setCell' (below_alloc _ _) (by rw[hgg];exact Nat.le_refl _) 33 _
 have HB:=Lib.hid (show Row W0 g (cA p4) 86∧TkR b s F va vk W0 by
  refine⟨?_,h.keep hbW⟩
  rw[← hW0,← hp4,← cA_set33]
  exact hrow.set 33 _)
 have HBW:=Lib.hid hbW
 have HBL:=Lib.hid (show b<g by rw[← hgg];exact h.blt)
 have HM:=Lib.hid (show s.kept.length≤1000000 by omega)
 have HG:=Lib.hid (show ∀ ad,vk.1=some ad→ad.block<g by intro ad e;rw[← hgg];exact h.klt e)
 have k33:(w.alloc (.cells (aA a) 86)).cell? ⟨g,33,none⟩=some (.int .i64 2):=by rw[← hs];exact (hrow.cell 33).trans (cA_at (aA_33 a))
 have k34:(w.alloc (.cells (aA a) 86)).cell? ⟨g,34,none⟩=some (.string a.bytes):=(hrow.cell 34).trans (cA_at (aA_34 a))
 have f33:=hrow.fz 33
 have hbi:a.bytes.toList.isEmpty=false:=by rw[isE];exact decide_eq_false hb
 have hbe:¬ a.bytes.toList=[]:=by
  intro e
  rw[e] at hbi
  cases hbi
 clear h hrow hbW hid hp4 hs hb
 go_enter Tryz.func43,Tryz.ntmps43
 go_wp2

 refine AnyO.wp_anyI (by kernel_rfl) (by kernel_rfl) (AnyO.InvG (σ:=SlV×Nat×SlV) (fun σ=>AnyO.pvL [some (.pointer (some ⟨b,0,none⟩)),some (.pointer (some ⟨b,0,none⟩)),some (.pointer (some ⟨b,0,none⟩)),some (.pointer (some ⟨b,3,none⟩)),some (.slice vk.1 vk.2.1 vk.2.2),some (.pointer (some ⟨g,0,none⟩)),some (vI p4.id),some (.slice σ.1.1 σ.1.2.1 σ.1.2.2),some (vA p4),some (.slice (some ⟨σ.2.1,0,none⟩) 1 1),some (.slice σ.2.2.1 σ.2.2.2.1 σ.2.2.2.2),some (.pointer (some ⟨b,0,none⟩)),some (.pointer (some ⟨b,3,none⟩)),none]) (fun σ D u=>KW b g s F va vk p4 W0 σ D u)) (AnyO.InvG.start (g:=((none,0,0),0,(none,0,0))) (⟨HB.out.1.keep (below_drew _),(fun h=>by cases h),below_drew _⟩)) ?_ ?_
 ·intro i hi
  have hi2:i=4∨i=7∨i=9∨i=10∨i=13∨i=0∨i=1∨i=2∨i=3∨i=5∨i=6∨i=8∨i=11∨i=12:=by simp only[List.size_toArray,List.length_cons,List.length_nil] at hi;omega
  clear hi
  rcases hi2 with rfl|rfl|rfl|rfl|rfl|rfl|rfl|rfl|rfl|rfl|rfl|rfl|rfl|rfl
  ·refine AnyO.I rfl [3] ?_;rintro D vs u σ Q h0 hC hp ac hb K hK
   have s17:_=_:=AnyO.sv 17 3 hb hp Q
   have hf7:=AnyO.fls (hC.out 7) h0 (show AnyO.pre _ 7=[4,6] from by kernel_rfl) (by decide)
   have hst:=Q.out.2.st
   rw[hf7] at hst
   have rr:=(HB.out.2.keep hst).c3
   clear hst hf7
   go_simp
   exact hK _ _ (AnyO.InvG.step (g:=σ) Q.out.1 rfl (Q.out.2.read 4 (by decide) (Below.refl _ _)))
  ·refine AnyO.I rfl [4,6] ?_;rintro D vs u σ Q h0 hC hp ac hb K hK
   have s18:_=_:=AnyO.sv 18 4 hb hp Q
   have s20:_=_:=AnyO.sv 20 6 hb hp Q
   have hf10:=AnyO.fls (hC.out 10) h0 (show AnyO.pre _ 10=[7,9,7] from by kernel_rfl) (by decide)
   go_simp
   have hst:=Q.out.2.st
   rw[h0] at hst
   go_at_call 42
   refine (without42 0 _ s.kept p4.id u (HB.out.2.keep hst).ok HM.out).mono ?_
   rintro e w2 ⟨v',rfl,ho',hg',hat'⟩
   obtain⟨A1,c1,rfl, -, -⟩:=Own.sl ho'
   refine hK _ _ (AnyO.InvG.ghost (g:=σ) ((A1,_,c1),σ.2.1,σ.2.2) Q.out.1 ?_ rfl ?_)
   ·intro j hj hq
    rcases j with _|_|_|_|_|_|_|_|_|_|_|_|_|_|j
    all_goals first|exact hq|exact absurd (show D 7=true from hj) (by rw[h0];decide)
   ·have hgb:g<u.heap.size:=Q.out.2.row.lt
    have hne:(Value.slice vk.1 vk.2.1 vk.2.2).ownBlock≠some g:=fun e=>by
     obtain⟨ad,e1,e2⟩:=blk_of e
     have:=HG.out ad e1
     omega
    refine⟨Q.out.2.row.same (hg'.block g hgb (fun e=>hne e.symm)),fun hd=>?_,?_⟩
    ·rw[show AnyO.addD D 7 9=D 9 from rfl] at hd
     obtain⟨h1,h2⟩:=Q.out.2.one hd
     obtain⟨ad,e1,hat⟩:=h1 (by simp)
     cases e1
     refine⟨fun _=>⟨_,rfl,Nat.lt_of_lt_of_le hat.1 hg'.size,fun j u2 hj=>?_⟩,h2⟩
     rw[← hat.2 j u2 hj]
     unfold World.cell?
     rw[block_of_add,hg'.block _ hat.1 (fun e=>by
      obtain⟨ad,e1,e2⟩:=blk_of e.symm
      have:=HB.out.2.klt e1
      rw[e2] at this
      exact absurd this (Nat.not_lt.2 h2))]
    ·rw[show AnyO.addD D 7 7=true from rfl,show AnyO.addD D 7 10=D 10 from rfl,hf10]
     exact⟨below_grown hst hg',ho',hat'⟩
  ·refine AnyO.I rfl [8] ?_;rintro D vs u σ Q h0 hC hp ac hb K hK
   have s22:_=_:=AnyO.sv 22 8 hb hp Q
   go_simp
   refine hK _ _ (AnyO.InvG.ghost (g:=σ) (σ.1,u.heap.size,σ.2.2) Q.out.1 ?_ rfl ?_)
   ·intro j hj hq
    rcases j with _|_|_|_|_|_|_|_|_|_|_|_|_|_|j
    all_goals first|exact hq|exact absurd (show D 9=true from hj) (by rw[h0];decide)
   ·have hb:=below_alloc u (.cells (aAs [p4]) 86)
    refine⟨Q.out.2.row.keep hb,fun _=>⟨fun _=>⟨_,rfl,at_new u _ _ _ rfl⟩,?_⟩,?_⟩
    ·have:=Q.out.2.st
     exact kst_size this
    ·exact Q.out.2.st.below hb
  ·refine AnyO.I rfl [7,9,7] ?_;rintro D vs u σ Q h0 hC hp ac hb K hK
   have s21:_=_:=AnyO.sv 21 7 hb hp Q
   have s23:_=_:=AnyO.sv 23 9 hb hp Q
   have hp7:D 7=true:=hp.out 7 (by decide)
   have hp9:D 9=true:=hp.out 9 (by decide)
   have hf13:=AnyO.fls (hC.out 13) h0 (show AnyO.pre _ 13=[12,10,10,0,1,2,3,4,5,6,7,8,9,10] from by kernel_rfl) (by decide)
   have hst:=Q.out.2.st
   rw[hp7,h0] at hst
   obtain⟨h91,h92⟩:=Q.out.2.one hp9
   refine wp_append_slat u (.tmp 21) (.tmp 23) 78 rfl 0 86 35 64 cA underPAs rowPA (by decide) cA_length cA_one _ (withoutL s.kept p4.id) (ev_tmp s21) hst.2.1 _ 1 1 [p4] rfl (ev_tmp s23) h91 (by have:=without_len s.kept p4.id;have:=HM.out;omega) (by have:=without_len s.kept p4.id;have:=HM.out;omega) (Nat.zero_le _) ?_
   intro v2 w2 ho2 hg2 hat2
   obtain⟨A2,c2,rfl, -, -⟩:=Own.sl ho2
   refine hK _ _ (AnyO.InvG.ghost (g:=σ) (σ.1,σ.2.1,(A2,_,c2)) Q.out.1 ?_ rfl ?_)
   ·intro j hj hq
    rcases j with _|_|_|_|_|_|_|_|_|_|_|_|_|_|j
    all_goals first|exact hq|exact absurd (show D 10=true from hj) (by rw[h0];decide)
   ·have hgb:g<u.heap.size:=Q.out.2.row.lt
    have hne:(Value.slice σ.1.1 σ.1.2.1 σ.1.2.2).ownBlock≠some g:=fun e=>by
     rw[hst.2.2] at e
     obtain⟨ad,e1,e2⟩:=blk_of e
     have:=HG.out ad e1
     omega
    refine⟨Q.out.2.row.same (hg2.block g hgb (fun e=>hne e.symm)),fun _=>?_,?_⟩
    ·obtain⟨ad,e1,hat⟩:=h91 (by simp)
     cases e1
     refine⟨fun _=>⟨_,rfl,Nat.lt_of_lt_of_le hat.1 hg2.size,fun j u2 hj=>?_⟩,h92⟩
     rw[← hat.2 j u2 hj]
     unfold World.cell?
     rw[block_of_add,hg2.block _ hat.1 (fun e=>by
      rw[hst.2.2] at e
      obtain⟨ad,e1,e2⟩:=blk_of e.symm
      have:=HB.out.2.klt e1
      rw[e2] at this
      exact absurd this (Nat.not_lt.2 h92))]
    ·rw[show AnyO.addD D 10 7=D 7 from rfl,hp7,show AnyO.addD D 10 10=true from rfl,show AnyO.addD D 10 13=D 13 from rfl,hf13]
     refine⟨grown_grown hst.1 hg2 (Or.inl hst.2.2),ho2,fun ad e=>?_⟩
     have e0:A2=some ad:=e
     subst e0
     rcases hat2 with h1|h1
     ·rw[hst.2.2] at h1
      obtain⟨ad0,e1,e2⟩:=blk_of h1.symm
      exact Or.inl ⟨ad0,e1,e2⟩
     ·have e3:ad.block=u.heap.size:=by simpa[Value.ownBlock] using h1
      exact Or.inr (by rw[e3];exact hst.1.size)
  ·refine AnyO.I rfl [12,10,10,0,1,2,3,4,5,6,7,8,9,10] ?_;rintro D vs u σ Q h0 hC hp ac hb K hK
   have s26:_=_:=AnyO.sv 26 12 hb hp Q
   have s24:_=_:=AnyO.sv 24 10 hb hp Q
   have hp10:D 10=true:=hp.out 10 (by decide)
   have hp7:D 7=true:=hp.out 7 (by decide)
   have hp9:D 9=true:=hp.out 9 (by decide)
   have hst:=Q.out.2.st
   rw[hp7,hp10,h0] at hst
   have hrb:Row u b (cT ⟨s.win,s.opn,va,vk⟩) 80:=HB.out.2.row.same (hst.1.block b HB.out.2.blt (fun e=>by
    obtain⟨ad,h1,h2⟩:=blk_of e.symm
    exact (HB.out.2.kF ad h1).2 h2))
   have rf:=hrb.fz 3
   have rc:=hrb.cell 3
   have hset:=HB.out.2.setK hst.1 hst.2.1 hst.2.2
   have HSET:=Lib.hid (And.intro hset hrb)
   clear hset hst hrb
   go_simp
   have hgne:g≠b:=fun e=>by have:=HBL.out;omega
   refine hK undef _ (AnyO.InvG.step (g:=σ) Q.out.1 trivial ⟨?_,fun _=>?_,?_⟩)
   ·exact Q.out.2.row.same (heap_set_other u b 3 _ g hgne)
   ·obtain⟨h91,h92⟩:=Q.out.2.one hp9
    obtain⟨ad,e1,hat⟩:=h91 (by simp)
    cases e1
    refine⟨fun _=>⟨_,rfl,by simpa[World.setCell] using hat.1,fun j u2 hj=>?_⟩,h92⟩
    rw[← hat.2 j u2 hj]
    unfold World.cell?
    rw[block_of_add,heap_set_other u b 3 _ _ (fun e=>by have h1:σ.2.1=b:=e;have:=HB.out.2.blt;omega)]
   ·rw[show AnyO.addD D 13 7=D 7 from rfl,hp7,show AnyO.addD D 13 10=D 10 from rfl,hp10,show AnyO.addD D 13 13=true from rfl]
    exact HSET.out.1
  all_goals
   refine AnyO.J rfl ?_;rintro D vs u σ Q h0 hC hp ac hb K hK
   try have s0:ac.tmps[0]?.getD undef=.pointer (some ⟨b,0,none⟩):=by rw[hb.out];kernel_rfl
   try have s15:_=_:=AnyO.sv 15 1 hb hp Q
   try have s16:_=_:=AnyO.sv 16 2 hb hp Q
   try have s3:ac.tmps[3]?.getD undef=.pointer (some ⟨g,0,none⟩):=by rw[hb.out];kernel_rfl
   try have s19:_=_:=AnyO.sv 19 5 hb hp Q
   try have s14:_=_:=AnyO.sv 14 0 hb hp Q
   try have s25:_=_:=AnyO.sv 25 11 hb hp Q
   obtain⟨rr1_0,rr2_0⟩:=row_Aid Q.out.2.row
   have rr1_1:=(Row.okw Q.out.2.row (cA_length p4)).1
   have rr2_1:rdA u ⟨g,0,none⟩ 35=vA p4:=(Row.okw Q.out.2.row (cA_length p4)).2
   go_simp
   first|exact hK _ _ (AnyO.InvG.step (g:=σ) Q.out.1 rfl (Q.out.2.read 0 (by decide) (Below.refl _ _)))|exact hK _ _ (AnyO.InvG.step (g:=σ) Q.out.1 rfl (Q.out.2.read 1 (by decide) (Below.refl _ _)))|exact hK _ _ (AnyO.InvG.step (g:=σ) Q.out.1 rfl (Q.out.2.read 2 (by decide) (Below.refl _ _)))|exact hK _ _ (AnyO.InvG.step (g:=σ) Q.out.1 rfl (Q.out.2.read 3 (by decide) (Below.refl _ _)))|exact hK _ _ (AnyO.InvG.step (g:=σ) Q.out.1 rfl (Q.out.2.read 5 (by decide) (Below.refl _ _)))|exact hK _ _ (AnyO.InvG.step (g:=σ) Q.out.1 rfl (Q.out.2.read 6 (by decide) (Below.refl _ _)))|exact hK _ _ (AnyO.InvG.step (g:=σ) Q.out.1 rfl (Q.out.2.read 8 (by decide) (Below.refl _ _)))|exact hK _ _ (AnyO.InvG.step (g:=σ) Q.out.1 rfl (Q.out.2.read 11 (by decide) (Below.refl _ _)))|exact hK _ _ (AnyO.InvG.step (g:=σ) Q.out.1 rfl (Q.out.2.read 12 (by decide) (Below.refl _ _)))
 ·intro D vs u hI hD
  obtain⟨σ,hP,hW⟩:=hI
  have e0:_=_:=hP 0 (hD 0 (by decide))
  have e1:_=_:=hP 1 (hD 1 (by decide))
  have e2:_=_:=hP 2 (hD 2 (by decide))
  have e3:_=_:=hP 3 (hD 3 (by decide))
  have e4:_=_:=hP 4 (hD 4 (by decide))
  have e5:_=_:=hP 5 (hD 5 (by decide))
  have e6:_=_:=hP 6 (hD 6 (by decide))
  have e7:_=_:=hP 7 (hD 7 (by decide))
  have e8:_=_:=hP 8 (hD 8 (by decide))
  have e9:_=_:=hP 9 (hD 9 (by decide))
  have e10:_=_:=hP 10 (hD 10 (by decide))
  have e11:_=_:=hP 11 (hD 11 (by decide))
  have e12:_=_:=hP 12 (hD 12 (by decide))
  have hst:=hW.st
  rw[hD 7 (by decide),hD 10 (by decide),hD 13 (by decide)] at hst
  have HST:=Lib.hid hst
  clear hst
  have HW:=Lib.hid hW
  clear hW hP hD
  rw[puts_range [some 14,some 15,some 16,some 17,some 18,some 19,some 20,some 21,some 22,some 23,some 24,some 25,some 26,none] (by kernel_rfl)]
  simp only[putL,Nat.reduceAdd,e0,e1,e2,e3,e4,e5,e6,e7,e8,e9,e10,e11,e12]
  clear e0 e1 e2 e3 e4 e5 e6 e7 e8 e9 e10 e11 e12
  obtain⟨hT,hKp⟩:=HST.out
  have hl:=hT.lk
  have hck:=hT.ck
  have cc3:=hT.c3
  have ff3:=hT.row.fz 3
  obtain⟨q,hq⟩:∃ q,withoutL s.kept p4.id++[p4]=q:=⟨_,rfl⟩
  have hql:q.length≤9:=by rw[← hq,List.length_append,List.length_singleton];have:=without_len s.kept p4.id;omega
  rw[hq] at hT hl hck
  dsimp only at hl hck
  have HQ2:=Lib.hid hq
  have HT:=Lib.hid hT
  have HKp:=Lib.hid hKp
  clear hq hT hKp
  rw[hl] at cc3
  by_cases h9:q.length=9
  ·have hok0:Own u 0 86 35 cA (.slice σ.2.2.1 σ.2.2.2.1 σ.2.2.2.2) q:=HT.out.ok
   rcases hok0.rowOf with⟨_,he⟩|⟨g0,c0,cs,he,_,_,hc0,_⟩
   ·rw[he] at h9
    cases h9
   have he2:=Value.slice.inj he
   rw[he2.1,h9,he2.2.2] at cc3
   have hown:Own u 0 86 35 cA (.slice (some ⟨g0,0,none⟩) 9 c0) q:=by
    have h1:=hok0
    rw[he,h9] at h1
    exact h1
   have hks:keepQ s.kept a=q.drop 1:=by rw[HQ.out,HQ2.out,if_pos (by omega),h9]
   have HKS:=Lib.hid (And.intro hks (And.intro hown (And.intro he2.1 h9)))
   have hg0b:g0≠b:=(HT.out.kF ⟨g0,0,none⟩ he2.1).2
   have hbl:=HT.out.blt
   rw[h9] at hc0
   clear hown hks he he2 hl hck hok0
   have HDL:=Lib.hid (delete68 0 g0 9 c0 1 q u HKS.out.2.1 HKS.out.2.2.2 (by decide) (by decide) (by decide) hc0)
   have H3L:=Lib.hid (show ∀ w3,Own w3 0 86 35 cA (.slice (some ⟨g0,0,none⟩) 8 c0) (q.drop 1)→One g0 u w3→_ from fun w3 ho3 h13=>HT.out.setK (vk':=(some ⟨g0,0,none⟩,8,c0)) (by rw[of_blk (v:=σ.2.2) HKS.out.2.2.1];exact⟨h13.os,h13.tape,h13.output,h13.size,fun k hk hn=>h13.out k hk (fun e=>hn (by rw[e]))⟩) ho3 (fun ad e=>Or.inl ⟨⟨g0,0,none⟩,HKS.out.2.2.1,by cases e;rfl⟩))
   go_simp
   go_wp2_with (go_at_call 68;refine HDL.out.mono ?_;rintro e w3 ⟨rfl,ho3,h13⟩;have rb3:=h13.row HT.out.row hg0b.symm;have ff4:=rb3.fz 3;have cc4:=rb3.cell 3;have H3:=Lib.hid (H3L.out w3 ho3 h13);clear ho3 h13 rb3)
   go_end0
   exact⟨rfl,⟨_,_,by rw[HKS.out.1];exact H3.out.1,((Kp.of_below HBW.out).trans HKp.out).trans H3.out.2⟩⟩
  ·have q8:¬ (8:Int)<(q.length:Int):=by omega
   have hks:keepQ s.kept a=q:=by rw[HQ.out,HQ2.out,if_neg (by omega)]
   have HKS:=Lib.hid hks
   clear hks hck hl
   go_simp
   go_wp2
   go_end0
   exact⟨rfl,⟨_,_,by rw[HKS.out];exact HT.out,(Kp.of_below HBW.out).trans HKp.out⟩⟩

set_option maxRecDepth 100000 in
theorem keep43_no (b:Nat) (a:Pt) (w:World) (hs:a.state≠2∨a.bytes.size=0):Calls Tryz.prog 43 #[.pointer (some ⟨b,0,none⟩),vA a] w fun e w'=>e=.returned (.tuple #[])∧Below w.heap.size w w':=by
 obtain⟨g,hgg⟩:∃ g,w.heap.size=g:=⟨_,rfl⟩
 have hrow:Row (w.alloc (.cells (aA a) 86)) g (cA a) 86:=by rw[← hgg];exact Row.new w (cA a) _
 have k33:(w.alloc (.cells (aA a) 86)).cell? ⟨g,33,none⟩=some (.int .i64 a.state):=(hrow.cell 33).trans (cA_at (aA_33 a))
 have k34:(w.alloc (.cells (aA a) 86)).cell? ⟨g,34,none⟩=some (.string a.bytes):=(hrow.cell 34).trans (cA_at (aA_34 a))
 clear hrow
 by_cases h2:a.state=2
 ·have hbi:a.bytes.toList.isEmpty=true:=by rw[isE];exact decide_eq_true (hs.resolve_left (fun h=>h h2))
  have hbe:a.bytes.toList=[]:=by simpa using hbi
  rw[h2] at k33
  clear hs h2
  go_enter Tryz.func43,Tryz.ntmps43
  go_wp2
  refine bodyPost_ret (results_none rfl _ _ _) rfl ?_
  exact⟨rfl,below_alloc _ _⟩
 ·have q1:(a.state != 2)=true:=by simpa using h2
  clear hs h2
  go_enter Tryz.func43,Tryz.ntmps43
  go_wp2
  refine bodyPost_ret (results_none rfl _ _ _) rfl ?_
  exact⟨rfl,below_alloc _ _⟩
theorem keep43 (b:Nat) (s:Tk) (F:List Nat) (va vk:SlV) (a:Pt) (w:World) (h:TkR b s F va vk w) (hk8:s.kept.length≤8) :
  Calls Tryz.prog 43 #[.pointer (some ⟨b,0,none⟩),vA a] w fun e w'=>e=.returned (.tuple #[])∧KpP b { s with kept:=keepP s.kept a } F va w w':=by
 by_cases hs:a.state≠2∨a.bytes.size=0
 ·refine (keep43_no b a w hs).mono ?_
  rintro e w' ⟨rfl,hb⟩
  have e:keepP s.kept a=s.kept:=by unfold keepP;rw[if_pos hs]
  rw[e]
  exact⟨rfl,⟨F,vk,h.keep hb,Kp.of_below hb⟩⟩
 ·have e:keepP s.kept a=keepQ s.kept a:=by unfold keepP;rw[if_neg hs]
  rw[e]
  exact keep43_yes b s F va vk a w h hk8 (by omega) (by omega)
theorem keepP_len (l:List Pt) (a:Pt) (h:l.length≤8):(keepP l a).length≤8:=by
 unfold keepP
 split
 ·exact h
 ·unfold keepQ
  dsimp only
  split
  ·rw[List.length_drop];omega
  ·omega
end Go.Proofs.YtgojaelkdpabkaaGreatDoor
