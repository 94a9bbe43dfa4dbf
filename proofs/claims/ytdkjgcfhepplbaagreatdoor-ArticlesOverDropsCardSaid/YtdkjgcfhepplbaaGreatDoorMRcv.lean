/- The reference's Find. -/
import Derived.Test.YtdkjgcfhepplbaaGreatDoorMTkr
namespace Go.Proofs.YtdkjgcfhepplbaaGreatDoor
open Go.RowKit
open Go.RowKit
open Go.RowKit
theorem cA_set33 (a:Pt) (n:Int):(cA a).set 33 (.int .i64 n)=cA { a with state:=n }:=by
 unfold cA
 rw[List.set_append_right _ _ (by rw[cI_length];omega),cI_length]
 rfl
theorem cA_set34 (a:Pt) (s:ByteArray):(cA a).set 34 (.string s)=cA { a with bytes:=s }:=by
 unfold cA
 rw[List.set_append_right _ _ (by rw[cI_length];omega),cI_length]
 rfl
theorem row_Aid {w:World} {b:Nat} {a:Pt} {t:TypeId} (h:Row w b (cA a) t):okA w ⟨b,0,none⟩ 32=true∧rdA w ⟨b,0,none⟩ 32=vI a.id:=by
 have:=h.at_ (cA_id a)
 have h1:=this.ok
 have h2:=this.rd
 rw[cI_length] at h1 h2
 exact⟨h1,h2⟩
open Go.RowKit
section
variable {P : Program} (w : World)
theorem wp_append_slat {α:Type} {o:Oper} {a:Act} {K:Act→World→Prop} {Q:Exit→Act→World→Prop} (sx x:Operand) (t:TypeId)
  (ho:o.op=.call { callee:=.builtin .append,args:=#[sx,x],argTypes:=#[t,t] })
  (base:Nat) (e:TypeId) (s bytes:Nat) (enc:α→List Value) (ht:P.underlying t=some (.slice e)) (hi:(P.info? e).map (fun i=>(i.zero.map (·.cells.size),i.size,i.bytes))=some (some s,s,bytes)) (hsz:0<s)
  (hs:∀ x,(enc x).length=s) (h1:∀ x,∀ u∈enc x,u.oneCell'=true)
  (v:Value) (xs:List α) (hv:a.eval sx=v) (hown:Own w base e s enc v xs)
  (A:Option Addr) (m c:Nat) (ys:List α) (hm:ys.length=m) (hx:a.eval x=.slice A m c) (hsl:Sl w enc A ys)
  (hlen:(xs.length+m) * bytes≤140737488355328) (hl2:xs.length+m≤9223372036854775807) (hbase:base≤w.heap.size)
  (h:∀ v' w',Own w' base e s enc v' (xs++ys)→w.grownBy w' v.ownBlock→(v'.ownBlock=v.ownBlock∨v'.ownBlock=some w.heap.size)→K (a.put o.dst v') w'):o.wp P a w K Q:=by
 subst hm
 cases hq:P.info? e with
 | none=>rw[hq] at hi;cases hi
 | some i =>
  simp only[hq,Option.map_some,Option.some.injEq,Prod.mk.injEq] at hi
  obtain⟨hz,hsi,hby⟩:=hi
  cases hz0:i.zero with
  | none=>rw[hz0] at hz;cases hz
  | some z =>
   simp only[hz0,Option.map_some,Option.some.injEq] at hz
   have hones:∀ u∈ys.flatMap enc,u.oneCell'=true:=by
    intro u hu
    obtain⟨y,_,hy⟩:=List.mem_flatMap.1 hu
    exact h1 y u hy
   have fin:∀ v' w',w'.ownsRow base e s v' (xs.length+ys.length) (xs.flatMap enc++ys.flatMap enc)→Own w' base e s enc v' (xs++ys):=by
    intro v' w' ho
    unfold Own
    rw[List.length_append,List.flatMap_append]
    exact ho
   by_cases hys:ys=[]
   ·subst hys
    have hrun:(Builtin.append_ #[t,t] o.type #[v,.slice A 0 c]).run P w=.ok v w:=by
     rcases hown.2 with⟨rfl,_⟩|⟨g,cap,cur,rfl,_,_,hnc,_⟩
     ·cases A <;> simp[Builtin.append_,run_underlying ht,sizeOf,typeInfo,hq,Builtin.lenOf,Builtin.firstCells,loadCells,loadCellsFrom]
     ·cases A <;> simp[Builtin.append_,run_underlying ht,sizeOf,typeInfo,hq,Builtin.lenOf,Builtin.firstCells,hnc,storeCells,loadCells,loadCellsFrom]
    unfold Oper.wp execOp
    simp only[ho,resolve,invoke,builtin,Sem.run_bind,Sem.run_pure,Result.andThen_ok,List.map_toArray,List.map_cons,List.map_nil,hv,hx,List.length_nil,hrun]
    exact h v w (fin v w (by have:=hown;unfold Own at this;simpa using this)) (World.grownBy.refl w _) (Or.inl rfl)
   ·obtain⟨ad,rfl,hat⟩:=hsl hys
    obtain⟨v',w',hr,h2,h3,h4,h5⟩:=run_append_own_at (P:=P) w base t o.type e i z s bytes ht hq hz0 hsi hby hz hsz v xs.length (xs.flatMap enc) hown ad ys.length c (ys.flatMap enc) (flatMap_length enc s hs ys) hat.2 hones (by unfold maxLen;omega) hlen hbase
    unfold Oper.wp execOp
    simp only[ho,resolve,invoke,builtin,Sem.run_bind,Sem.run_pure,Result.andThen_ok,List.map_toArray,List.map_cons,List.map_nil,hv,hx,hr]
    exact h v' w' (fin v' w' h2) h3 h5
end
def keepQ (l:List Pt) (a:Pt):List Pt:=let m:=withoutL l a.id++[{ a with state:=4 }];if 8<m.length then m.drop (m.length - 8) else m
def keepP (l:List Pt) (a:Pt):List Pt:=if a.state≠2∨a.bytes.size=0 then l else keepQ l a
def KpP (b:Nat) (s':Tk) (F:List Nat) (va:SlV) (w w':World):Prop:=∃ F' vk',TkR b s' F' va vk' w'∧Kp F F' w w'
def KSt (b:Nat) (s:Tk) (F:List Nat) (va vk:SlV) (p4:Pt) (W0:World) (v1 v2:SlV) (u:World):Bool→Bool→Bool→Prop
 | false,_,_=>Below W0.heap.size W0 u
 | true,false,_=>W0.grownBy u (Value.slice vk.1 vk.2.1 vk.2.2).ownBlock∧Own u 0 145 35 cA (.slice v1.1 v1.2.1 v1.2.2) (withoutL s.kept p4.id)∧(Value.slice v1.1 v1.2.1 v1.2.2).ownBlock=(Value.slice vk.1 vk.2.1 vk.2.2).ownBlock
 | true,true,false=>W0.grownBy u (Value.slice vk.1 vk.2.1 vk.2.2).ownBlock∧Own u 0 145 35 cA (.slice v2.1 v2.2.1 v2.2.2) (withoutL s.kept p4.id++[p4])∧∀ ad,v2.1=some ad→(∃ ad0,vk.1=some ad0∧ad0.block=ad.block)∨W0.heap.size≤ad.block
 | true,true,true=>TkR b { s with kept:=withoutL s.kept p4.id++[p4] } (blkL v2++F) va v2 u∧Kp F (blkL v2++F) W0 u
theorem grown_below {w u u':World} {o:Option Nat} (h:w.grownBy u o) (hb:Below u.heap.size u u'):w.grownBy u' o:=⟨hb.os.trans h.os,hb.tape.trans h.tape,hb.output.trans h.output,Nat.le_trans h.size hb.size,fun k hk hne=>(hb.block k (Nat.lt_of_lt_of_le hk h.size)).trans (h.block k hk hne)⟩
theorem below_grown {w u u':World} {o:Option Nat} (h:Below w.heap.size w u) (hb:u.grownBy u' o):w.grownBy u' o:=⟨hb.os.trans h.os,hb.tape.trans h.tape,hb.output.trans h.output,Nat.le_trans h.size hb.size,fun k hk hne=>(hb.block k (Nat.lt_of_lt_of_le hk h.size) hne).trans (h.block k hk)⟩
theorem grown_grown {w u u':World} {o o':Option Nat} (h:w.grownBy u o) (hb:u.grownBy u' o') (ho:o'=o∨∀ k,o'=some k→w.heap.size≤k):w.grownBy u' o:=⟨hb.os.trans h.os,hb.tape.trans h.tape,hb.output.trans h.output,Nat.le_trans h.size hb.size,fun k hk hne=>(hb.block k (Nat.lt_of_lt_of_le hk h.size) (fun e=>by
 rcases ho with ho|ho
 ·exact hne (e.trans ho)
 ·have:=ho k e.symm;omega)).trans (h.block k hk hne)⟩
theorem KSt.below {b:Nat} {s:Tk} {F:List Nat} {va vk:SlV} {p4:Pt} {W0:World} {v1 v2:SlV} {u u':World} {d1 d2 d3:Bool} (h:KSt b s F va vk p4 W0 v1 v2 u d1 d2 d3) (hb:Below u.heap.size u u'):KSt b s F va vk p4 W0 v1 v2 u' d1 d2 d3:=by
 cases d1 with
 | false=>exact Below.step h hb
 | true =>
  cases d2 with
  | false=>exact⟨grown_below h.1 hb,h.2.1.keep hb,h.2.2⟩
  | true =>
   cases d3 with
   | false=>exact⟨grown_below h.1 hb,h.2.1.keep hb,h.2.2⟩
   | true=>exact⟨h.1.keep hb,h.2.trans (Kp.of_below hb)⟩
structure KW (b g:Nat) (s:Tk) (F:List Nat) (va vk:SlV) (p4:Pt) (W0:World) (σ:SlV×Nat×SlV) (D:Nat→Bool) (u:World):Prop where
 row:Row u g (cA p4) 145
 one:D 9=true→Sl u cA (some ⟨σ.2.1,0,none⟩) [p4]∧W0.heap.size≤σ.2.1
 st:KSt b s F va vk p4 W0 σ.1 σ.2.2 u (D 7) (D 10) (D 13)
theorem KW.read {b g:Nat} {s:Tk} {F:List Nat} {va vk:SlV} {p4:Pt} {W0:World} {σ:SlV×Nat×SlV} {D:Nat→Bool} {u u':World} (h:KW b g s F va vk p4 W0 σ D u) (i:Nat) (hi:i≠9∧i≠7∧i≠10∧i≠13) (hb:Below u.heap.size u u'):KW b g s F va vk p4 W0 σ (AnyO.addD D i) u':=by
 have e (j:Nat) (hj:j≠i):AnyO.addD D i j=D j:=by unfold AnyO.addD;rw[if_neg hj]
 exact⟨h.row.keep hb,fun hd=>by rw[e 9 (Ne.symm hi.1)] at hd;exact⟨(h.one hd).1.keep hb,(h.one hd).2⟩,by rw[e 7 (Ne.symm hi.2.1),e 10 (Ne.symm hi.2.2.1),e 13 (Ne.symm hi.2.2.2)];exact h.st.below hb⟩
theorem kst_size {b:Nat} {s:Tk} {F:List Nat} {va vk:SlV} {p4:Pt} {W0:World} {v1 v2:SlV} {u:World} {d1 d2 d3:Bool} (h:KSt b s F va vk p4 W0 v1 v2 u d1 d2 d3):W0.heap.size≤u.heap.size:=by
 cases d1 with
 | false=>exact Below.size h
 | true =>
  cases d2 with
  | false=>exact World.grownBy.size h.1
  | true =>
   cases d3 with
   | false=>exact World.grownBy.size h.1
   | true=>exact Kp.size h.2
set_option maxRecDepth 100000 in
set_option maxHeartbeats 3200000 in
theorem keep43_yes (b:Nat) (s:Tk) (F:List Nat) (va vk:SlV) (a:Pt) (w:World) (h:TkR b s F va vk w) (hk8:s.kept.length≤8) (hs:a.state=2) (hb:a.bytes.size≠0) :
  Calls Tryz.prog 74 #[.pointer (some ⟨b,0,none⟩),vA a] w fun e w'=>e=.returned (.tuple #[])∧KpP b { s with kept:=keepQ s.kept a } F va w w':=by
 obtain⟨g,hgg⟩:∃ g,w.heap.size=g:=⟨_,rfl⟩
 obtain⟨p4,hp4⟩:∃ p4:Pt,{ a with state:=4 }=p4:=⟨_,rfl⟩
 have hid:a.id=p4.id:=by rw[← hp4]
 have HQ:=Lib.hid (show keepQ s.kept a=(if 8<(withoutL s.kept p4.id++[p4]).length then (withoutL s.kept p4.id++[p4]).drop ((withoutL s.kept p4.id++[p4]).length - 8) else withoutL s.kept p4.id++[p4]) by unfold keepQ;rw[hp4,hid])
 have hrow:Row (w.alloc (.cells (aA a) 145)) g (cA a) 145:=by rw[← hgg];exact Row.new w (cA a) _
 obtain⟨W0,hW0⟩:∃ W0,(w.alloc (.cells (aA a) 145)).setCell ⟨g,33,none⟩ (.int .i64 4)=W0:=⟨_,rfl⟩
 have hbW:Below w.heap.size w W0:=by rw[← hW0];exact Below.setCell' (below_alloc _ _) (by rw[hgg];exact Nat.le_refl _) 33 _
 have HB:=Lib.hid (show Row W0 g (cA p4) 145∧TkR b s F va vk W0 by
  refine⟨?_,h.keep hbW⟩
  rw[← hW0,← hp4,← cA_set33]
  exact hrow.set 33 _)
 have HBW:=Lib.hid hbW
 have HBL:=Lib.hid (show b<g by rw[← hgg];exact h.blt)
 have HM:=Lib.hid (show s.kept.length≤1000000 by omega)
 have HG:=Lib.hid (show ∀ ad,vk.1=some ad→ad.block<g by intro ad e;rw[← hgg];exact h.klt e)
 have k33:(w.alloc (.cells (aA a) 145)).cell? ⟨g,33,none⟩=some (.int .i64 2):=by rw[← hs];exact (hrow.cell 33).trans (cA_at (aA_33 a))
 have k34:(w.alloc (.cells (aA a) 145)).cell? ⟨g,34,none⟩=some (.string a.bytes):=(hrow.cell 34).trans (cA_at (aA_34 a))
 have f33:=hrow.fz 33
 have hbi:a.bytes.toList.isEmpty=false:=by rw[isE];exact decide_eq_false hb
 have hbe:¬ a.bytes.toList=[]:=by
  intro e
  rw[e] at hbi
  cases hbi
 clear h hrow hbW hid hp4 hs hb
 go_enter Tryz.func74,Tryz.ntmps74
 go_wp2

 refine AnyO.wp_anyI (by kernel_rfl) (by kernel_rfl) (AnyO.InvG (σ:=SlV×Nat×SlV) (fun σ=>AnyO.pvL [some (.pointer (some ⟨b,0,none⟩)),some (.pointer (some ⟨b,0,none⟩)),some (.pointer (some ⟨b,0,none⟩)),some (.pointer (some ⟨b,3,none⟩)),some (.slice vk.1 vk.2.1 vk.2.2),some (.pointer (some ⟨g,0,none⟩)),some (vI p4.id),some (.slice σ.1.1 σ.1.2.1 σ.1.2.2),some (vA p4),some (.slice (some ⟨σ.2.1,0,none⟩) 1 1),some (.slice σ.2.2.1 σ.2.2.2.1 σ.2.2.2.2),some (.pointer (some ⟨b,0,none⟩)),some (.pointer (some ⟨b,3,none⟩)),none]) (fun σ D u=>KW b g s F va vk p4 W0 σ D u)) (AnyO.InvG.start (g:=((none,0,0),0,(none,0,0))) (⟨HB.out.1.keep (below_drew _),(fun h=>by cases h),below_drew _⟩)) ?_ ?_
 ·intro i hi
  have hi2:i=4∨i=7∨i=9∨i=10∨i=13∨i=0∨i=1∨i=2∨i=3∨i=5∨i=6∨i=8∨i=11∨i=12:=by simp only[List.size_toArray,List.length_cons,List.length_nil] at hi;omega
  clear hi
  rcases hi2 with rfl|rfl|rfl|rfl|rfl|rfl|rfl|rfl|rfl|rfl|rfl|rfl|rfl|rfl
  ·refine AnyO.I rfl [3] ?_;rintro D vs u σ Q h0 hC hp ac hb K hK
   have s17:_=_:=AnyO.sv 17 3 hb hp Q
   have hf7:=AnyO.fls (hC.out 7) h0 (by kernel_rfl)
   have hst:=Q.out.2.st
   rw[hf7] at hst
   have rr:=(HB.out.2.keep hst).c3
   clear hst hf7
   go_simp
   exact hK _ _ (AnyO.InvG.step (g:=σ) Q.out.1 rfl (Q.out.2.read 4 (by decide) (Below.refl _ _)))
  ·refine AnyO.I rfl [4,6] ?_;rintro D vs u σ Q h0 hC hp ac hb K hK
   have s18:_=_:=AnyO.sv 18 4 hb hp Q
   have s20:_=_:=AnyO.sv 20 6 hb hp Q
   have hf10:=AnyO.fls (hC.out 10) h0 (by kernel_rfl)
   go_simp
   have hst:=Q.out.2.st
   rw[h0] at hst
   go_at_call 70
   refine (without42 0 _ s.kept p4.id u (HB.out.2.keep hst).ok HM.out).mono ?_
   rintro e w2 ⟨v',rfl,ho',hg',hat'⟩
   obtain⟨A1,c1,rfl, -, -⟩:=Own.sl ho'
   refine hK _ _ (AnyO.InvG.ghost (g:=σ) ((A1,_,c1),σ.2.1,σ.2.2) Q.out.1 ?_ rfl ?_)
   ·intro j hj hq
    rcases j with _|_|_|_|_|_|_|_|_|_|_|_|_|_|j
    all_goals first|exact hq|exact absurd (show D 7=true from hj) (by rw[h0];decide)
   ·have hgb:g<u.heap.size:=Q.out.2.row.lt
    have hne:(Value.slice vk.1 vk.2.1 vk.2.2).ownBlock≠some g:=fun e=>by
     obtain⟨ad,e1,e2⟩:=blk_of e
     have:=HG.out ad e1
     omega
    refine⟨Q.out.2.row.same (hg'.block g hgb (fun e=>hne e.symm)),fun hd=>?_,?_⟩
    ·rw[show AnyO.addD D 7 9=D 9 from rfl] at hd
     obtain⟨h1,h2⟩:=Q.out.2.one hd
     obtain⟨ad,e1,hat⟩:=h1 (by simp)
     cases e1
     refine⟨fun _=>⟨_,rfl,Nat.lt_of_lt_of_le hat.1 hg'.size,fun j u2 hj=>?_⟩,h2⟩
     rw[← hat.2 j u2 hj]
     unfold World.cell?
     rw[block_of_add,hg'.block _ hat.1 (fun e=>by
      obtain⟨ad,e1,e2⟩:=blk_of e.symm
      have:=HB.out.2.klt e1
      rw[e2] at this
      exact absurd this (Nat.not_lt.2 h2))]
    ·rw[show AnyO.addD D 7 7=true from rfl,show AnyO.addD D 7 10=D 10 from rfl,hf10]
     exact⟨below_grown hst hg',ho',hat'⟩
  ·refine AnyO.I rfl [8] ?_;rintro D vs u σ Q h0 hC hp ac hb K hK
   have s22:_=_:=AnyO.sv 22 8 hb hp Q
   go_simp
   refine hK _ _ (AnyO.InvG.ghost (g:=σ) (σ.1,u.heap.size,σ.2.2) Q.out.1 ?_ rfl ?_)
   ·intro j hj hq
    rcases j with _|_|_|_|_|_|_|_|_|_|_|_|_|_|j
    all_goals first|exact hq|exact absurd (show D 9=true from hj) (by rw[h0];decide)
   ·have hb:=below_alloc u (.cells (aAs [p4]) 145)
    refine⟨Q.out.2.row.keep hb,fun _=>⟨fun _=>⟨_,rfl,at_new u _ _ _ rfl⟩,?_⟩,?_⟩
    ·have:=Q.out.2.st
     exact kst_size this
    ·exact Q.out.2.st.below hb
  ·refine AnyO.I rfl [7,9,7] ?_;rintro D vs u σ Q h0 hC hp ac hb K hK
   have s21:_=_:=AnyO.sv 21 7 hb hp Q
   have s23:_=_:=AnyO.sv 23 9 hb hp Q
   have hp7:D 7=true:=hp.out 7 (by decide)
   have hp9:D 9=true:=hp.out 9 (by decide)
   have hf13:=AnyO.fls (hC.out 13) h0 (by kernel_rfl)
   have hst:=Q.out.2.st
   rw[hp7,h0] at hst
   obtain⟨h91,h92⟩:=Q.out.2.one hp9
   refine wp_append_slat u (.tmp 21) (.tmp 23) 102 rfl 0 145 35 64 cA underPAs rowPA (by decide) cA_length cA_one _ (withoutL s.kept p4.id) (ev_tmp s21) hst.2.1 _ 1 1 [p4] rfl (ev_tmp s23) h91 (by have:=without_len s.kept p4.id;have:=HM.out;omega) (by have:=without_len s.kept p4.id;have:=HM.out;omega) (Nat.zero_le _) ?_
   intro v2 w2 ho2 hg2 hat2
   obtain⟨A2,c2,rfl, -, -⟩:=Own.sl ho2
   refine hK _ _ (AnyO.InvG.ghost (g:=σ) (σ.1,σ.2.1,(A2,_,c2)) Q.out.1 ?_ rfl ?_)
   ·intro j hj hq
    rcases j with _|_|_|_|_|_|_|_|_|_|_|_|_|_|j
    all_goals first|exact hq|exact absurd (show D 10=true from hj) (by rw[h0];decide)
   ·have hgb:g<u.heap.size:=Q.out.2.row.lt
    have hne:(Value.slice σ.1.1 σ.1.2.1 σ.1.2.2).ownBlock≠some g:=fun e=>by
     rw[hst.2.2] at e
     obtain⟨ad,e1,e2⟩:=blk_of e
     have:=HG.out ad e1
     omega
    refine⟨Q.out.2.row.same (hg2.block g hgb (fun e=>hne e.symm)),fun _=>?_,?_⟩
    ·obtain⟨ad,e1,hat⟩:=h91 (by simp)
     cases e1
     refine⟨fun _=>⟨_,rfl,Nat.lt_of_lt_of_le hat.1 hg2.size,fun j u2 hj=>?_⟩,h92⟩
     rw[← hat.2 j u2 hj]
     unfold World.cell?
     rw[block_of_add,hg2.block _ hat.1 (fun e=>by
      rw[hst.2.2] at e
      obtain⟨ad,e1,e2⟩:=blk_of e.symm
      have:=HB.out.2.klt e1
      rw[e2] at this
      exact absurd this (Nat.not_lt.2 h92))]
    ·rw[show AnyO.addD D 10 7=D 7 from rfl,hp7,show AnyO.addD D 10 10=true from rfl,show AnyO.addD D 10 13=D 13 from rfl,hf13]
     refine⟨grown_grown hst.1 hg2 (Or.inl hst.2.2),ho2,fun ad e=>?_⟩
     have e0:A2=some ad:=e
     subst e0
     rcases hat2 with h1|h1
     ·rw[hst.2.2] at h1
      obtain⟨ad0,e1,e2⟩:=blk_of h1.symm
      exact Or.inl ⟨ad0,e1,e2⟩
     ·have e3:ad.block=u.heap.size:=by simpa[Value.ownBlock] using h1
      exact Or.inr (by rw[e3];exact hst.1.size)
  ·refine AnyO.I rfl [12,10,10,0,1,2,3,4,5,6,7,8,9,10] ?_;rintro D vs u σ Q h0 hC hp ac hb K hK
   have s26:_=_:=AnyO.sv 26 12 hb hp Q
   have s24:_=_:=AnyO.sv 24 10 hb hp Q
   have hp10:D 10=true:=hp.out 10 (by decide)
   have hp7:D 7=true:=hp.out 7 (by decide)
   have hp9:D 9=true:=hp.out 9 (by decide)
   have hst:=Q.out.2.st
   rw[hp7,hp10,h0] at hst
   have hrb:Row u b (cT ⟨s.win,s.opn,va,vk⟩) 104:=HB.out.2.row.same (hst.1.block b HB.out.2.blt (fun e=>by
    obtain⟨ad,h1,h2⟩:=blk_of e.symm
    exact (HB.out.2.kF ad h1).2 h2))
   have rf:=hrb.fz 3
   have rc:=hrb.cell 3
   have hset:=HB.out.2.setK hst.1 hst.2.1 hst.2.2
   have HSET:=Lib.hid (And.intro hset hrb)
   clear hset hst hrb
   go_simp
   have hgne:g≠b:=fun e=>by have:=HBL.out;omega
   refine hK undef _ (AnyO.InvG.step (g:=σ) Q.out.1 trivial ⟨?_,fun _=>?_,?_⟩)
   ·exact Q.out.2.row.same (heap_set_other u b 3 _ g hgne)
   ·obtain⟨h91,h92⟩:=Q.out.2.one hp9
    obtain⟨ad,e1,hat⟩:=h91 (by simp)
    cases e1
    refine⟨fun _=>⟨_,rfl,by simpa[World.setCell] using hat.1,fun j u2 hj=>?_⟩,h92⟩
    rw[← hat.2 j u2 hj]
    unfold World.cell?
    rw[block_of_add,heap_set_other u b 3 _ _ (fun e=>by have h1:σ.2.1=b:=e;have:=HB.out.2.blt;omega)]
   ·rw[show AnyO.addD D 13 7=D 7 from rfl,hp7,show AnyO.addD D 13 10=D 10 from rfl,hp10,show AnyO.addD D 13 13=true from rfl]
    exact HSET.out.1
  all_goals
   refine AnyO.J rfl ?_;rintro D vs u σ Q h0 hC hp ac hb K hK
   try have s0:ac.tmps[0]?.getD undef=.pointer (some ⟨b,0,none⟩):=by rw[hb.out];kernel_rfl
   try have s15:_=_:=AnyO.sv 15 1 hb hp Q
   try have s16:_=_:=AnyO.sv 16 2 hb hp Q
   try have s3:ac.tmps[3]?.getD undef=.pointer (some ⟨g,0,none⟩):=by rw[hb.out];kernel_rfl
   try have s19:_=_:=AnyO.sv 19 5 hb hp Q
   try have s14:_=_:=AnyO.sv 14 0 hb hp Q
   try have s25:_=_:=AnyO.sv 25 11 hb hp Q
   obtain⟨rr1_0,rr2_0⟩:=row_Aid Q.out.2.row
   have rr1_1:=(Row.okw Q.out.2.row (cA_length p4)).1
   have rr2_1:rdA u ⟨g,0,none⟩ 35=vA p4:=(Row.okw Q.out.2.row (cA_length p4)).2
   go_simp
   first|exact hK _ _ (AnyO.InvG.step (g:=σ) Q.out.1 rfl (Q.out.2.read 0 (by decide) (Below.refl _ _)))|exact hK _ _ (AnyO.InvG.step (g:=σ) Q.out.1 rfl (Q.out.2.read 1 (by decide) (Below.refl _ _)))|exact hK _ _ (AnyO.InvG.step (g:=σ) Q.out.1 rfl (Q.out.2.read 2 (by decide) (Below.refl _ _)))|exact hK _ _ (AnyO.InvG.step (g:=σ) Q.out.1 rfl (Q.out.2.read 3 (by decide) (Below.refl _ _)))|exact hK _ _ (AnyO.InvG.step (g:=σ) Q.out.1 rfl (Q.out.2.read 5 (by decide) (Below.refl _ _)))|exact hK _ _ (AnyO.InvG.step (g:=σ) Q.out.1 rfl (Q.out.2.read 6 (by decide) (Below.refl _ _)))|exact hK _ _ (AnyO.InvG.step (g:=σ) Q.out.1 rfl (Q.out.2.read 8 (by decide) (Below.refl _ _)))|exact hK _ _ (AnyO.InvG.step (g:=σ) Q.out.1 rfl (Q.out.2.read 11 (by decide) (Below.refl _ _)))|exact hK _ _ (AnyO.InvG.step (g:=σ) Q.out.1 rfl (Q.out.2.read 12 (by decide) (Below.refl _ _)))
 ·intro D vs u hI hD
  obtain⟨σ,hP,hW⟩:=hI
  have e0:_=_:=hP 0 (hD 0 (by decide))
  have e1:_=_:=hP 1 (hD 1 (by decide))
  have e2:_=_:=hP 2 (hD 2 (by decide))
  have e3:_=_:=hP 3 (hD 3 (by decide))
  have e4:_=_:=hP 4 (hD 4 (by decide))
  have e5:_=_:=hP 5 (hD 5 (by decide))
  have e6:_=_:=hP 6 (hD 6 (by decide))
  have e7:_=_:=hP 7 (hD 7 (by decide))
  have e8:_=_:=hP 8 (hD 8 (by decide))
  have e9:_=_:=hP 9 (hD 9 (by decide))
  have e10:_=_:=hP 10 (hD 10 (by decide))
  have e11:_=_:=hP 11 (hD 11 (by decide))
  have e12:_=_:=hP 12 (hD 12 (by decide))
  have hst:=hW.st
  rw[hD 7 (by decide),hD 10 (by decide),hD 13 (by decide)] at hst
  have HST:=Lib.hid hst
  clear hst
  have HW:=Lib.hid hW
  clear hW hP hD
  rw[puts_range [some 14,some 15,some 16,some 17,some 18,some 19,some 20,some 21,some 22,some 23,some 24,some 25,some 26,none] (by kernel_rfl)]
  simp only[putL,Nat.reduceAdd,e0,e1,e2,e3,e4,e5,e6,e7,e8,e9,e10,e11,e12]
  clear e0 e1 e2 e3 e4 e5 e6 e7 e8 e9 e10 e11 e12
  obtain⟨hT,hKp⟩:=HST.out
  have hl:=hT.lk
  have hck:=hT.ck
  have cc3:=hT.c3
  have ff3:=hT.row.fz 3
  obtain⟨q,hq⟩:∃ q,withoutL s.kept p4.id++[p4]=q:=⟨_,rfl⟩
  have hql:q.length≤9:=by rw[← hq,List.length_append,List.length_singleton];have:=without_len s.kept p4.id;omega
  rw[hq] at hT hl hck
  dsimp only at hl hck
  have HQ2:=Lib.hid hq
  have HT:=Lib.hid hT
  have HKp:=Lib.hid hKp
  clear hq hT hKp
  rw[hl] at cc3
  by_cases h9:q.length=9
  ·have hok0:Own u 0 145 35 cA (.slice σ.2.2.1 σ.2.2.2.1 σ.2.2.2.2) q:=HT.out.ok
   rcases hok0.rowOf with⟨_,he⟩|⟨g0,c0,cs,he,_,_,hc0,_⟩
   ·rw[he] at h9
    cases h9
   have he2:=Value.slice.inj he
   rw[he2.1,h9,he2.2.2] at cc3
   have hown:Own u 0 145 35 cA (.slice (some ⟨g0,0,none⟩) 9 c0) q:=by
    have h1:=hok0
    rw[he,h9] at h1
    exact h1
   have hks:keepQ s.kept a=q.drop 1:=by rw[HQ.out,HQ2.out,if_pos (by omega),h9]
   have HKS:=Lib.hid (And.intro hks (And.intro hown (And.intro he2.1 h9)))
   have hg0b:g0≠b:=(HT.out.kF ⟨g0,0,none⟩ he2.1).2
   have hbl:=HT.out.blt
   rw[h9] at hc0
   clear hown hks he he2 hl hck hok0
   have HDL:=Lib.hid (delete68 0 g0 9 c0 1 q u HKS.out.2.1 HKS.out.2.2.2 (by decide) (by decide) (by decide) hc0)
   have H3L:=Lib.hid (show ∀ w3,Own w3 0 145 35 cA (.slice (some ⟨g0,0,none⟩) 8 c0) (q.drop 1)→One g0 u w3→_ from fun w3 ho3 h13=>HT.out.setK (vk':=(some ⟨g0,0,none⟩,8,c0)) (by rw[of_blk (v:=σ.2.2) HKS.out.2.2.1];exact⟨h13.os,h13.tape,h13.output,h13.size,fun k hk hn=>h13.out k hk (fun e=>hn (by rw[e]))⟩) ho3 (fun ad e=>Or.inl ⟨⟨g0,0,none⟩,HKS.out.2.2.1,by cases e;rfl⟩))
   go_simp
   go_wp2_with (go_at_call 109;refine HDL.out.mono ?_;rintro e w3 ⟨rfl,ho3,h13⟩;have rb3:=h13.row HT.out.row hg0b.symm;have ff4:=rb3.fz 3;have cc4:=rb3.cell 3;have H3:=Lib.hid (H3L.out w3 ho3 h13);clear ho3 h13 rb3)
   go_end0
   exact⟨rfl,⟨_,_,by rw[HKS.out.1];exact H3.out.1,((Kp.of_below HBW.out).trans HKp.out).trans H3.out.2⟩⟩
  ·have q8:¬ (8:Int)<(q.length:Int):=by omega
   have hks:keepQ s.kept a=q:=by rw[HQ.out,HQ2.out,if_neg (by omega)]
   have HKS:=Lib.hid hks
   clear hks hck hl
   go_simp
   go_wp2
   go_end0
   exact⟨rfl,⟨_,_,by rw[HKS.out];exact HT.out,(Kp.of_below HBW.out).trans HKp.out⟩⟩

set_option maxRecDepth 100000 in
theorem keep43_no (b:Nat) (a:Pt) (w:World) (hs:a.state≠2∨a.bytes.size=0):Calls Tryz.prog 74 #[.pointer (some ⟨b,0,none⟩),vA a] w fun e w'=>e=.returned (.tuple #[])∧Below w.heap.size w w':=by
 obtain⟨g,hgg⟩:∃ g,w.heap.size=g:=⟨_,rfl⟩
 have hrow:Row (w.alloc (.cells (aA a) 145)) g (cA a) 145:=by rw[← hgg];exact Row.new w (cA a) _
 have k33:(w.alloc (.cells (aA a) 145)).cell? ⟨g,33,none⟩=some (.int .i64 a.state):=(hrow.cell 33).trans (cA_at (aA_33 a))
 have k34:(w.alloc (.cells (aA a) 145)).cell? ⟨g,34,none⟩=some (.string a.bytes):=(hrow.cell 34).trans (cA_at (aA_34 a))
 clear hrow
 by_cases h2:a.state=2
 ·have hbi:a.bytes.toList.isEmpty=true:=by rw[isE];exact decide_eq_true (hs.resolve_left (fun h=>h h2))
  have hbe:a.bytes.toList=[]:=by simpa using hbi
  rw[h2] at k33
  clear hs h2
  go_enter Tryz.func74,Tryz.ntmps74
  go_wp2
  refine bodyPost_ret (results_none rfl _ _ _) rfl ?_
  exact⟨rfl,below_alloc _ _⟩
 ·have q1:(a.state != 2)=true:=by simpa using h2
  clear hs h2
  go_enter Tryz.func74,Tryz.ntmps74
  go_wp2
  refine bodyPost_ret (results_none rfl _ _ _) rfl ?_
  exact⟨rfl,below_alloc _ _⟩
theorem keep43 (b:Nat) (s:Tk) (F:List Nat) (va vk:SlV) (a:Pt) (w:World) (h:TkR b s F va vk w) (hk8:s.kept.length≤8) :
  Calls Tryz.prog 74 #[.pointer (some ⟨b,0,none⟩),vA a] w fun e w'=>e=.returned (.tuple #[])∧KpP b { s with kept:=keepP s.kept a } F va w w':=by
 by_cases hs:a.state≠2∨a.bytes.size=0
 ·refine (keep43_no b a w hs).mono ?_
  rintro e w' ⟨rfl,hb⟩
  have e:keepP s.kept a=s.kept:=by unfold keepP;rw[if_pos hs]
  rw[e]
  exact⟨rfl,⟨F,vk,h.keep hb,Kp.of_below hb⟩⟩
 ·have e:keepP s.kept a=keepQ s.kept a:=by unfold keepP;rw[if_neg hs]
  rw[e]
  exact keep43_yes b s F va vk a w h hk8 (by omega) (by omega)
theorem keepP_len (l:List Pt) (a:Pt) (h:l.length≤8):(keepP l a).length≤8:=by
 unfold keepP
 split
 ·exact h
 ·unfold keepQ
  dsimp only
  split
  ·rw[List.length_drop];omega
  ·omega
section
open Go.RowKit
def dropT (s:Tk):Tk×Int:=if s.opn=true then (⟨s.win,false,[],s.act.foldl keepP s.kept⟩,0) else (s,10)
theorem fold_len (xs:List Pt):∀ l:List Pt,l.length≤8→(xs.foldl keepP l).length≤8:=by
 induction xs with
 | nil=>intro l h;exact h
 | cons x r ih=>intro l h;exact ih _ (keepP_len l x h)
theorem fold_snoc (xs:List Pt) (j:Nat) (hj:j<xs.length) (l:List Pt):(xs.take (j+1)).foldl keepP l=keepP ((xs.take j).foldl keepP l) xs[j]:=by
 rw[List.take_succ_eq_append_getElem hj,List.foldl_append]
 rfl
theorem KpP.under {b:Nat} {s':Tk} {F F':List Nat} {va:SlV} {w w1 w2 w3:World} (h:Kp F F' w w1) (hb:Below w1.heap.size w1 w2) (hp:KpP b s' F' va w2 w3):KpP b s' F va w w3:=by
 obtain⟨F4,vk4,h1,h2⟩:=hp
 exact⟨F4,vk4,h1,(h.trans (Kp.of_below hb)).trans h2⟩
set_option maxRecDepth 100000 in
set_option maxHeartbeats 3200000 in
theorem drop18 (b:Nat) (s:Tk) (F:List Nat) (w:World) (h:TkAt b s F w) (hk8:s.kept.length≤8) (ha:s.act.length≤100):Calls Tryz.prog 41 #[.pointer (some ⟨b,0,none⟩)] w fun e w'=>e=.returned (.int .i64 (dropT s).2)∧∃ F',TkAt b (dropT s).1 F' w'∧Kp F F' w w':=by
 obtain⟨va,vk,h⟩:=h
 have c1:=h.c1
 have c2:=h.c2
 rw[h.la] at c2
 have HR:=Lib.hid h
 clear h
 cases ho:s.opn with
 | false =>
  rw[ho] at c1
  have HO:=Lib.hid ho
  clear ho
  have e:dropT s=(s,10):=by unfold dropT;rw[if_neg (by rw[HO.out];decide)]
  rw[e]
  go_enter Tryz.func41,Tryz.ntmps41
  go_wp2
  go_ret
  exact⟨rfl,F,⟨va,vk,HR.out⟩,Kp.refl _ _⟩
 | true =>
  rw[ho] at c1
  have HO:=Lib.hid ho
  clear ho
  have e:dropT s=(⟨s.win,false,[],s.act.foldl keepP s.kept⟩,0):=by unfold dropT;rw[if_pos HO.out]
  rw[e]
  clear e
  go_enter Tryz.func41,Tryz.ntmps41
  go_wp2
  go_loopw [19] (fun i wr=>∃ (j:Nat),i=.int .i64 j∧j≤s.act.length∧KpP b { s with kept:=(s.act.take j).foldl keepP s.kept } F va w wr) (fun i _=>s.act.length+1 - (intOf i).toNat)
  case atStart=>exact⟨0,rfl,Nat.zero_le _,F,vk,HR.out,Kp.refl _ _⟩
  case round =>
   obtain⟨j,rfl,hj,hKP⟩:=hrel
   obtain⟨F',vk',hT,hKp⟩:=hKP
   by_cases hlt:j<s.act.length
   ·have hlt1:(j:Int)<(s.act.length:Int):=by omega
    have hsl:Sl wr cA va.1 s.act:=Own.slOf hT.oa
    obtain⟨ad,hae,ok1,rd1, -⟩:=Sl.pt hsl hlt
    obtain⟨p,hp⟩:∃ p,s.act[j]=p:=⟨_,rfl⟩
    rw[hp] at rd1
    have HP:=Lib.hid hp
    have HT:=Lib.hid (And.intro hT hKp)
    obtain⟨W3,hW3⟩:∃ W3,wr.alloc (.cells (aA p) 145)=W3:=⟨_,rfl⟩
    obtain⟨g3,hg3⟩:∃ g3,wr.heap.size=g3:=⟨_,rfl⟩
    have H3:=Lib.hid (And.intro (show Row W3 g3 (cA p) 145 by rw[← hW3,← hg3];exact Row.new wr (cA p) _) (show Below wr.heap.size wr W3 by rw[← hW3];exact below_alloc _ _))
    have r3:=(Row.okw H3.out.1 (cA_length p)).1
    have r4:rdA W3 ⟨g3,0,none⟩ 35=vA p:=(Row.okw H3.out.1 (cA_length p)).2
    clear hsl hp hT hKp
    go_wp2_with (go_at_call 74;refine (keep43 b _ F' va vk' p W3 (HT.out.1.keep H3.out.2) (fold_len _ _ hk8)).mono ?_;rintro e w4 ⟨rfl,hKP4⟩;have H4:=Lib.hid (KpP.under HT.out.2 (H3.out.2) hKP4);clear hKP4)
    go_roundw
    case rel=>exact⟨_,.int .i64 ((j:Int)+1),_,_,_,_,_,_,_,⟨j+1,by go_num,hlt,by rw[fold_snoc _ _ hlt,HP.out];exact H4.out⟩,by rw[hae]⟩
    case measure=>simp[intOf] <;> omega
   ·have hlt1:¬ (j:Int)<(s.act.length:Int):=by omega
    obtain rfl:j=s.act.length:=by omega
    rw[List.take_length] at hT
    have f1:=hT.row.fz 1
    have f2:=hT.row.fz 2
    have k1:=hT.c1
    have k2:=hT.c2
    have HT:=Lib.hid (And.intro (hT.setO false) hKp)
    clear hT hKp
    go_wp2
    go_ret
    have ha:=(HT.out.1.1).setA (va':=(none,0,0)) (l':=[]) (World.grownBy.refl _ _) (Own.nil _ _ _ _ _) (fun ad e=>by cases e)
    exact⟨rfl,_,⟨_,_,ha.1⟩,(HT.out.2.trans HT.out.1.2).trans ha.2⟩
end
section
open Go.RowKit
section
variable {α : Type} {w : World} {base : Nat} {e : TypeId} {s : Nat} {enc : α → List Value} {xs : List α}
theorem flatMap_setF (hs:∀ x,(enc x).length=s) (x:α) (k:Nat) (hk:k<s) (v:Value):∀ (xs:List α) (i:Nat) (hi:i<xs.length),(enc xs[i]).set k v=enc x→(xs.flatMap enc).set (i * s+k) v=(xs.set i x).flatMap enc
 | [],i,h,_=>absurd h (Nat.not_lt_zero _)
 | y :: r,0,_,hx=>by
  have hy:=hs y
  have hx':(enc y).set k v=enc x:=hx
  rw[List.flatMap_cons,List.set_cons_zero,List.flatMap_cons,Nat.zero_mul,Nat.zero_add,List.set_append_left _ _ (by rw[hy];exact hk),hx']
 | y :: r,i+1,h,hx=>by
  have hy:=hs y
  have ih:=flatMap_setF hs x k hk v r i (by simpa using h) (by simpa using hx)
  rw[List.set_cons_succ,List.flatMap_cons,List.flatMap_cons,← ih,List.set_append_right _ _ (by rw[hy,Nat.succ_mul];omega),hy]
  congr 2
  rw[Nat.succ_mul]
  omega
theorem Own.setF (hs:∀ x,(enc x).length=s) {g n c:Nat} (h:Own w base e s enc (.slice (some ⟨g,0,none⟩) n c) xs) (i:Nat) (hi:i<xs.length) (k:Nat) (hk:k<s) (v:Value) (x:α) (hx:(enc xs[i]).set k v=enc x) :
  w.frozen? ⟨g,i * s+k,none⟩=false∧Own (w.setCell ⟨g,i * s+k,none⟩ v) base e s enc (.slice (some ⟨g,0,none⟩) n c) (xs.set i x):=by
 rcases h.rowOf with⟨h1,rfl⟩|⟨g2,c2,cs,h1,hb,hr,hc,hm,hl,ht⟩
 ·simp at hi
 ·cases h1
  refine⟨hr.fz _,?_⟩
  have hlen:(xs.set i x).length=xs.length:=List.length_set
  have:=Own.ofRow (xs:=xs.set i x) hs hb (hr.set (i * s+k) v) (by rw[hlen];exact hc) hm (by rw[List.length_set];exact hl) (by
   rw[hlen,List.take_set,ht]
   exact flatMap_setF hs x k hk v xs i hi hx)
  rwa[hlen] at this
end
section
variable {b : Nat} {s : Tk} {F : List Nat} {va vk : SlV} {w w' : World}
theorem Own.ad0 {e:TypeId} {enc:Pt→List Value} {A:Option Addr} {n c:Nat} {xs:List Pt} (h:Own w 0 e 35 enc (.slice A n c) xs) (hx:xs≠[]):∃ g,A=some ⟨g,0,none⟩:=by
 rcases h.rowOf with⟨_,rfl⟩|⟨g2,c2,cs,h1,_⟩
 ·exact absurd rfl hx
 ·cases h1
  exact⟨g2,rfl⟩
theorem TkR.setF (h:TkR b s F va vk w) {g:Nat} (hg:va.1=some ⟨g,0,none⟩) (i:Nat) (hi:i<s.act.length) (k:Nat) (hk:k<35) (v:Value) (p:Pt) (hp:(cA s.act[i]).set k v=cA p) :
  w.frozen? ⟨g,i * 35+k,none⟩=false∧TkR b { s with act:=s.act.set i p } F va vk (w.setCell ⟨g,i * 35+k,none⟩ v)∧Kp F F w (w.setCell ⟨g,i * 35+k,none⟩ v):=by
 obtain⟨A,n,c⟩:=va
 obtain rfl:A=some ⟨g,0,none⟩:=hg
 have hF:=h.aF _ rfl
 have h1:=Own.setF cA_length h.oa i hi k hk v p hp
 have ho:One g w (w.setCell ⟨g,i * 35+k,none⟩ v):=One.set _ _
 refine⟨h1.1,⟨?_,h1.2,?_,h.bF,h.aF,h.kF⟩,Kp.one ho hF.1⟩
 ·exact h.row.same (heap_set_other w g _ v b (fun e=>hF.2.1 e.symm))
 ·exact h.ok.same fun q e=>heap_set_other w g _ v q (fun e2=>by
   obtain⟨ad,e1,e3⟩:=blk_of e
   exact hF.2.2 ad e1 (e3.trans e2))
end
def gotL (l:List Pt) (x:Id):Int:=match posL l x with|some k=>((l[k]?.getD zA).bytes.size:Int)|none=>0
theorem got_some {l:List Pt} {x:Id} {k:Nat} (h:posL l x=some k) (hk:k<l.length):gotL l x=(l[k].bytes.size:Int):=by
 unfold gotL
 rw[h]
 show (((l[k]?).getD zA).bytes.size:Int)=_
 rw[List.getElem?_eq_getElem hk]
 rfl
theorem got_none {l:List Pt} {x:Id} (h:posL l x=none):gotL l x=0:=by unfold gotL;rw[h]
theorem TkAt.kp {b:Nat} {s:Tk} {F F':List Nat} {w w':World} (h:TkAt b s F w) (_hk:Kp F F' w w') (hs:∀ k∈F,w'.heap[k]? = w.heap[k]?):TkAt b s F w':=by
 obtain⟨va,vk,h⟩:=h
 exact⟨va,vk,h.same hs⟩
end
section
open Go.RowKit

set_option maxRecDepth 100000 in
set_option maxHeartbeats 3200000 in
theorem keptBytes41 (b:Nat) (s:Tk) (F:List Nat) (va vk:SlV) (x:Id) (w:World) (h:TkR b s F va vk w) (hn:s.kept.length≤1000000) :
  Calls Tryz.prog 69 #[.pointer (some ⟨b,0,none⟩),vI x] w fun e w'=>e=.returned (.int .i64 (gotL s.kept x))∧Below w.heap.size w w':=by
 obtain⟨g,hg⟩:∃ g,w.heap.size=g:=⟨_,rfl⟩
 obtain⟨W1,hW1⟩:∃ W1,w.alloc (.cells (aI x) 39)=W1:=⟨_,rfl⟩
 have hb1:Below w.heap.size w W1:=by rw[← hW1];exact below_alloc _ _
 have H1:=Lib.hid (And.intro (show Row W1 g (cI x) 39 by rw[← hW1,← hg];exact Row.new w (cI x) _) (And.intro (h.keep hb1) hb1))
 clear hb1 h
 obtain⟨i,hi⟩:∃ i,idxL s.kept x=i:=⟨_,rfl⟩
 have HI:=Lib.hid hi
 clear hi
 go_enter Tryz.func69,Tryz.ntmps69
 go_wp2


 refine AnyO.wp_anyI (by kernel_rfl) (by kernel_rfl) (AnyO.InvG (σ:=Unit) (fun σ=>AnyO.pvL [some (.pointer (some ⟨b,0,none⟩)),some (.pointer (some ⟨b,0,none⟩)),some (.pointer (some ⟨b,3,none⟩)),some (.slice vk.1 s.kept.length vk.2.2),some (vI x),some (.int .i64 i),some (.int .i64 i)]) (fun _ _ u=>Below W1.heap.size W1 u)) (AnyO.InvG.start (g:=()) (below_drew _)) ?_ ?_
 ·intro i hi
  have hi2:i=4∨i=5∨i=0∨i=1∨i=2∨i=3∨i=6:=by simp only[List.size_toArray,List.length_cons,List.length_nil] at hi;omega
  clear hi
  rcases hi2 with rfl|rfl|rfl|rfl|rfl|rfl|rfl
  ·refine AnyO.I rfl [] ?_;rintro D vs u σ Q h0 hC hp ac hb K hK
   have s3:=AnyO.sz (v:=.pointer (some ⟨g,0,none⟩)) 3 hb
   have q:=Row.okw (H1.out.1.keep Q.out.2) (cI_length x)
   have rr1:=q.1
   have rr2:rdA u ⟨g,0,none⟩ 32=vI x:=q.2
   clear q
   go_simp;exact hK _ _ (AnyO.InvG.step (g:=σ) Q.out.1 rfl Q.out.2)
  ·refine AnyO.I rfl [3,4] ?_;rintro D vs u σ Q h0 hC hp ac hb K hK
   have s9:_=_:=AnyO.sv 9 3 hb hp Q
   have s10:_=_:=AnyO.sv 10 4 hb hp Q
   go_simp
   go_at_call 68
   refine (find40 vk.1 vk.2.2 s.kept x u (Own.slOf ((H1.out.2.1.keep Q.out.2).ok)) hn).mono ?_
   rintro e w2 ⟨rfl,hcb⟩
   rw[HI.out]
   exact hK _ _ (AnyO.InvG.step (g:=σ) Q.out.1 rfl (Below.step Q.out.2 hcb))
  all_goals
   refine AnyO.J rfl ?_;rintro D vs u σ Q h0 hC hp ac hb K hK
   try have s0:ac.tmps[0]?.getD undef=.pointer (some ⟨b,0,none⟩):=by rw[hb.out];kernel_rfl
   try have s6:_=_:=AnyO.sv 6 0 hb hp Q
   try have s7:_=_:=AnyO.sv 7 1 hb hp Q
   try have s8:_=_:=AnyO.sv 8 2 hb hp Q
   try have s11:_=_:=AnyO.sv 11 5 hb hp Q
   have rr:=(H1.out.2.1.keep Q.out.2).c3
   rw[(H1.out.2.1).lk] at rr
   go_simp
   exact hK _ _ (AnyO.InvG.step (g:=σ) Q.out.1 rfl Q.out.2)
 ·intro D vs u hI hD
  obtain⟨σ,hP,hW⟩:=hI
  have e0:_=_:=hP 0 (hD 0 (by decide))
  have e1:_=_:=hP 1 (hD 1 (by decide))
  have e2:_=_:=hP 2 (hD 2 (by decide))
  have e3:_=_:=hP 3 (hD 3 (by decide))
  have e4:_=_:=hP 4 (hD 4 (by decide))
  have e5:_=_:=hP 5 (hD 5 (by decide))
  have e6:_=_:=hP 6 (hD 6 (by decide))
  have HW:=Lib.hid hW
  clear hW hP hD
  rw[puts_range [some 6,some 7,some 8,some 9,some 10,some 11,some 5] (by kernel_rfl)]
  simp only[putL,Nat.reduceAdd,e0,e1,e2,e3,e4,e5,e6]
  clear e0 e1 e2 e3 e4 e5 e6
  go_simp

  cases hp:posL s.kept x with
  | none =>
   have hii:i=-1:=by rw[← HI.out];exact idx_none hp
   have HG:=Lib.hid (got_none hp)
   subst hii
   clear hp
   go_wp2
   go_ret
   rw[HG.out]
   exact⟨rfl,Below.step H1.out.2.2 HW.out⟩
  | some k =>
   obtain⟨hk, -, -⟩:=pos_some hp
   have hii:i=(k:Int):=by rw[← HI.out];exact idx_some hp
   have HG:=Lib.hid (got_some hp hk)
   subst hii
   clear hp
   have hT:=H1.out.2.1.keep HW.out
   obtain⟨ad,hae, -, -,hat⟩:=Sl.pt (Own.slOf hT.ok) hk
   have rr:=hT.c3
   rw[hT.lk] at rr
   have r34:=hat.f34
   have hk1:(k:Int)<(s.kept.length:Int):=by omega
   clear hT hat
   rw[hae] at rr
   go_wp2
   go_ret
   rw[HG.out]
   exact⟨rfl,Below.step H1.out.2.2 HW.out⟩
def rcvL (l:List Pt) (x:Id):Option Nat:=match posL l x with|some k=>if (l[k]?.getD zA).state=2 then some k else none|none=>none
theorem rcv_some {l:List Pt} {x:Id} {k:Nat} (h:rcvL l x=some k):∃ hk:k<l.length,posL l x=some k∧l[k].state=2:=by
 unfold rcvL at h
 split at h
 ·rename_i j hj
  obtain⟨hk,_,_⟩:=pos_some hj
  rw[List.getElem?_eq_getElem hk] at h
  split at h
  ·rename_i hs
   cases h
   exact⟨hk,hj,hs⟩
  ·cases h
 ·cases h
theorem rcv_none {l:List Pt} {x:Id} (h:posL l x=none):rcvL l x=none:=by unfold rcvL;rw[h]
theorem rcv_yes {l:List Pt} {x:Id} {k:Nat} (h:posL l x=some k) (hk:k<l.length) (hs:l[k].state=2):rcvL l x=some k:=by
 unfold rcvL
 rw[h]
 show (if (l[k]?.getD zA).state=2 then some k else none)=_
 rw[List.getElem?_eq_getElem hk]
 exact if_pos hs
theorem rcv_no {l:List Pt} {x:Id} {k:Nat} (h:posL l x=some k) (hk:k<l.length) (hs:¬ l[k].state=2):rcvL l x=none:=by
 unfold rcvL
 rw[h]
 show (if (l[k]?.getD zA).state=2 then some k else none)=_
 rw[List.getElem?_eq_getElem hk]
 exact if_neg hs
def rcvV (va:SlV) (o:Option Nat):Value:=match o with|some k=>.pointer (va.1.map (·.add (k * 35)))|none=>.pointer none
set_option maxRecDepth 100000 in
set_option maxHeartbeats 3200000 in
theorem receiving63 (b:Nat) (s:Tk) (F:List Nat) (va vk:SlV) (x:Id) (w:World) (h:TkR b s F va vk w) (hn:s.act.length≤1000000) :
  Calls Tryz.prog 101 #[.pointer (some ⟨b,0,none⟩),vI x] w fun e w'=>e=.returned (rcvV va (rcvL s.act x))∧Below w.heap.size w w':=by
 obtain⟨g,hg⟩:∃ g,w.heap.size=g:=⟨_,rfl⟩
 obtain⟨W1,hW1⟩:∃ W1,w.alloc (.cells (aI x) 39)=W1:=⟨_,rfl⟩
 have hb1:Below w.heap.size w W1:=by rw[← hW1];exact below_alloc _ _
 have H1:=Lib.hid (And.intro (show Row W1 g (cI x) 39 by rw[← hW1,← hg];exact Row.new w (cI x) _) (And.intro (h.keep hb1) hb1))
 clear hb1 h
 obtain⟨i,hi⟩:∃ i,idxL s.act x=i:=⟨_,rfl⟩
 have HI:=Lib.hid hi
 clear hi
 go_enter Tryz.func101,Tryz.ntmps101
 go_wp2


 refine AnyO.wp_anyI (by kernel_rfl) (by kernel_rfl) (AnyO.InvG (σ:=Unit) (fun σ=>AnyO.pvL [some (.pointer (some ⟨b,0,none⟩)),some (.pointer (some ⟨b,0,none⟩)),some (.pointer (some ⟨b,2,none⟩)),some (.slice va.1 s.act.length va.2.2),some (vI x),some (.int .i64 i),some (.int .i64 i)]) (fun _ _ u=>Below W1.heap.size W1 u)) (AnyO.InvG.start (g:=()) (below_drew _)) ?_ ?_
 ·intro i hi
  have hi2:i=4∨i=5∨i=0∨i=1∨i=2∨i=3∨i=6:=by simp only[List.size_toArray,List.length_cons,List.length_nil] at hi;omega
  clear hi
  rcases hi2 with rfl|rfl|rfl|rfl|rfl|rfl|rfl
  ·refine AnyO.I rfl [] ?_;rintro D vs u σ Q h0 hC hp ac hb K hK
   have s3:=AnyO.sz (v:=.pointer (some ⟨g,0,none⟩)) 3 hb
   have q:=Row.okw (H1.out.1.keep Q.out.2) (cI_length x)
   have rr1:=q.1
   have rr2:rdA u ⟨g,0,none⟩ 32=vI x:=q.2
   clear q
   go_simp;exact hK _ _ (AnyO.InvG.step (g:=σ) Q.out.1 rfl Q.out.2)
  ·refine AnyO.I rfl [3,4] ?_;rintro D vs u σ Q h0 hC hp ac hb K hK
   have s9:_=_:=AnyO.sv 9 3 hb hp Q
   have s10:_=_:=AnyO.sv 10 4 hb hp Q
   go_simp
   go_at_call 68
   refine (find40 va.1 va.2.2 s.act x u (Own.slOf ((H1.out.2.1.keep Q.out.2).oa)) hn).mono ?_
   rintro e w2 ⟨rfl,hcb⟩
   rw[HI.out]
   exact hK _ _ (AnyO.InvG.step (g:=σ) Q.out.1 rfl (Below.step Q.out.2 hcb))
  all_goals
   refine AnyO.J rfl ?_;rintro D vs u σ Q h0 hC hp ac hb K hK
   try have s0:ac.tmps[0]?.getD undef=.pointer (some ⟨b,0,none⟩):=by rw[hb.out];kernel_rfl
   try have s6:_=_:=AnyO.sv 6 0 hb hp Q
   try have s7:_=_:=AnyO.sv 7 1 hb hp Q
   try have s8:_=_:=AnyO.sv 8 2 hb hp Q
   try have s11:_=_:=AnyO.sv 11 5 hb hp Q
   have rr:=(H1.out.2.1.keep Q.out.2).c2
   rw[(H1.out.2.1).la] at rr
   go_simp
   exact hK _ _ (AnyO.InvG.step (g:=σ) Q.out.1 rfl Q.out.2)
 ·intro D vs u hI hD
  obtain⟨σ,hP,hW⟩:=hI
  have e0:_=_:=hP 0 (hD 0 (by decide))
  have e1:_=_:=hP 1 (hD 1 (by decide))
  have e2:_=_:=hP 2 (hD 2 (by decide))
  have e3:_=_:=hP 3 (hD 3 (by decide))
  have e4:_=_:=hP 4 (hD 4 (by decide))
  have e5:_=_:=hP 5 (hD 5 (by decide))
  have e6:_=_:=hP 6 (hD 6 (by decide))
  have HW:=Lib.hid hW
  clear hW hP hD
  rw[puts_range [some 6,some 7,some 8,some 9,some 10,some 11,some 5] (by kernel_rfl)]
  simp only[putL,Nat.reduceAdd,e0,e1,e2,e3,e4,e5,e6]
  clear e0 e1 e2 e3 e4 e5 e6
  go_simp

  cases hp:posL s.act x with
  | none =>
   have hii:i=-1:=by rw[← HI.out];exact idx_none hp
   have HG:=Lib.hid (rcv_none hp)
   subst hii
   clear hp
   go_wp2
   go_ret
   rw[HG.out]
   exact⟨rfl,Below.step H1.out.2.2 HW.out⟩
  | some k =>
   obtain⟨hk, -, -⟩:=pos_some hp
   have hii:i=(k:Int):=by rw[← HI.out];exact idx_some hp
   have HP:=Lib.hid hp
   subst hii
   clear hp
   have hT:=H1.out.2.1.keep HW.out
   obtain⟨ad,hae, -, -,hat⟩:=Sl.pt (Own.slOf hT.oa) hk
   have rr:=hT.c2
   rw[hT.la] at rr
   have r33:=hat.f33
   have hk1:(k:Int)<(s.act.length:Int):=by omega
   clear hT hat
   rw[hae] at rr
   have HAE:=Lib.hid hae
   clear hae
   by_cases h2:s.act[k].state=2
   ·have HG:=Lib.hid (rcv_yes HP.out hk h2)
    rw[h2] at r33
    clear h2
    go_wp2
    go_ret
    rw[HG.out]
    exact⟨by unfold rcvV;rw[HAE.out];rfl,Below.step H1.out.2.2 HW.out⟩
   ·have HG:=Lib.hid (rcv_no HP.out hk h2)
    have q2:(s.act[k].state==2)=false:=by simpa using h2
    clear h2
    go_wp2
    go_ret
    rw[HG.out]
    exact⟨rfl,Below.step H1.out.2.2 HW.out⟩
end
end Go.Proofs.YtdkjgcfhepplbaaGreatDoor
