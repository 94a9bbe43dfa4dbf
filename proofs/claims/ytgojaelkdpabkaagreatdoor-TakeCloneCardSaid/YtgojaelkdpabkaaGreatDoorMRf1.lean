/- The reference's New, OpenSession, changed. -/
import Derived.Test.YtgojaelkdpabkaaGreatDoorMRcv
namespace Go.Proofs.YtgojaelkdpabkaaGreatDoor
open Go.RowKit
theorem results_c4 {P:Program} {fn:Func} {tmps:Array Value} {w:World} {a p q r:Tmp} {t:TypeId} {ad:Addr} {v x y z:Value} (hres:fn.results=#[.cell a t,.tmp p,.tmp q,.tmp r]) (h1:tmps[a]?.getD undef=.pointer (some ad)) (h2:(loadVar t ad).run P w=.ok v w) (h3:tmps[p]?.getD undef=x) (h4:tmps[q]?.getD undef=y) (h5:tmps[r]?.getD undef=z) :
  (results fn tmps).run P w=.ok (.tuple #[v,x,y,z]) w:=by
 simp[results,hres,h1,h2,h3,h4,h5,asAddr]
theorem results_cc {P:Program} {fn:Func} {tmps:Array Value} {w:World} {a b p:Tmp} {t u:TypeId} {ad bd:Addr} {v x y:Value} (hres:fn.results=#[.cell a t,.cell b u,.tmp p]) (h1:tmps[a]?.getD undef=.pointer (some ad)) (h2:(loadVar t ad).run P w=.ok v w) (h3:tmps[b]?.getD undef=.pointer (some bd)) (h4:(loadVar u bd).run P w=.ok x w) (h5:tmps[p]?.getD undef=y) :
  (results fn tmps).run P w=.ok (.tuple #[v,x,y]) w:=by
 simp[results,hres,h1,h2,h3,h4,h5,asAddr]
theorem ld_setRowT (r:Rt) {w:World} {b:Nat} (h:rowOk w b 4=true):(loadVar 60 ⟨b,0,none⟩).run Tryz.prog (w.setRow b (aT r))=.ok (vT r) (w.setRow b (aT r)) :=
 run_loadVar_at _ ⟨b,0,none⟩ 60 (cT r) _ (at_setRow (cT r) h) Tryz.underlying60 rfl (by rw[cT_length];exact sizeRT)
structure BxT (F:List Nat) (s:Tk) (r:Rt) (w:World) (g r0:Nat) (G:List Nat) (u:World):Prop where
 rf:RfAt G s r u
 rg:Row u g (cT r) 60
 rr:Row u r0 (cT zT) 60
 gG:g∈G
 rG:r0∈G
 FG:∀ k∈F,k∈G
 lt:∀ k∈G,k<u.heap.size
 bl:Below w.heap.size w u
 le:w.heap.size≤r0
 ge:w.heap.size≤g
 ne:g≠r0
section
variable {F G : List Nat} {s s' : Tk} {r r' : Rt} {w u u' : World} {g r0 : Nat}
theorem BxT.new (h:RfAt F s r w) (hF:∀ k∈F,k<w.heap.size):∃ g W1 r0 W2 G,w.heap.size=g∧w.alloc (.cells (aT r) 60)=W1∧W1.heap.size=r0∧W1.alloc (.cells (aT zT) 60)=W2∧BxT F s r w g r0 G W2:=by
 have hb:=Below.step (below_alloc w (.cells (aT r) 60)) (below_alloc (w.alloc (.cells (aT r) 60)) (.cells (aT zT) 60))
 have hz:(w.alloc (.cells (aT r) 60)).heap.size=w.heap.size+1:=by simp
 have hz2:((w.alloc (.cells (aT r) 60)).alloc (.cells (aT zT) 60)).heap.size=w.heap.size+2:=by simp
 refine⟨_,_,_,_,w.heap.size :: (w.alloc (.cells (aT r) 60)).heap.size :: F,rfl,rfl,rfl,rfl,(h.new _ fun k hk=>?_).keep hb,(Row.new w (cT r) _).keep (below_alloc _ _),Row.new _ (cT zT) _,List.mem_cons_self,List.mem_cons_of_mem _ List.mem_cons_self,fun k hk=>List.mem_cons_of_mem _ (List.mem_cons_of_mem _ hk),fun k hk=>?_,hb,by omega,Nat.le_refl _,by omega⟩
 ·rcases List.mem_cons.1 hk with rfl|hk
  ·exact Or.inr (Nat.le_refl _)
  ·rcases List.mem_cons.1 hk with rfl|hk
   ·exact Or.inr (by omega)
   ·exact Or.inl hk
 ·rcases List.mem_cons.1 hk with rfl|hk
  ·omega
  ·rcases List.mem_cons.1 hk with rfl|hk
   ·omega
   ·have:=hF k hk;omega
theorem BxT.new2 (h:RfAt F s r w) (hF:∀ k∈F,k<w.heap.size) (cs:List Value) (t:TypeId):∃ g W1 m W2 r0 W3 G,w.heap.size=g∧w.alloc (.cells (aT r) 60)=W1∧W1.heap.size=m∧W1.alloc (.cells cs.toArray t)=W2∧W2.heap.size=r0∧W2.alloc (.cells (aT zT) 60)=W3∧Row W3 m cs t∧m∉F∧m≠g∧m≠r0∧m∉G∧BxT F s r w g r0 G W3:=by
 have hb1:=below_alloc w (.cells (aT r) 60)
 have hb2:=below_alloc (w.alloc (.cells (aT r) 60)) (.cells cs.toArray t)
 have hb3:=below_alloc ((w.alloc (.cells (aT r) 60)).alloc (.cells cs.toArray t)) (.cells (aT zT) 60)
 have hb:=Below.step (Below.step hb1 hb2) hb3
 have hz:(w.alloc (.cells (aT r) 60)).heap.size=w.heap.size+1:=by simp
 have hz2:((w.alloc (.cells (aT r) 60)).alloc (.cells cs.toArray t)).heap.size=w.heap.size+2:=by simp
 have hz3:(((w.alloc (.cells (aT r) 60)).alloc (.cells cs.toArray t)).alloc (.cells (aT zT) 60)).heap.size=w.heap.size+3:=by simp
 refine⟨_,_,_,_,_,_,w.heap.size :: ((w.alloc (.cells (aT r) 60)).alloc (.cells cs.toArray t)).heap.size :: F,rfl,rfl,rfl,rfl,rfl,rfl,(Row.new _ cs t).keep hb3,fun hm=>?_,by omega,by omega,fun hm=>?_,(h.new _ fun k hk=>?_).keep hb,((Row.new w (cT r) _).keep hb2).keep hb3,Row.new _ (cT zT) _,List.mem_cons_self,List.mem_cons_of_mem _ List.mem_cons_self,fun k hk=>List.mem_cons_of_mem _ (List.mem_cons_of_mem _ hk),fun k hk=>?_,hb,by omega,Nat.le_refl _,by omega⟩
 ·have:=hF _ hm;omega
 ·rcases List.mem_cons.1 hm with e|hm
  ·omega
  ·rcases List.mem_cons.1 hm with e|hm
   ·omega
   ·have:=hF _ hm;omega
 ·rcases List.mem_cons.1 hk with rfl|hk
  ·exact Or.inr (Nat.le_refl _)
  ·rcases List.mem_cons.1 hk with rfl|hk
   ·exact Or.inr (by omega)
   ·exact Or.inl hk
 ·rcases List.mem_cons.1 hk with rfl|hk
  ·omega
  ·rcases List.mem_cons.1 hk with rfl|hk
   ·omega
   ·have:=hF k hk;omega
theorem BxT.keep (h:BxT F s r w g r0 G u) (hb:Below u.heap.size u u'):BxT F s r w g r0 G u' :=
 ⟨h.rf.keep hb,h.rg.keep hb,h.rr.keep hb,h.gG,h.rG,h.FG,fun k hk=>Nat.lt_of_lt_of_le (h.lt k hk) hb.size,Below.step h.bl hb,h.le,h.ge,h.ne⟩
theorem BxT.set (h:BxT F s r w g r0 G u) (k:Nat) (v:Value) (hv:(cT r).set k v=cT r') (hr:RfAt G s' r' u):u.frozen? ⟨g,k,none⟩=false∧BxT F s' r' w g r0 G (u.setCell ⟨g,k,none⟩ v):=by
 have ho:One g u (u.setCell ⟨g,k,none⟩ v):=One.set k v
 refine⟨h.rg.fz k,hr.same ho.size (fun j hj hn=>ho.out j hj (fun e=>hn (e▸h.gG))),hv▸h.rg.set k v,h.rr.same (ho.out r0 h.rr.lt (fun e=>h.ne e.symm)),h.gG,h.rG,h.FG,fun j hj=>Nat.lt_of_lt_of_le (h.lt j hj) ho.size,?_,h.le,h.ge,h.ne⟩
 have hk:Kp [g] [g] u (u.setCell ⟨g,k,none⟩ v):=Kp.one ho (List.mem_singleton.2 rfl)
 exact Below.trans h.bl (hk.below (fun j hj=>by rw[List.mem_singleton.1 hj];exact h.ge) h.bl.size)
theorem BxT.setKF (h:BxT F s r w g r0 G u) {v:SlV} {l':List Pt} (hs:SlF G u' cA v l') (hb:Below u.heap.size u u'):u'.frozen? ⟨g,3,none⟩=false∧BxT F { s with kept:=l' } ⟨r.win,r.opn,r.act,v⟩ w g r0 G (u'.setCell ⟨g,3,none⟩ (.slice v.1 v.2.1 v.2.2)) :=
 (h.keep hb).set 3 _ rfl ⟨h.rf.win,h.rf.opn,h.rf.act.keep hb,hs⟩
theorem BxT.setAF (h:BxT F s r w g r0 G u) {v:SlV} {l':List Pt} (hs:SlF G u' cA v l') (hb:Below u.heap.size u u'):u'.frozen? ⟨g,2,none⟩=false∧BxT F { s with act:=l' } ⟨r.win,r.opn,v,r.kept⟩ w g r0 G (u'.setCell ⟨g,2,none⟩ (.slice v.1 v.2.1 v.2.2)) :=
 (h.keep hb).set 2 _ rfl ⟨h.rf.win,h.rf.opn,hs,h.rf.kept.keep hb⟩
theorem SlF.ofOwn {F:List Nat} {w:World} {base:Nat} {e:TypeId} {A:Option Addr} {n c:Nat} {xs:List Pt} (h:Own w base e 35 cA (.slice A n c) xs) (hF:∀ k∈F,k<base):SlF F w cA (A,n,c) xs:=by
 obtain⟨A2,c2,e2,hc,hs⟩:=h.sl
 cases e2
 refine⟨rfl,hc,hs,fun ad e _ hm=>?_⟩
 have e':A=some ad:=e
 have:=(Own.lt h ad.block (by rw[e'];rfl)).1
 have:=hF _ hm
 omega
theorem BxT.ld (h:BxT F s r w g r0 G u):okA u ⟨g,0,none⟩ 4=true∧rdA u ⟨g,0,none⟩ 4=vT r∧rowOk u r0 4=true:=⟨(Row.okw h.rg (cT_length r)).1,(Row.okw h.rg (cT_length r)).2,h.rr.rowOk (cT_length zT)⟩
theorem BxT.ca (h:BxT F s r w g r0 G u):u.cell? ⟨g,2,none⟩=some (.slice r.act.1 s.act.length r.act.2.2):=by rw[h.rf.act.1];exact h.rg.cell 2
theorem BxT.ck (h:BxT F s r w g r0 G u):u.cell? ⟨g,3,none⟩=some (.slice r.kept.1 s.kept.length r.kept.2.2):=by rw[h.rf.kept.1];exact h.rg.cell 3
end
def RfP (F:List Nat) (s':Tk) (no:Value) (w:World) (e:Ending) (w':World):Prop:=∃ r',e=.returned (.tuple #[vT r',no])∧RfAt F s' r' w'∧Below w.heap.size w w'
theorem BxT.fin {F G:List Nat} {s:Tk} {r:Rt} {w u:World} {g r0:Nat} (h:BxT F s r w g r0 G u):RfAt F s r (u.setRow r0 (aT r))∧Below w.heap.size w (u.setRow r0 (aT r)):=by
 refine⟨(h.rf.same (F:=G) (by simp[World.setRow]) (fun j _ hn=>heap_setRow_other u r0 j _ (fun e=>hn (e▸h.rG)))).sub h.FG,Below.setRow' h.bl h.le _⟩
section
set_option maxRecDepth 100000
theorem refNew46_ok (n:Int) (h1:1≤n) (h2:n≤64) (w:World):Calls Tryz.prog 46 #[.int .i64 n] w fun e w'=>e=.returned (.tuple #[vT ⟨n,false,(none,0,0),(none,0,0)⟩,.int .i64 0])∧Below w.heap.size w w':=by
 obtain⟨r0,hr0⟩:∃ r0,w.heap.size=r0:=⟨_,rfl⟩
 obtain⟨W1,hW1⟩:∃ W1,w.alloc (.cells (aT zT) 60)=W1:=⟨_,rfl⟩
 have hb1:Below w.heap.size w W1:=by rw[← hW1];exact below_alloc _ _
 have ro:rowOk W1 r0 4=true:=by rw[← hW1,← hr0];exact Row.rowOk (Row.new w (cT zT) _) (cT_length _)
 have HB:=Lib.hid (And.intro hb1 (Nat.le_of_eq hr0))
 have q1:¬ n<1:=by omega
 have q2:¬ 64<n:=by omega
 clear hb1
 go_enter Tryz.func46,Tryz.ntmps46
 go_wp2
 exact bodyPost_ret (v:=.tuple #[vT ⟨n,false,(none,0,0),(none,0,0)⟩,.int .i64 0]) (results_c2 (ad:=⟨r0,0,none⟩) rfl rfl (ld_setRowT _ ro) rfl) rfl ⟨rfl,by rw[← hr0];exact Below.setRow' HB.out.1 (Nat.le_refl _) _⟩
theorem refOpen60 (F:List Nat) (s:Tk) (r:Rt) (w:World) (h:RfAt F s r w) (hF:∀ k∈F,k<w.heap.size):Calls Tryz.prog 60 #[vT r] w (RfP F (openT s).1 (.int .i64 (openT s).2) w):=by
 obtain⟨g,W1,r0,W2,G,hg,hW1,hr0,hW2,hB⟩:=BxT.new h hF
 have ro:=hB.rr.rowOk (cT_length zT)
 have j1:W2.cell? ⟨g,1,none⟩=some (.bool r.opn):=hB.rg.cell 1
 have lk:=Row.okw hB.rg (cT_length r)
 have l1:=lk.1
 have l2:rdA W2 ⟨g,0,none⟩ 4=vT r:=lk.2
 have ho:=h.opn
 cases hop:r.opn with
 | true =>
  rw[hop] at j1
  have e:openT s=(s,10):=by unfold openT;rw[if_pos (ho.symm.trans hop)]
  rw[e]
  have HB:=Lib.hid hB
  clear hB lk ho hop h hF
  go_enter Tryz.func60,Tryz.ntmps60
  go_wp2
  exact bodyPost_ret (v:=.tuple #[vT r,.int .i64 10]) (results_c2 (ad:=⟨r0,0,none⟩) rfl rfl (ld_setRowT _ ro) rfl) rfl ⟨r,rfl,by first|exact HB.out.fin|(rw[← hg];exact HB.out.fin)⟩
 | false =>
  rw[hop] at j1
  have e:openT s=({ s with opn:=true },0):=by unfold openT;rw[if_neg (by rw[← ho,hop];decide)]
  rw[e]
  obtain⟨f1,hB3⟩:=hB.set (s':={ s with opn:=true }) (r':=⟨r.win,true,r.act,r.kept⟩) 1 (.bool true) rfl ⟨hB.rf.win,rfl,hB.rf.act,hB.rf.kept⟩
  obtain⟨W3,hW3⟩:∃ W3,W2.setCell ⟨g,1,none⟩ (.bool true)=W3:=⟨_,rfl⟩
  rw[hW3] at hB3
  have lk3:=Row.okw hB3.rg (cT_length _)
  have l31:=lk3.1
  have l32:rdA W3 ⟨g,0,none⟩ 4=vT ⟨r.win,true,r.act,r.kept⟩:=lk3.2
  have ro3:=hB3.rr.rowOk (cT_length zT)
  have HB:=Lib.hid hB3
  clear hB hB3 lk lk3 ho hop h hF l1 l2 ro
  go_enter Tryz.func60,Tryz.ntmps60
  go_wp2
  exact bodyPost_ret (v:=.tuple #[vT ⟨r.win,true,r.act,r.kept⟩,.int .i64 0]) (results_c2 (ad:=⟨r0,0,none⟩) rfl rfl (ld_setRowT _ ro3) rfl) rfl ⟨_,rfl,by first|exact HB.out.fin|(rw[← hg];exact HB.out.fin)⟩
end
end Go.Proofs.YtgojaelkdpabkaaGreatDoor
