/- The reference's functions that hear a command: what they hold. -/
import Derived.Test.YtgojaelkdpabkaaGreatDoorMRfc
import Derived.Test.YtgojaelkdpabkaaGreatDoorMRchk
import Derived.Test.YtgojaelkdpabkaaGreatDoorMTkB
namespace Go.Proofs.YtgojaelkdpabkaaGreatDoor
open Go.RowKit
structure BxH (F:List Nat) (s:Tk) (r:Rt) (c:Cm) (w:World) (g m r0:Nat) (G:List Nat) (u:World):Prop where
 t:BxT F s r w g r0 G u
 rm:Row u m (cC c) 35
 mG:m∉G
section
variable {F G : List Nat} {s s' : Tk} {r r' : Rt} {c : Cm} {w u u' : World} {g m r0 : Nat}
theorem BxH.new (h:RfAt F s r w) (hF:∀ k∈F,k<w.heap.size) (c:Cm):∃ g W1 m W2 r0 W3 G,w.heap.size=g∧w.alloc (.cells (aT r) 60)=W1∧W1.heap.size=m∧W1.alloc (.cells (aC c) 35)=W2∧W2.heap.size=r0∧W2.alloc (.cells (aT zT) 60)=W3∧BxH F s r c w g m r0 G W3:=by
 obtain⟨g,W1,m,W2,r0,W3,G,hg,hW1,hm,hW2,hr0,hW3,hrm,_,_,_,hmG,hB⟩:=BxT.new2 h hF (cC c) 35
 exact⟨g,W1,m,W2,r0,W3,G,hg,hW1,hm,hW2,hr0,hW3,hB,hrm,hmG⟩
theorem BxH.keep (h:BxH F s r c w g m r0 G u) (hb:Below u.heap.size u u'):BxH F s r c w g m r0 G u':=⟨h.t.keep hb,h.rm.keep hb,h.mG⟩
theorem BxH.one (h:BxH F s r c w g m r0 G u) (ho:One g u u') (ht:BxT F s' r' w g r0 G u'):BxH F s' r' c w g m r0 G u':=⟨ht,ho.row h.rm (fun e=>h.mG (e▸h.t.gG)),h.mG⟩
theorem BxH.setK (h:BxH F s r c w g m r0 G u) {v:SlV} {l':List Pt} (hs:SlF G u' cA v l') (hb:Below u.heap.size u u'):u'.frozen? ⟨g,3,none⟩=false∧BxH F { s with kept:=l' } ⟨r.win,r.opn,r.act,v⟩ c w g m r0 G (u'.setCell ⟨g,3,none⟩ (.slice v.1 v.2.1 v.2.2)) :=
 ⟨(h.t.setKF hs hb).1,(h.keep hb).one (One.set 3 _) (h.t.setKF hs hb).2⟩
theorem BxH.setA (h:BxH F s r c w g m r0 G u) {v:SlV} {l':List Pt} (hs:SlF G u' cA v l') (hb:Below u.heap.size u u'):u'.frozen? ⟨g,2,none⟩=false∧BxH F { s with act:=l' } ⟨r.win,r.opn,v,r.kept⟩ c w g m r0 G (u'.setCell ⟨g,2,none⟩ (.slice v.1 v.2.1 v.2.2)) :=
 ⟨(h.t.setAF hs hb).1,(h.keep hb).one (One.set 2 _) (h.t.setAF hs hb).2⟩
theorem BxT.add {F G:List Nat} {s:Tk} {r:Rt} {w u:World} {g r0:Nat} (h:BxT F s r w g r0 G u) (o:Obj):BxT F s r w g r0 (u.heap.size :: G) (u.alloc o):=by
 have hb:=below_alloc u o
 have hz:(u.alloc o).heap.size=u.heap.size+1:=by simp
 refine⟨(h.rf.new _ fun k hk=>?_).keep hb,h.rg.keep hb,h.rr.keep hb,List.mem_cons_of_mem _ h.gG,List.mem_cons_of_mem _ h.rG,fun k hk=>List.mem_cons_of_mem _ (h.FG k hk),fun k hk=>?_,Below.step h.bl hb,h.le,h.ge,h.ne⟩
 ·rcases List.mem_cons.1 hk with rfl|hk
  ·exact Or.inr (Nat.le_refl _)
  ·exact Or.inl hk
 ·rcases List.mem_cons.1 hk with rfl|hk
  ·omega
  ·have:=h.lt k hk;omega
theorem BxT.inG (h:BxT F s r w g r0 G u) {k:Nat} (ho:One k u u') (hk:k∈G) (hg:g≠k) (hr:r0≠k) (hle:w.heap.size≤k):BxT F s r w g r0 G u':=by
 refine⟨h.rf.same ho.size (fun j hj hn=>ho.out j hj (fun e=>hn (e▸hk))),ho.row h.rg hg,ho.row h.rr hr,h.gG,h.rG,h.FG,fun j hj=>Nat.lt_of_lt_of_le (h.lt j hj) ho.size,?_,h.le,h.ge,h.ne⟩
 have hk6:Kp [k] [k] u u':=Kp.one ho (List.mem_singleton.2 rfl)
 exact Below.trans h.bl (hk6.below (fun j hj=>by rw[List.mem_singleton.1 hj];exact hle) h.bl.size)
theorem BxH.part (h:BxH F s r c w g m r0 G u) (a:Pt):∃ q U,u.heap.size=q∧rowOk (u.alloc (.cells (aA zA) 98)) q 35=true∧(u.alloc (.cells (aA zA) 98)).setRow q (aA a)=U∧Row U q (cA a) 98∧BxH F s r c w g m r0 (q :: G) U∧g≠q∧r0≠q∧m≠q∧w.heap.size≤q:=by
 have hr:=Row.new u (cA zA) 98
 have h1:=h.t.lt g h.t.gG
 have h2:=h.t.lt r0 h.t.rG
 have h3:=h.rm.lt
 have ho:One u.heap.size (u.alloc (.cells (aA zA) 98)) ((u.alloc (.cells (aA zA) 98)).setRow u.heap.size (aA a)):=One.setRow _ _
 refine⟨_,_,rfl,hr.rowOk (cA_length zA),rfl,hr.setRow (cA a),⟨(h.t.add _).inG ho List.mem_cons_self (by omega) (by omega) h.t.bl.size,ho.row (h.rm.keep (below_alloc _ _)) (by omega),fun hm=>?_⟩,by omega,by omega,by omega,h.t.bl.size⟩
 rcases List.mem_cons.1 hm with e|hm
 ·omega
 ·exact h.mG hm
theorem BxH.inG (h:BxH F s r c w g m r0 G u) {k:Nat} (ho:One k u u') (hk:k∈G) (hg:g≠k) (hr:r0≠k) (hm:m≠k) (hle:w.heap.size≤k):BxH F s r c w g m r0 G u':=⟨h.t.inG ho hk hg hr hle,ho.row h.rm hm,h.mG⟩
theorem BxH.cmd (h:BxH F s r c w g m r0 G u):u.cell? ⟨m,0,none⟩=some (.int .i64 c.verb)∧okA u ⟨m,2,none⟩ 32=true∧rdA u ⟨m,2,none⟩ 32=vI c.id∧u.cell? ⟨m,35,none⟩=some (.int .i64 c.from_)∧u.cell? ⟨m,34,none⟩=some (.int .i64 c.size)∧u.cell? ⟨m,38,none⟩=some (.string c.text)∧okA u ⟨m,0,none⟩ 39=true∧rdA u ⟨m,0,none⟩ 39=vC c :=
 ⟨h.rm.cell 0,h.rm.idC.1,h.rm.idC.2,(h.rm.cell 35).trans (cC_at (aC_35 c)),(h.rm.cell 34).trans (cC_at (aC_34 c)),(h.rm.cell 38).trans (cC_at (aC_38 c)),(Row.okw h.rm (cC_length c)).1,(Row.okw h.rm (cC_length c)).2⟩
theorem BxH.setP (h:BxH F s r c w g m r0 G u) {q:Nat} {a a':Pt} (hr:Row u q (cA a) 98) (hq:q∈G) (n1:g≠q) (n2:r0≠q) (n3:m≠q) (le:w.heap.size≤q) (k:Nat) (v:Value) (hv:(cA a).set k v=cA a'):u.frozen? ⟨q,k,none⟩=false∧Row (u.setCell ⟨q,k,none⟩ v) q (cA a') 98∧BxH F s r c w g m r0 G (u.setCell ⟨q,k,none⟩ v) :=
 ⟨hr.fz k,hv▸hr.set k v,h.inG (One.set k v) hq n1 n2 n3 le⟩
theorem BxH.finC (h:BxH F s r c w g m r0 G u) {s2:Tk} {r2:Rt} {u2:World} (hr:RfAt G s2 r2 u2) (hb:Below u.heap.size u u2):rowOk u2 r0 4=true∧RfAt F s2 r2 (u2.setRow r0 (aT r2))∧Below w.heap.size w (u2.setRow r0 (aT r2)) :=
 ⟨(h.t.rr.keep hb).rowOk (cT_length zT),(hr.same (F:=G) (by simp[World.setRow]) (fun j _ hn=>heap_setRow_other u2 r0 j _ (fun e=>hn (e▸h.t.rG)))).sub h.t.FG,Below.setRow' (Below.step h.t.bl hb) h.t.le _⟩
end
open Go.RowKit
structure RQ {α:Type} (enc:α→List Value) (F G:List Nat) (s9:Tk) (r:Rt) (w W0:World) (r0:Nat) (x:α) (gq:Nat) (dc dq ds:Bool) (u:World):Prop where
 lo:ds=false→Below W0.heap.size W0 u
 call:dc=true→ds=false→RfAt G s9 r u
 hi:ds=true→RfAt F s9 r u∧Below w.heap.size w u∧Row u r0 (cT r) 60
 q:dq=true→W0.heap.size≤gq∧Sl u enc (some ⟨gq,0,none⟩) [x]
 n:W0.heap.size≤u.heap.size
 out:∀ k,k<W0.heap.size→k≠r0→u.heap[k]? = W0.heap[k]?
section
variable {α : Type} {enc : α → List Value} {F G : List Nat} {s s9 : Tk} {r r1 r' : Rt} {c : Cm} {w W0 u u' : World} {g m r0 gq : Nat} {x : α} {dc dq ds : Bool}
theorem RQ.start (hb:Below W0.heap.size W0 u):RQ enc F G s9 r w W0 r0 x gq false false false u:=⟨fun _=>hb,fun h=>(nomatch h),fun h=>(nomatch h),fun h=>(nomatch h),hb.size,fun k hk _=>hb.block k hk⟩
theorem RQ.startC (hb:Below W0.heap.size W0 u) (hr:RfAt G s9 r W0):RQ enc F G s9 r w W0 r0 x gq true false false u:=⟨fun _=>hb,fun _ _=>hr.keep hb,fun h=>(nomatch h),fun h=>(nomatch h),hb.size,fun k hk _=>hb.block k hk⟩
theorem RQ.read (h:RQ enc F G s9 r w W0 r0 x gq dc dq ds u) (hb:Below u.heap.size u u'):RQ enc F G s9 r w W0 r0 x gq dc dq ds u' :=
 ⟨fun e=>Below.step (h.lo e) hb,fun e1 e2=>(h.call e1 e2).keep hb,fun e=>⟨(h.hi e).1.keep hb,Below.step (h.hi e).2.1 hb,(h.hi e).2.2.keep hb⟩,fun e=>⟨(h.q e).1,(h.q e).2.keep hb⟩,Nat.le_trans h.n hb.size,fun k hk hn=>(hb.block k (Nat.lt_of_lt_of_le hk h.n)).trans (h.out k hk hn)⟩
theorem RQ.newq (h:RQ enc F G s9 r w W0 r0 x gq dc dq ds u) (e:TypeId):RQ enc F G s9 r w W0 r0 x u.heap.size dc true ds (u.alloc (.cells (([x]:List α).flatMap enc).toArray e)):=by
 have h2:=h.read (below_alloc u (.cells (([x]:List α).flatMap enc).toArray e))
 exact⟨h2.lo,h2.call,h2.hi,fun _=>⟨h.n,fun _=>⟨_,rfl,at_new u _ _ _ rfl⟩⟩,h2.n,h2.out⟩
theorem RQ.called (h:RQ enc F G s9 r w W0 r0 x gq dc dq false u) (hb:Below u.heap.size u u') (hr:RfAt G s9 r' u'):RQ enc F G s9 r' w W0 r0 x gq true dq false u':=by
 have h2:=h.read hb
 exact⟨h2.lo,fun _ _=>hr,fun h=>(nomatch h),h2.q,h2.n,h2.out⟩
theorem RQ.stored (h:RQ enc F G s9 r w W0 r0 x gq true dq false u) (B:BxH F s r1 c w g m r0 G W0):rowOk u r0 4=true∧RQ enc F G s9 r w W0 r0 x gq true dq true (u.setRow r0 (aT r)):=by
 have hb:=h.lo rfl
 have hr:=h.call rfl rfl
 have hlt:=B.t.lt r0 B.t.rG
 have hrr:=B.t.rr.keep hb
 refine⟨hrr.rowOk (cT_length zT),⟨fun e=>(nomatch e),fun _ e=>(nomatch e),fun _=>⟨?_,Below.setRow' (Below.step B.t.bl hb) B.t.le _,hrr.setRow (cT r)⟩,fun e=>⟨(h.q e).1,?_⟩,by simp[World.setRow];exact h.n,fun k hk hn=>(heap_setRow_other u r0 k _ hn).trans (h.out k hk hn)⟩⟩
 ·exact (hr.same (F:=G) (by simp[World.setRow]) (fun j _ hn=>heap_setRow_other u r0 j _ (fun e=>hn (e▸B.t.rG)))).sub B.t.FG
 ·have hs:SlF [r0] u enc (some ⟨gq,0,none⟩,1,1) [x]:=⟨rfl,Nat.le_refl _,(h.q e).2,fun ad e2 _ hm=>by
   cases e2
   have:=(h.q e).1
   have h3:=List.mem_singleton.1 hm
   dsimp only at h3
   omega⟩
  exact (hs.same (w':=u.setRow r0 (aT r)) (by simp[World.setRow]) (fun j _ hn=>heap_setRow_other u r0 j _ (fun e=>hn (by rw[e];exact List.mem_singleton.2 rfl)))).2.2.1
theorem RQ.row (h:RQ enc F G s9 r w W0 r0 x gq dc dq ds u) {k:Nat} {cs:List Value} {t:TypeId} (hr:Row W0 k cs t) (hk:k≠r0):Row u k cs t:=hr.same (h.out k hr.lt hk)
theorem RQ.slF (h:RQ enc F G s9 r w W0 r0 x gq dc true ds u) (hF:∀ k∈F,k<W0.heap.size):SlF F u enc (some ⟨gq,0,none⟩,1,1) [x]:=⟨rfl,Nat.le_refl _,(h.q rfl).2,fun ad e2 _ hm=>by
 cases e2
 have:=(h.q rfl).1
 have:=hF _ hm
 dsimp only at this
 omega⟩
end
def RhP (F:List Nat) (s':Tk) (qs:List Qn) (ts:List Pt) (no:Int) (w:World) (e:Ending) (w':World):Prop :=
 ∃ (r':Rt) (vq vl:SlV),e=.returned (.tuple #[vT r',.slice vq.1 vq.2.1 vq.2.2,.slice vl.1 vl.2.1 vl.2.2,.int .i64 no])∧RfAt F s' r' w'∧SlF F w' cQn vq qs∧SlF F w' cA vl ts∧Below w.heap.size w w'
theorem RhP.none {F:List Nat} {s':Tk} {r':Rt} {no:Int} {w w':World} (h:RfAt F s' r' w'∧Below w.heap.size w w'):RhP F s' [] [] no w (.returned (.tuple #[vT r',.slice none 0 0,.slice none 0 0,.int .i64 no])) w' :=
 ⟨r',(Option.none,0,0),(Option.none,0,0),rfl,h.1,SlF.nil _ _ _,SlF.nil _ _ _,h.2⟩
open Go.RowKit
def WKR (F:List Nat) (s:Tk) (r:Rt) (w:World) (g r0:Nat) (G:List Nat) (l':List Pt) (W0:World) (v:SlV) (u:World):Bool→Bool→Prop
 | false,_=>Below W0.heap.size W0 u
 | true,false=>SlF G u cA v l'∧Below W0.heap.size W0 u
 | true,true=>BxT F { s with kept:=l' } ⟨r.win,r.opn,r.act,v⟩ w g r0 G u
theorem At.pa {w:World} {ad:Addr} {x:Pt} (h:At w ad (cA x)):okA w ad 35=true∧rdA w ad 35=vA x:=by
 have h1:=h.ok
 have h2:=h.rd
 rw[cA_length] at h1 h2
 exact⟨h1,h2⟩
set_option maxRecDepth 100000 in
set_option maxHeartbeats 3200000 in
theorem refDrop61 (F:List Nat) (s:Tk) (r:Rt) (w:World) (h:RfAt F s r w) (hF:∀ k∈F,k<w.heap.size) (ha:s.act.length≤100) (hk8:s.kept.length≤8) (hnd:(s.kept.map Pt.id).Nodup) :
  Calls Tryz.prog 61 #[vT r] w (RfP F (dropT s).1 (.int .i64 (dropT s).2) w):=by
 obtain⟨g,W1,r0,W2,G,hg,hW1,hr0,hW2,hB⟩:=BxT.new h hF
 obtain⟨l1,l2,ro⟩:=hB.ld
 have j1:W2.cell? ⟨g,1,none⟩=some (.bool r.opn):=hB.rg.cell 1
 have ho:=h.opn
 have HE:=Lib.hid (And.intro ha (And.intro hk8 hnd))
 clear h hF ha hk8 hnd
 cases hop:r.opn with
 | false =>
  rw[hop] at j1
  have e:dropT s=(s,10):=by unfold dropT;rw[if_neg (by rw[← ho,hop];decide)]
  rw[e]
  have HB:=Lib.hid hB
  clear hB ho hop
  go_enter Tryz.func61,Tryz.ntmps61
  go_wp2
  exact bodyPost_ret (v:=.tuple #[vT r,.int .i64 10]) (results_c2 (ad:=⟨r0,0,none⟩) rfl rfl (ld_setRowT _ ro) rfl) rfl ⟨r,rfl,HB.out.fin⟩
 | true =>
  rw[hop] at j1
  have e:dropT s=(⟨s.win,false,[],s.act.foldl keepP s.kept⟩,0):=by unfold dropT;rw[if_pos (ho.symm.trans hop)]
  rw[e]
  have HB:=Lib.hid hB
  clear hB ho hop l1 l2 ro e
  go_enter Tryz.func61,Tryz.ntmps61
  go_wp2
  go_loopw [4] (fun i wr=>∃ (j:Nat) (r':Rt),i=.int .i64 j∧j≤s.act.length∧r'.act=r.act∧r'.win=r.win∧BxT F { s with kept:=(s.act.take j).foldl keepP s.kept } r' w g r0 G wr) (fun i _=>s.act.length+1 - (intOf i).toNat)
  case atStart=>exact⟨0,r,rfl,Nat.zero_le _,rfl,rfl,HB.out⟩
  case round =>
   obtain⟨j,r',rfl,hj,hra,hrw,hB⟩:=hrel
   obtain⟨kl,hkl⟩:∃ kl,(s.act.take j).foldl keepP s.kept=kl:=⟨_,rfl⟩
   have hk8:kl.length≤8:=by rw[← hkl];exact fold_len _ _ HE.out.2.1
   have hnd:(kl.map Pt.id).Nodup:=by rw[← hkl];exact fold_nd _ _ HE.out.2.2
   rw[hkl] at hB
   have HKL:=Lib.hid (And.intro hkl (And.intro hk8 (And.intro hnd (And.intro hra hrw))))
   have jc:=hB.ca
   have H:=Lib.hid hB
   clear hkl hk8 hnd hra hrw hB
   have hl:({ s with kept:=kl }:Tk).act.length=s.act.length:=rfl
   by_cases hlt:j<s.act.length
   ·have hlt1:(j:Int)<(s.act.length:Int):=by omega
    have hj100:j<100:=by have:=HE.out.1;omega
    obtain⟨ad,hae, -, -,hat⟩:=Sl.pt H.out.rf.act.2.2.1 hlt
    obtain⟨pp,hpp⟩:∃ pp,s.act[j]=pp:=⟨_,rfl⟩
    have hat':At wr (ad.add (j * 35)) (cA pp):=hpp▸hat
    have HP:=Lib.hid (And.intro hpp (And.intro hae hat'))
    clear hat hat' hpp hae
    go_wp2
    refine AnyO.wp_anyI (by kernel_rfl) (by kernel_rfl) (AnyO.InvG (σ:=SlV) (fun σ=>AnyO.pvL [some (.pointer (some ⟨g,3,none⟩)),some (.slice r'.kept.1 kl.length r'.kept.2.2),some (.pointer (some ⟨g,2,none⟩)),some (.slice r'.act.1 s.act.length r'.act.2.2),some (.int .i64 j),some (.pointer (some (ad.add (j * 35)))),some (vA pp),some (.slice σ.1 σ.2.1 σ.2.2),some (.pointer (some ⟨g,3,none⟩)),none]) (fun σ D u=>WKR F ({ s with kept:=kl }:Tk) (r') w g r0 G (keepL ({ s with kept:=kl }:Tk).kept pp) wr σ u (D 7) (D 9))) (AnyO.InvG.start (g:=(none,0,0)) (below_drew _)) ?_ ?_
    ·intro i hi
     have hi2:i=1∨i=3∨i=6∨i=7∨i=9∨i=0∨i=2∨i=4∨i=5∨i=8:=by simp only[List.size_toArray,List.length_cons,List.length_nil] at hi;omega
     clear hi
     rcases hi2 with rfl|rfl|rfl|rfl|rfl|rfl|rfl|rfl|rfl|rfl
     ·refine AnyO.I rfl [0] ?_;rintro D vs u σ Q h0 hC hp ac hb K hK
      have s16:_=_:=AnyO.sv 16 0 hb hp Q
      have hf7:=AnyO.fls (hC.out 7) h0 (show AnyO.pre _ 7=[1,6] from by kernel_rfl) (by decide)
      have hst:=Q.out.2
      rw[show D 7=false from hf7] at hst
      have rr:=(H.out.keep hst).ck
      clear hst hf7
      go_simp;exact hK _ _ (AnyO.InvG.step (g:=σ) Q.out.1 rfl Q.out.2)
     ·refine AnyO.I rfl [2] ?_;rintro D vs u σ Q h0 hC hp ac hb K hK
      have s18:_=_:=AnyO.sv 18 2 hb hp Q
      have hf5:=AnyO.fls (hC.out 5) h0 (show AnyO.pre _ 5=[3,4] from by kernel_rfl) (by decide)
      have hf6:=AnyO.fls (hC.out 6) hf5 (show AnyO.pre _ 6=[5] from by kernel_rfl) (by decide)
      have hf7:=AnyO.fls (hC.out 7) hf6 (show AnyO.pre _ 7=[1,6] from by kernel_rfl) (by decide)
      have hst:=Q.out.2
      rw[show D 7=false from hf7] at hst
      have rr:=(H.out.keep hst).ca
      clear hst hf5 hf6 hf7
      go_simp;exact hK _ _ (AnyO.InvG.step (g:=σ) Q.out.1 rfl Q.out.2)
     ·refine AnyO.StepI.mk rfl [5] (by kernel_rfl) ?_;rintro D vs u ⟨σ,hP,hW⟩ h0 hC hp ac hb K hK
      have s21:=AnyO.slot 21 hb (by kernel_rfl) (hP 5 (hp 5 (by decide)))
      rw[if_pos (AnyO.wanted_none rfl)];clear hb hp
      have hf7:=AnyO.fls (hC 7) h0 (show AnyO.pre _ 7=[1,6] from by kernel_rfl) (by decide)
      have hst:=hW
      rw[show D 7=false from hf7] at hst
      have rr:=(HP.out.2.2.keep hst)
      obtain⟨rr1,rr2⟩:=rr.pa
      clear rr
      clear hst hf7
      clear hC h0;have HPW:=Lib.hid (And.intro hP hW);clear hP hW;go_simp;exact hK _ _ (AnyO.InvG.step (g:=σ) HPW.out.1 rfl HPW.out.2)
     ·refine AnyO.I rfl [1,6] ?_;rintro D vs u σ Q h0 hC hp ac hb K hK
      have s17:_=_:=AnyO.sv 17 1 hb hp Q
      have s22:_=_:=AnyO.sv 22 6 hb hp Q
      have hf9:=AnyO.fls (hC.out 9) h0 (show AnyO.pre _ 9=[8,7,7,0,1,2,3,4,5,6,7] from by kernel_rfl) (by decide)
      go_simp
      have hst:=Q.out.2
      rw[show D 7=false from h0] at hst
      go_at_call 75
      refine (refKeep75 G (r').kept.1 (r').kept.2.2 ({ s with kept:=kl }:Tk).kept.length ({ s with kept:=kl }:Tk).kept pp u rfl (show SlF G u cA ((r').kept.1,({ s with kept:=kl }:Tk).kept.length,(r').kept.2.2) ({ s with kept:=kl }:Tk).kept from ⟨rfl,(by have:=H.out.rf.kept.2.1;have h2:=H.out.rf.kept.1;show kl.length≤r'.kept.2.2;rw[show kl.length=r'.kept.2.1 from h2];exact this),((H.out.keep hst).rf).kept.2.2.1,((H.out.keep hst).rf).kept.2.2.2⟩) (H.out.keep hst).lt HKL.out.2.1).mono ?_
      rintro e w2 ⟨v',rfl,hs',hb'⟩
      refine hK _ _ (AnyO.InvG.ghost (g:=σ) v' Q.out.1 ?_ rfl ?_)
      ·intro j hj hq
       rcases j with _|_|_|_|_|_|_|_|_|_|j
       all_goals first|exact hq|exact absurd (show D 7=true from hj) (by rw[h0];decide)
      rw[show AnyO.addD D 7 7=true from rfl,show AnyO.addD D 7 9=D 9 from rfl,hf9]
      exact⟨hs',Below.step hst hb'⟩
     ·refine AnyO.I rfl [8,7,7,0,1,2,3,4,5,6,7] ?_;rintro D vs u σ Q h0 hC hp ac hb K hK
      have s24:_=_:=AnyO.sv 24 8 hb hp Q
      have s23:_=_:=AnyO.sv 23 7 hb hp Q
      have hp7:D 7=true:=hp.out 7 (by decide)
      have hst:=Q.out.2
      rw[show D 7=true from hp7,show D 9=false from h0] at hst
      obtain⟨rf,rp⟩:=H.out.setKF hst.1 hst.2
      have rc:=(H.out.keep hst.2).ck
      have RP:=Lib.hid rp
      clear hst rp
      go_simp
      exact hK undef _ (AnyO.InvG.step (g:=σ) Q.out.1 trivial (by rw[show AnyO.addD D 9 7=D 7 from rfl,hp7,show AnyO.addD D 9 9=true from rfl];exact RP.out))
     all_goals
      refine AnyO.StepI.mk rfl _ rfl ?_;rintro D vs u ⟨σ,hP,hW⟩ h0 hC hp ac hb K hK
      try have s1:ac.tmps[1]?.getD undef=.pointer (some ⟨g,0,none⟩):=by rw[hb];kernel_rfl
      try have s4:ac.tmps[4]?.getD undef=.int .i64 j:=by rw[hb];kernel_rfl
      try have s19:=AnyO.slot 19 hb (by kernel_rfl) (hP 3 (hp 3 (by decide +kernel)))
      try have s20:=AnyO.slot 20 hb (by kernel_rfl) (hP 4 (hp 4 (by decide +kernel)))
      rw[if_pos (AnyO.wanted_none rfl)];clear hb hp
      have rae:=HP.out.2.1
      clear hC h0;have HPW:=Lib.hid (And.intro hP hW);clear hP hW;go_simp;obtain⟨hP,hW⟩:=HPW.out
      exact hK _ _ (AnyO.InvG.step (g:=σ) hP rfl hW)
    ·intro D vs u hI hD
     obtain⟨σ,hP,hW⟩:=hI
     have e0:_=_:=hP 0 (hD 0 (by decide))
     have e1:_=_:=hP 1 (hD 1 (by decide))
     have e2:_=_:=hP 2 (hD 2 (by decide))
     have e3:_=_:=hP 3 (hD 3 (by decide))
     have e4:_=_:=hP 4 (hD 4 (by decide))
     have e5:_=_:=hP 5 (hD 5 (by decide))
     have e6:_=_:=hP 6 (hD 6 (by decide))
     have e7:_=_:=hP 7 (hD 7 (by decide))
     have e8:_=_:=hP 8 (hD 8 (by decide))
     have hst:=hW
     rw[show D 7=true from hD 7 (by decide),show D 9=true from hD 9 (by decide)] at hst
     have HST:=Lib.hid hst
     clear hst
     have HW:=Lib.hid hW
     clear hW hP hD
     rw[puts_range [some 16,some 17,some 18,some 19,some 20,some 21,some 22,some 23,some 24,none] (by kernel_rfl)]
     simp only[putL,Nat.reduceAdd,e0,e1,e2,e3,e4,e5,e6,e7,e8]
     clear e0 e1 e2 e3 e4 e5 e6 e7 e8
     have HX:=Lib.hid (show BxT F { s with kept:=(s.act.take (j+1)).foldl keepP s.kept } ⟨r'.win,r'.opn,r'.act,σ⟩ w g r0 G u by rw[fold_snoc _ _ hlt,HKL.out.1,HP.out.1,← keepL_eq HKL.out.2.2.1];exact HST.out)
     clear HST
     go_simp
     go_wp2
     go_roundw
     case rel=>exact⟨j+1,⟨r'.win,r'.opn,r'.act,σ⟩,by go_num,hlt,HKL.out.2.2.2.1,HKL.out.2.2.2.2,HX.out⟩
     case measure=>simp[intOf] <;> omega
   ·have hlt1:¬ (j:Int)<(s.act.length:Int):=by omega
    obtain rfl:j=s.act.length:=by omega
    have hkl:=HKL.out.1
    rw[List.take_length] at hkl
    obtain⟨f1,hB3⟩:=H.out.set (s':=⟨s.win,false,s.act,kl⟩) (r':=⟨r'.win,false,r'.act,r'.kept⟩) 1 (.bool false) rfl ⟨H.out.rf.win,rfl,H.out.rf.act,H.out.rf.kept⟩
    have k1:wr.cell? ⟨g,1,none⟩=some (.bool r'.opn):=H.out.rg.cell 1
    obtain⟨W3,hW3⟩:∃ W3,wr.setCell ⟨g,1,none⟩ (.bool false)=W3:=⟨_,rfl⟩
    rw[hW3] at hB3
    obtain⟨f2,hB4⟩:=hB3.set (s':=⟨s.win,false,[],kl⟩) (r':=⟨r'.win,false,(none,0,0),r'.kept⟩) 2 (.slice none 0 0) rfl ⟨hB3.rf.win,rfl,SlF.nil _ _ _,hB3.rf.kept⟩
    have k2:=hB3.ca
    obtain⟨W4,hW4⟩:∃ W4,W3.setCell ⟨g,2,none⟩ (.slice none 0 0)=W4:=⟨_,rfl⟩
    rw[hW4] at hB4
    obtain⟨l41,l42,ro4⟩:=hB4.ld
    have HKL2:=Lib.hid hkl
    have H4:=Lib.hid hB4
    clear hB3 hB4 hkl
    go_wp2
    exact bodyPost_ret (v:=.tuple #[vT ⟨r'.win,false,(none,0,0),r'.kept⟩,.int .i64 0]) (results_c2 (ad:=⟨r0,0,none⟩) rfl rfl (ld_setRowT _ ro4) rfl) rfl ⟨_,rfl,by rw[HKL2.out];exact H4.out.fin⟩
end Go.Proofs.YtgojaelkdpabkaaGreatDoor
