/- The reference's Hear. -/
import Derived.Test.YtgojaelkdpabkaaGreatDoorMRfi
import Derived.Test.YtgojaelkdpabkaaGreatDoorMRfj
import Derived.Test.YtgojaelkdpabkaaGreatDoorMRfl
import Derived.Test.YtgojaelkdpabkaaGreatDoorMRfw4
import Derived.Test.YtgojaelkdpabkaaGreatDoorMRf3
namespace Go.Proofs.YtgojaelkdpabkaaGreatDoor
def hearR (s:Tk) (c:Cm):List Pt :=
 if s.opn=true∧chk c=0∧c.verb=8 then (match rcvL s.act c.id with|some k=>if ((ptK s.act k).bytes.size:Int)<(ptK s.act k).size then [] else [endB (ptK s.act k)]|none=>[]) else []
theorem hearR_txt (s:Tk) (c:Cm):(hearR s c).map (fun p=>(p.id,p.bytes))=(hearT s c).2.2.1:=by
 unfold hearR hearT
 by_cases ho:s.opn=false
 ·rw[if_neg (by rw[ho];simp),if_pos ho]
  rfl
 rw[if_neg ho]
 by_cases hc:chk c≠0
 ·rw[if_pos hc,if_neg (fun h=>hc h.2.1)]
  rfl
 rw[if_neg hc]
 by_cases h8:c.verb=8
 ·rw[if_pos ⟨by simpa using ho,Decidable.not_not.1 hc,h8⟩,if_neg (by omega),if_neg (by omega),if_pos h8]
  unfold doneT
  cases rcvL s.act c.id with
  | none=>rfl
  | some k =>
   dsimp only
   split <;> rfl
 ·rw[if_neg (fun h=>h8 h.2.2)]
  repeat' (first|rfl|split)
theorem pos_without (l:List Pt) (x:Id):posL (withoutL l x) x=none:=pos_none fun j hj=>by
 have hm:(withoutL l x)[j]∈withoutL l x:=List.getElem_mem hj
 generalize (withoutL l x)[j]=p at hm
 have:=(List.mem_filter.1 hm).2
 simpa[noId] using this
set_option linter.unusedVariables false in
theorem refHear55 (F:List Nat) (s:Tk) (r:Rt) (c:Cm) (w:World) (h:RfAt F s r w) (hF:∀ k∈F,k<w.heap.size) (hn:c.name.size≤1000000) (ht:c.text.size≤1000000) (ha:s.act.length≤100) (hk8:s.kept.length≤100) (hndk:(s.kept.map Pt.id).Nodup) (hz:∀ p∈s.act,p.bytes.size≤1000000) :
  Calls Tryz.prog 55 #[vT r,vC c] w (RhP F (hearT s c).1 (hearT s c).2.1 (hearR s c) (hearT s c).2.2.2 w):=by
 unfold hearT hearR
 by_cases ho:s.opn=false
 ·rw[if_pos ho,if_neg (by rw[ho];simp)]
  exact refHear_shut F s r c w h hF hn ht ha hk8 hndk hz ho
 rw[if_neg ho]
 have ho:s.opn=true:=by simpa using ho
 by_cases hc:chk c≠0
 ·rw[if_pos hc,if_neg (fun h=>hc h.2.1)]
  exact refHear_bad F s r c w h hF hn ht ha hk8 hndk hz ho hc
 rw[if_neg hc]
 have hc0:chk c=0:=Decidable.not_not.1 hc
 by_cases h2:c.verb=2
 ·rw[if_pos h2,if_neg (fun h=>by have:=h.2.2;omega)]
  unfold offerT
  cases hp:posL s.act c.id with
  | some k=>exact refHear_dup F s r c w h hF hn ht ha hk8 hndk hz ho hc0 h2 k hp
  | none =>
   dsimp only
   by_cases hf:s.win≤s.act.length
   ·rw[if_pos hf]
    exact refHear_full F s r c w h hF hn ht ha hk8 hndk hz ho hc0 h2 hp hf
   ·rw[if_neg hf]
    cases hq:posL s.kept c.id with
    | none =>
     have e:offK s c=s.kept:=by unfold offK;rw[hq]
     rw[e,got_none hq]
     exact refHear_new_none F s r c w h hF hn ht ha hk8 hndk hz ho hc0 h2 hp hf hq
    | some J =>
     by_cases hs:(ptK s.kept J).size=c.size
     ·have e:offK s c=s.kept:=by unfold offK;rw[hq];exact if_pos hs
      obtain⟨hJ, -, -⟩:=pos_some hq
      rw[e,got_some hq hJ,← ptK_eq hJ]
      exact refHear_new_same F s r c w h hF hn ht ha hk8 hndk hz ho hc0 h2 hp hf J hq hs
     ·have e:offK s c=withoutL s.kept c.id:=by unfold offK;rw[hq];exact if_neg hs
      rw[e,got_none (pos_without _ _)]
      exact refHear_new_diff F s r c w h hF hn ht ha hk8 hndk hz ho hc0 h2 hp hf J hq hs
 rw[if_neg h2]
 by_cases h7:c.verb=7
 ·rw[if_pos h7,if_neg (fun h=>by have:=h.2.2;omega)]
  unfold dataT
  cases hp:posL s.act c.id with
  | none =>
   rw[rcv_none hp]
   exact refHear_data_none F s r c w h hF hn ht ha hk8 hndk hz ho hc0 h7 hp
  | some k =>
   obtain⟨hk, -, -⟩:=pos_some hp
   by_cases h1:(ptK s.act k).state=2
   ·rw[rcv_yes hp hk (by rw[← ptK_eq hk];exact h1)]
    dsimp only
    by_cases hf:c.from_=(ptK s.act k).bytes.size
    ·rw[if_neg (by rw[hf];exact fun h=>h rfl)]
     by_cases hl:(ptK s.act k).size<(ptK s.act k).bytes.size+c.text.size
     ·rw[if_pos hl]
      exact refHear_data_long F s r c w h hF hn ht ha hk8 hndk hz ho hc0 h7 k hp h1 hf hl
     ·rw[if_neg hl]
      exact refHear_data_ok F s r c w h hF hn ht ha hk8 hndk hz ho hc0 h7 k hp h1 hf hl
    ·rw[if_pos hf]
     exact refHear_data_seq F s r c w h hF hn ht ha hk8 hndk hz ho hc0 h7 k hp h1 hf
   ·rw[rcv_no hp hk (by rw[← ptK_eq hk];exact h1)]
    exact refHear_data_odd F s r c w h hF hn ht ha hk8 hndk hz ho hc0 h7 k hp h1
 rw[if_neg h7]
 by_cases h8:c.verb=8
 ·rw[if_pos h8,if_pos ⟨ho,hc0,h8⟩]
  unfold doneT
  cases hp:posL s.act c.id with
  | none =>
   rw[rcv_none hp]
   exact refHear_done_none F s r c w h hF hn ht ha hk8 hndk hz ho hc0 h8 hp
  | some k =>
   obtain⟨hk, -, -⟩:=pos_some hp
   by_cases h1:(ptK s.act k).state=2
   ·rw[rcv_yes hp hk (by rw[← ptK_eq hk];exact h1)]
    dsimp only
    by_cases hl:((ptK s.act k).bytes.size:Int)<(ptK s.act k).size
    ·rw[if_pos hl,if_pos hl]
     exact refHear_done_short F s r c w h hF hn ht ha hk8 hndk hz ho hc0 h8 k hp h1 hl
    ·rw[if_neg hl,if_neg hl]
     exact refHear_done_ok F s r c w h hF hn ht ha hk8 hndk hz ho hc0 h8 k hp h1 hl
   ·rw[rcv_no hp hk (by rw[← ptK_eq hk];exact h1)]
    exact refHear_done_odd F s r c w h hF hn ht ha hk8 hndk hz ho hc0 h8 k hp h1
 rw[if_neg h8,if_neg (fun h=>h8 h.2.2)]
 exact refHear_kind F s r c w h hF hn ht ha hk8 hndk hz ho hc0 h2 h7 h8
open Go.RowKit
structure BxR (F:List Nat) (s:Tk) (r:Rt) (x:Id) (w:World) (g m r0 r1:Nat) (G:List Nat) (u:World):Prop where
 t:BxT F s r w g r0 G u
 rm:Row u m (cI x) 29
 rc:Row u r1 (cC zC) 35
 r1G:r1∈G
 mG:m∉G
 le1:w.heap.size≤r1
 n01:r0≠r1
 ng1:g≠r1
section
variable {F G : List Nat} {s s' : Tk} {r r' : Rt} {x : Id} {w u u' : World} {g m r0 r1 : Nat}
theorem BxR.new (h:RfAt F s r w) (hF:∀ k∈F,k<w.heap.size) (x:Id):∃ g W1 m W2 r0 W3 r1 W4 G,w.heap.size=g∧w.alloc (.cells (aT r) 60)=W1∧W1.heap.size=m∧W1.alloc (.cells (aI x) 29)=W2∧W2.heap.size=r0∧W2.alloc (.cells (aT zT) 60)=W3∧W3.heap.size=r1∧W3.alloc (.cells (aC zC) 35)=W4∧BxR F s r x w g m r0 r1 G W4:=by
 obtain⟨g,W1,m,W2,r0,W3,G,hg,hW1,hm,hW2,hr0,hW3,hrm,hmF,hmg,hmr,hmG,hB⟩:=BxT.new2 h hF (cI x) 29
 have h1:=hB.lt r0 hB.rG
 have h2:=hB.lt g hB.gG
 have h3:=hrm.lt
 refine⟨g,W1,m,W2,r0,W3,_,_,_,hg,hW1,hm,hW2,hr0,hW3,rfl,rfl,hB.add _,hrm.keep (below_alloc _ _),Row.new W3 (cC zC) _,List.mem_cons_self,fun hm2=>?_,hB.bl.size,by omega,by omega⟩
 rcases List.mem_cons.1 hm2 with e|hm2
 ·omega
 ·exact hmG hm2
theorem BxR.keep (h:BxR F s r x w g m r0 r1 G u) (hb:Below u.heap.size u u'):BxR F s r x w g m r0 r1 G u':=⟨h.t.keep hb,h.rm.keep hb,h.rc.keep hb,h.r1G,h.mG,h.le1,h.n01,h.ng1⟩
theorem BxR.one (h:BxR F s r x w g m r0 r1 G u) (ho:One g u u') (ht:BxT F s' r' w g r0 G u'):BxR F s' r' x w g m r0 r1 G u' :=
 ⟨ht,h.rm.same (ho.out m h.rm.lt (fun e=>h.mG (e▸h.t.gG))),h.rc.same (ho.out r1 h.rc.lt (fun e=>h.ng1 e.symm)),h.r1G,h.mG,h.le1,h.n01,h.ng1⟩
theorem BxR.setK (h:BxR F s r x w g m r0 r1 G u) {v:SlV} {l':List Pt} (hs:SlF G u' cA v l') (hb:Below u.heap.size u u'):u'.frozen? ⟨g,3,none⟩=false∧BxR F { s with kept:=l' } ⟨r.win,r.opn,r.act,v⟩ x w g m r0 r1 G (u'.setCell ⟨g,3,none⟩ (.slice v.1 v.2.1 v.2.2)) :=
 ⟨(h.t.setKF hs hb).1,(h.keep hb).one (One.set 3 _) (h.t.setKF hs hb).2⟩
theorem BxR.setA (h:BxR F s r x w g m r0 r1 G u) {v:SlV} {l':List Pt} (hs:SlF G u' cA v l') (hb:Below u.heap.size u u'):u'.frozen? ⟨g,2,none⟩=false∧BxR F { s with act:=l' } ⟨r.win,r.opn,v,r.kept⟩ x w g m r0 r1 G (u'.setCell ⟨g,2,none⟩ (.slice v.1 v.2.1 v.2.2)) :=
 ⟨(h.t.setAF hs hb).1,(h.keep hb).one (One.set 2 _) (h.t.setAF hs hb).2⟩
end
structure BxE (F:List Nat) (s:Tk) (r:Rt) (x:Id) (d:Cm) (w:World) (g m r0 r1:Nat) (G:List Nat) (a b:Bool) (u:World):Prop where
 rf:RfAt G s r u
 rg:Row u g (cT r) 60
 rm:Row u m (cI x) 29
 q0:Row u r0 (cT (bif a then r else zT)) 60
 q1:Row u r1 (cC (bif b then d else zC)) 35
 bl:Below w.heap.size w u
section
variable {F G : List Nat} {s s' : Tk} {r r' : Rt} {x : Id} {d : Cm} {w W0 u u' : World} {g m r0 r1 : Nat} {a b : Bool}
theorem BxR.e (h:BxR F s r x w g m r0 r1 G u) (d:Cm):BxE F s r x d w g m r0 r1 G false false u:=⟨h.t.rf,h.t.rg,h.rm,h.t.rr,h.rc,h.t.bl⟩
theorem BxE.keep (h:BxE F s r x d w g m r0 r1 G a b u) (hb:Below u.heap.size u u'):BxE F s r x d w g m r0 r1 G a b u':=⟨h.rf.keep hb,h.rg.keep hb,h.rm.keep hb,h.q0.keep hb,h.q1.keep hb,Below.step h.bl hb⟩
theorem BxE.st0 (h:BxE F s r x d w g m r0 r1 G a b u) (hR:BxR F s r x w g m r0 r1 G W0):rowOk u r0 4=true∧BxE F s r x d w g m r0 r1 G true b (u.setRow r0 (aT r)):=by
 have hs:∀ k,k≠r0→(u.setRow r0 (aT r)).heap[k]? = u.heap[k]?:=fun k hk=>heap_setRow_other u r0 k _ hk
 refine⟨h.q0.rowOk (cT_length _),h.rf.same (by simp[World.setRow]) (fun k _ hn=>hs k (fun e=>hn (e▸hR.t.rG))),h.rg.same (hs g hR.t.ne),h.rm.same (hs m (fun e=>hR.mG (e▸hR.t.rG))),h.q0.setRow (cT r),h.q1.same (hs r1 (fun e=>hR.n01 e.symm)),Below.setRow' h.bl hR.t.le _⟩
theorem BxE.st1 (h:BxE F s r x d w g m r0 r1 G a b u) (hR:BxR F s r x w g m r0 r1 G W0):rowOk u r1 39=true∧BxE F s r x d w g m r0 r1 G a true (u.setRow r1 (aC d)):=by
 have hs:∀ k,k≠r1→(u.setRow r1 (aC d)).heap[k]? = u.heap[k]?:=fun k hk=>heap_setRow_other u r1 k _ hk
 refine⟨h.q1.rowOk (cC_length _),h.rf.same (by simp[World.setRow]) (fun k _ hn=>hs k (fun e=>hn (e▸hR.r1G))),h.rg.same (hs g hR.ng1),h.rm.same (hs m (fun e=>hR.mG (e▸hR.r1G))),h.q0.same (hs r0 hR.n01),h.q1.setRow (cC d),Below.setRow' h.bl hR.le1 _⟩
def RcP (F:List Nat) (s':Tk) (d:Cm) (no:Int) (w:World) (e:Ending) (w':World):Prop:=∃ r',e=.returned (.tuple #[vT r',vC d,.int .i64 no])∧RfAt F s' r' w'∧Below w.heap.size w w'
theorem BxE.fin (h:BxE F s r x d w g m r0 r1 G true true u) (hR:BxR F s r x w g m r0 r1 G W0) (no:Int):(loadVar 60 ⟨r0,0,none⟩).run Tryz.prog u=.ok (vT r) u∧(loadVar 35 ⟨r1,0,none⟩).run Tryz.prog u=.ok (vC d) u∧RcP F s d no w (.returned (.tuple #[vT r,vC d,.int .i64 no])) u :=
 ⟨load_T h.q0,ld_row31 d h.q1,r,rfl,h.rf.sub hR.t.FG,h.bl⟩
end
end Go.Proofs.YtgojaelkdpabkaaGreatDoor
