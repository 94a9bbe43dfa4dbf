/- The reference's Same. -/
import Derived.Test.YtgojaelkdpabkaaGreatDoorMClE
namespace Go.Proofs.YtgojaelkdpabkaaGreatDoor
open Go.RowKit
set_option maxRecDepth 100000 in
set_option maxHeartbeats 3200000 in
theorem refSame34 (F G:List Nat) (s t:Tk) (r1 r2:Rt) (w:World) (h1:RfAt F s r1 w) (h2:RfAt G t r2 w) (ha:s.act.length≤100) (hk:s.kept.length≤100) (hta:t.act.length≤100) (htk:t.kept.length≤100) :
  Calls Tryz.prog 34 #[vT r1,vT r2] w fun e w'=>e=.returned (.bool (eqT s t))∧Below w.heap.size w w':=by
 obtain⟨g,W1,m,W2,hg,hW1,hm,hW2,hrg,hrm,hb⟩:∃ g W1 m W2,w.heap.size=g∧w.alloc (.cells (aT r1) 60)=W1∧W1.heap.size=m∧W1.alloc (.cells (aT r2) 60)=W2∧Row W2 g (cT r1) 60∧Row W2 m (cT r2) 60∧Below w.heap.size w W2 :=
  ⟨_,_,_,_,rfl,rfl,rfl,rfl,(Row.new w (cT r1) _).keep (below_alloc _ _),Row.new _ (cT r2) _,Below.step (below_alloc _ _) (below_alloc _ _)⟩
 obtain⟨n,hn⟩:∃ n,s.act.length=n:=⟨_,rfl⟩
 obtain⟨n',hn'⟩:∃ n',t.act.length=n':=⟨_,rfl⟩
 obtain⟨l,hl⟩:∃ l,s.kept.length=l:=⟨_,rfl⟩
 obtain⟨l',hl'⟩:∃ l',t.kept.length=l':=⟨_,rfl⟩
 obtain⟨w1,hw1⟩:∃ w1,s.win=w1:=⟨_,rfl⟩
 obtain⟨w2,hw2⟩:∃ w2,t.win=w2:=⟨_,rfl⟩
 obtain⟨p1,hp1⟩:∃ p1,s.opn=p1:=⟨_,rfl⟩
 obtain⟨p2,hp2⟩:∃ p2,t.opn=p2:=⟨_,rfl⟩
 rw[hn] at ha
 rw[hl] at hk
 have k0:W2.cell? ⟨g,0,none⟩=some (.int .i64 w1):=by rw[← hw1,← h1.win];exact hrg.cell 0
 have k1:W2.cell? ⟨g,1,none⟩=some (.bool p1):=by rw[← hp1,← h1.opn];exact hrg.cell 1
 have k2:∀ u,Below W2.heap.size W2 u→u.cell? ⟨g,2,none⟩=some (.slice r1.act.1 n r1.act.2.2):=fun u hu=>by rw[← hn,h1.act.1];exact (hrg.keep hu).cell 2
 have k3:∀ u,Below W2.heap.size W2 u→u.cell? ⟨g,3,none⟩=some (.slice r1.kept.1 l r1.kept.2.2):=fun u hu=>by rw[← hl,h1.kept.1];exact (hrg.keep hu).cell 3
 have j0:W2.cell? ⟨m,0,none⟩=some (.int .i64 w2):=by rw[← hw2,← h2.win];exact hrm.cell 0
 have j1:W2.cell? ⟨m,1,none⟩=some (.bool p2):=by rw[← hp2,← h2.opn];exact hrm.cell 1
 have j2:∀ u,Below W2.heap.size W2 u→u.cell? ⟨m,2,none⟩=some (.slice r2.act.1 n' r2.act.2.2):=fun u hu=>by rw[← hn',h2.act.1];exact (hrm.keep hu).cell 2
 have j3:∀ u,Below W2.heap.size W2 u→u.cell? ⟨m,3,none⟩=some (.slice r2.kept.1 l' r2.kept.2.2):=fun u hu=>by rw[← hl',h2.kept.1];exact (hrm.keep hu).cell 3
 have a2:=k2 W2 (Below.refl _ _)
 have a3:=k3 W2 (Below.refl _ _)
 have b2:=j2 W2 (Below.refl _ _)
 have b3:=j3 W2 (Below.refl _ _)
 have HK:=Lib.hid (And.intro k2 (And.intro k3 (And.intro j2 j3)))
 have HL:=Lib.hid (And.intro (h1.act.2.2.1.keep hb) (And.intro (h2.act.2.2.1.keep hb) (And.intro (h1.kept.2.2.1.keep hb) (h2.kept.2.2.1.keep hb))))
 have HB:=Lib.hid hb
 have HN:=Lib.hid (And.intro hn (And.intro hn' (And.intro hl hl')))
 obtain⟨q,hq⟩:∃ q,eqT s t=q:=⟨_,rfl⟩
 have hq2:q=(decide (w1=w2) && (decide (p1=p2) && (decide (s.act=t.act) && decide (s.kept=t.kept)))):=by rw[← hq,← hw1,← hw2,← hp1,← hp2];rfl
 rw[hq]
 have hno:n≠n'→decide (s.act=t.act)=false:=fun h=>decide_eq_false fun e=>h (by rw[← hn,← hn',e])
 have hnk:l≠l'→decide (s.kept=t.kept)=false:=fun h=>decide_eq_false fun e=>h (by rw[← hl,← hl',e])
 clear hrg hrm hb h1 h2 hn hn' hl hl' hw1 hw2 hp1 hp2 k2 k3 j2 j3 hta htk hq
 by_cases e1:w1=w2
 case neg =>
  obtain rfl:q=false:=by rw[hq2];simp[e1]
  have q1:(w1 != w2)=true:=by simpa using e1
  clear hq2 hno hnk e1
  go_enter Tryz.func34,Tryz.ntmps34
  go_wp2
  go_ret
  exact⟨rfl,HB.out⟩
 subst e1
 by_cases e2:p1=p2
 case neg =>
  obtain rfl:q=false:=by rw[hq2];simp[e2]
  cases p1 <;> cases p2
  case false.false=>exact absurd rfl e2
  case true.true=>exact absurd rfl e2
  all_goals
   clear hq2 hno hnk e2
   go_enter Tryz.func34,Tryz.ntmps34
   go_wp2
   go_ret
   exact⟨rfl,HB.out⟩
 subst e2
 by_cases e3:n=n'
 case neg =>
  obtain rfl:q=false:=by rw[hq2,hno e3];simp
  have q1:((n:Int) != (n':Int))=true:=bne_iff_ne.2 (fun h=>e3 (by omega))
  clear hq2 hno hnk e3
  go_enter Tryz.func34,Tryz.ntmps34
  go_wp2
  go_ret
  exact⟨rfl,HB.out⟩
 subst e3
 by_cases e4:l=l'
 case neg =>
  obtain rfl:q=false:=by rw[hq2,hnk e4];simp
  have q1:((l:Int) != (l':Int))=true:=bne_iff_ne.2 (fun h=>e4 (by omega))
  clear hq2 hno hnk e4
  go_enter Tryz.func34,Tryz.ntmps34
  go_wp2
  go_ret
  exact⟨rfl,HB.out⟩
 subst e4
 have HQ:=Lib.hid hq2
 clear hq2 hno hnk
 go_enter Tryz.func34,Tryz.ntmps34
 go_wp2
 go_loopw [5] (fun i wr=>∃ (k:Nat),k≤n∧i=.int .i64 (k:Int)∧Below W2.heap.size W2 wr∧s.act.take k=t.act.take k) (fun i _=>n - (intOf i).toNat)
 case atStart=>exact⟨0,Nat.zero_le _,rfl,Below.refl _ _,rfl⟩
 case round =>
  obtain⟨k,hk,rfl,hb,ht⟩:=hrel
  have HTn:=Lib.hid (And.intro hb ht)
  have c1:=HK.out.1 wr hb
  clear ht
  by_cases hlt:k<n
  ·have hlk:(k:Int)<(n:Int):=by omega
   have hl1:k<s.act.length:=by rw[HN.out.1];exact hlt
   have hl2:k<t.act.length:=by rw[HN.out.2.1];exact hlt
   have c2:=HK.out.2.2.1 wr hb
   obtain⟨ad1,ha1,o1,d1, -⟩:=Sl.pt (HL.out.1.keep hb) hl1
   obtain⟨ad2,ha2,o2,d2, -⟩:=Sl.pt (HL.out.2.1.keep hb) hl2
   rw[ha1] at c1
   rw[ha2] at c2
   have HS:=Lib.hid (And.intro (List.take_succ_eq_append_getElem hl1) (List.take_succ_eq_append_getElem hl2))
   generalize (s.act[k]'hl1)=x at d1 HS
   generalize (t.act[k]'hl2)=y at d2 HS
   clear hb ha1 ha2
   by_cases hxy:x=y
   ·subst hxy
    go_wp2
    go_quiet (fail)
    go_wp2
    go_roundw
    case rel=>exact⟨k+1,hlt,by go_num,Below.step HTn.out.1 (below_drewN _ _),by rw[HS.out.1,HS.out.2,HTn.out.2]⟩
    case measure=>simp[intOf] <;> omega
   ·have hd:decide (s.act=t.act)=false:=by
     refine decide_eq_false fun e=>hxy ?_
     have h1:=HS.out.1
     have h2:=HS.out.2
     rw[e] at h1
     have h3:=h1.symm.trans h2
     simpa using h3
    obtain rfl:q=false:=by rw[HQ.out,hd];simp
    have hxy2:(!decide (x=y))=true:=by simp[hxy]
    clear hd
    go_wp2
    go_quiet (fail)
    go_wp2
    go_ret
    exact⟨rfl,Below.step HB.out (Below.step HTn.out.1 (below_drewN _ _))⟩
  ·have hkn:k=n:=by omega
   subst hkn
   have hact:decide (s.act=t.act)=true:=by
    refine decide_eq_true ?_
    have h:=HTn.out.2
    rwa[List.take_of_length_le (by rw[HN.out.1];exact Nat.le_refl _),List.take_of_length_le (by rw[HN.out.2.1];exact Nat.le_refl _)] at h
   have HACT:=Lib.hid hact
   have hlk:¬ (k:Int)<(k:Int):=by omega
   have HBB:=Lib.hid hb
   clear hact hb
   go_wp2
   go_loopw [6] (fun i wr=>∃ (k:Nat),k≤l∧i=.int .i64 (k:Int)∧Below W2.heap.size W2 wr∧s.kept.take k=t.kept.take k) (fun i _=>l - (intOf i).toNat)
   case atStart=>exact⟨0,Nat.zero_le _,rfl,HBB.out,rfl⟩
   case round =>
    obtain⟨k,hk,rfl,hb,ht⟩:=hrel
    have HTl:=Lib.hid (And.intro hb ht)
    have c1:=HK.out.2.1 wr hb
    clear ht
    by_cases hlt:k<l
    ·have hlk:(k:Int)<(l:Int):=by omega
     have hl1:k<s.kept.length:=by rw[HN.out.2.2.1];exact hlt
     have hl2:k<t.kept.length:=by rw[HN.out.2.2.2];exact hlt
     have c2:=HK.out.2.2.2 wr hb
     obtain⟨ad1,ha1,o1,d1, -⟩:=Sl.pt (HL.out.2.2.1.keep hb) hl1
     obtain⟨ad2,ha2,o2,d2, -⟩:=Sl.pt (HL.out.2.2.2.keep hb) hl2
     rw[ha1] at c1
     rw[ha2] at c2
     have HS:=Lib.hid (And.intro (List.take_succ_eq_append_getElem hl1) (List.take_succ_eq_append_getElem hl2))
     generalize (s.kept[k]'hl1)=x at d1 HS
     generalize (t.kept[k]'hl2)=y at d2 HS
     clear hb ha1 ha2
     by_cases hxy:x=y
     ·subst hxy
      go_wp2
      go_quiet (fail)
      go_wp2
      go_roundw
      case rel=>exact⟨k+1,hlt,by go_num,Below.step HTl.out.1 (below_drewN _ _),by rw[HS.out.1,HS.out.2,HTl.out.2]⟩
      case measure=>simp[intOf] <;> omega
     ·have hd:decide (s.kept=t.kept)=false:=by
       refine decide_eq_false fun e=>hxy ?_
       have h1:=HS.out.1
       have h2:=HS.out.2
       rw[e] at h1
       have h3:=h1.symm.trans h2
       simpa using h3
      obtain rfl:q=false:=by rw[HQ.out,hd];simp
      have hxy2:(!decide (x=y))=true:=by simp[hxy]
      clear hd
      go_wp2
      go_quiet (fail)
      go_wp2
      go_ret
      exact⟨rfl,Below.step HB.out (Below.step HTl.out.1 (below_drewN _ _))⟩
    ·have hkn:k=l:=by omega
     subst hkn
     have hkd:decide (s.kept=t.kept)=true:=by
      refine decide_eq_true ?_
      have h:=HTl.out.2
      rwa[List.take_of_length_le (by rw[HN.out.2.2.1];exact Nat.le_refl _),List.take_of_length_le (by rw[HN.out.2.2.2];exact Nat.le_refl _)] at h
     obtain rfl:q=true:=by rw[HQ.out,HACT.out,hkd];simp
     clear hkd hb
     go_wp2
     go_ret
     exact⟨rfl,Below.step HB.out HTl.out.1⟩
end Go.Proofs.YtgojaelkdpabkaaGreatDoor
