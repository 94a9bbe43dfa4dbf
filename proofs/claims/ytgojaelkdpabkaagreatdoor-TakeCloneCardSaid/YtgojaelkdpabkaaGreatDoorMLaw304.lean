/- The reference's check of a site's name. -/
import Derived.Test.YtgojaelkdpabkaaGreatDoorMSiA
import Derived.Test.YtgojaelkdpabkaaGreatDoorMPlA
namespace Go.Proofs.YtgojaelkdpabkaaGreatDoor
open Go.RowKit
set_option maxRecDepth 100000 in
set_option maxHeartbeats 6400000 in
theorem refSite51 (s:ByteArray) (w:World) (hs:s.size≤1000000):Calls Tryz.prog 82 #[.string s] w (SiteR (bl s) w):=by
 by_cases h0:s.size=0
 ·have he:s.toList.isEmpty=true:=by rw[ByteArray.toList_eq,List.isEmpty_iff];exact List.length_eq_zero_iff.1 h0
  have HX:=Lib.hid (site_empty s h0)
  clear h0
  go_enter Tryz.func82,Tryz.ntmps82
  go_wp2
  go_ret2
  exact SiteR.no _ _ HX.out (by decide)
 have he:s.toList.isEmpty=false:=by
  rw[ByteArray.toList_eq,Bool.eq_false_iff]
  intro e
  exact h0 (List.length_eq_zero_iff.2 (List.isEmpty_iff.1 e))
 by_cases hl:30<s.size
 ·have HX:=Lib.hid (site_long s hl)
  clear h0
  go_enter Tryz.func82,Tryz.ntmps82
  go_wp2
  go_ret2
  exact SiteR.no _ _ HX.out (by decide)
 have HZ:=Lib.hid (show 1≤s.size∧s.size≤30 by omega)
 clear h0
 go_enter Tryz.func82,Tryz.ntmps82
 go_wp2
 go_loop [4] (fun i=>∃ j:Nat,j≤s.size∧i=.int .i64 j∧∀ k (h:k<s.size),k<j→perB s[k]=true) (fun i=>s.size - (intOf i).toNat)
 case atStart=>exact⟨0,Nat.zero_le _,rfl,fun _ _ h=>absurd h (Nat.not_lt_zero _)⟩
 case round =>
  obtain⟨j,hj,rfl,hall⟩:=hrel
  have HP:=Lib.hid hall
  clear hall
  by_cases hlt:j<s.size
  ·obtain⟨c,hc⟩:∃ c,s[j]=c:=⟨_,rfl⟩
   have e45:(((s[j].toNat:Nat):Int)==45)=(c==45):=by rw[hc];exact byte_is c 45
   have e46:(((s[j].toNat:Nat):Int)==46)=(c==46):=by rw[hc];exact byte_is c 46
   have hcn:((s[j].toNat:Nat):Int)=((c.toNat:Nat):Int):=by rw[hc]
   have HP2:=Lib.hid (show perB c=false→siteB (bl s)=false from fun h=>site_per s j hlt (by rw[hc];exact h))
   have HQ:=Lib.hid hc
   have hlo:loB c=(decide (97≤c.toNat) && decide (c.toNat≤122)):=rfl
   have hdi:digB c=(decide (48≤c.toNat) && decide (c.toNat≤57)):=rfl
   clear hc
   rw[hcn] at e45 e46
   rcases h3:(c==45) with _|_
   ·rcases h4:(c==46) with _|_
    ·rw[h3] at e45
     rw[h4] at e46
     by_cases r1:(97:Int)≤((c.toNat:Nat):Int)∧((c.toNat:Nat):Int)≤122
     ·obtain⟨r1,r2⟩:=r1
      have HX:=Lib.hid (show perB c=true by unfold perB;rw[hlo,decide_eq_true (by omega),decide_eq_true (by omega)];rfl)
      clear hlo hdi h3 h4
      go_wp2
      go_round
      case rel=>exact⟨j+1,hlt,by go_num,fun k hk hkj=>(Nat.lt_succ_iff_lt_or_eq.1 hkj).elim (fun h=>HP.out k hk h) (fun h=>by subst h;rw[HQ.out];exact HX.out)⟩
      case measure=>simp[intOf];omega
     ·by_cases r3:(48:Int)≤((c.toNat:Nat):Int)∧((c.toNat:Nat):Int)≤57
      ·obtain⟨r3,r4⟩:=r3
       have r5:¬ (97:Int)≤((c.toNat:Nat):Int):=by omega
       have HX:=Lib.hid (show perB c=true by unfold perB;rw[hdi,decide_eq_true (show 48≤c.toNat by omega),decide_eq_true (show c.toNat≤57 by omega)];simp)
       clear hlo hdi h3 h4 r1
       go_wp2
       go_round
       case rel=>exact⟨j+1,hlt,by go_num,fun k hk hkj=>(Nat.lt_succ_iff_lt_or_eq.1 hkj).elim (fun h=>HP.out k hk h) (fun h=>by subst h;rw[HQ.out];exact HX.out)⟩
       case measure=>simp[intOf];omega
      ·have HX:=Lib.hid (HP2.out (by
        unfold perB
        rw[h3,h4,hlo,hdi]
        simp only[Bool.or_false,Bool.or_eq_false_iff,Bool.and_eq_false_iff,decide_eq_false_iff_not]
        omega))
       have r1a:=Lib.hid r1
       have r3a:=Lib.hid r3
       clear hlo hdi h3 h4
       by_cases r6:(97:Int)≤((c.toNat:Nat):Int)
       ·have r7:¬ ((c.toNat:Nat):Int)≤122:=by omega
        have r8:¬ ((c.toNat:Nat):Int)≤57:=by omega
        clear r1 r3
        go_wp2
        go_ret2
        exact SiteR.no _ _ HX.out (by decide)
       ·by_cases r9:(48:Int)≤((c.toNat:Nat):Int)
        ·have r8:¬ ((c.toNat:Nat):Int)≤57:=by omega
         clear r1 r3
         go_wp2
         go_ret2
         exact SiteR.no _ _ HX.out (by decide)
        ·clear r1 r3
         go_wp2
         go_ret2
         exact SiteR.no _ _ HX.out (by decide)
    ·have hc46:c=46:=by simpa using h4
     have hci:((c.toNat:Nat):Int)=46:=by rw[hc46];rfl
     have HX:=Lib.hid (show perB c=true by rw[hc46];decide)
     rw[hci] at hcn
     clear hlo hdi h3 h4 e45 e46
     have HC:=Lib.hid (And.intro hc46 hci)
     clear hc46 hci
     go_wp2
     go_round
     case rel=>exact⟨j+1,hlt,by go_num,fun k hk hkj=>(Nat.lt_succ_iff_lt_or_eq.1 hkj).elim (fun h=>HP.out k hk h) (fun h=>by subst h;rw[HQ.out];exact HX.out)⟩
     case measure=>simp[intOf];omega
   ·have hc45:c=45:=by simpa using h3
    have hci:((c.toNat:Nat):Int)=45:=by rw[hc45];rfl
    have HX:=Lib.hid (show perB c=true by rw[hc45];decide)
    rw[hci] at hcn
    clear hlo hdi h3 e45 e46
    have HC:=Lib.hid (And.intro hc45 hci)
    clear hc45 hci
    go_wp2
    go_round
    case rel=>exact⟨j+1,hlt,by go_num,fun k hk hkj=>(Nat.lt_succ_iff_lt_or_eq.1 hkj).elim (fun h=>HP.out k hk h) (fun h=>by subst h;rw[HQ.out];exact HX.out)⟩
    case measure=>simp[intOf];omega
  ·obtain rfl:j=s.size:=by omega
   go_wp2
   go_loop [6] (fun i=>∃ j:Nat,j≤s.size∧i=.int .i64 j∧∀ k,k<j→misL (bl s) k=false) (fun i=>s.size - (intOf i).toNat)
   case atStart=>exact⟨0,Nat.zero_le _,rfl,fun _ h=>absurd h (Nat.not_lt_zero _)⟩
   case round =>
    obtain⟨j,hj2,rfl,hmis⟩:=hrel
    have HA:=Lib.hid hmis
    clear hmis
    by_cases hlt:j<s.size
    ·cases j with
     | zero =>
      have hm:=mis_zero s hlt
      cases hlo:loB s[0] with
      | false =>
       rw[hlo] at hm
       have HM:=Lib.hid hm
       clear hm
       have q1:¬ ((97:Int)≤((s[0].toNat:Nat):Int)∧((s[0].toNat:Nat):Int)≤122):=by unfold loB at hlo;simp at hlo;omega
       clear hlo
       by_cases q2:(97:Int)≤((s[0].toNat:Nat):Int)
       case' pos=>have q3:¬ ((s[0].toNat:Nat):Int)≤122:=by omega
       all_goals
        clear q1
        go_wp2
        go_ret2
        exact SiteR.no _ _ (site_mis s 0 hlt HM.out) (by decide)
      | true =>
       rw[hlo] at hm
       have HM:=Lib.hid hm
       clear hm
       obtain⟨l1,l2⟩:=lo_not _ hlo
       have e45:(((s[0].toNat:Nat):Int)==45)=false:=(byte_eq0 s 0 hlt 45).trans l1
       have e46:(((s[0].toNat:Nat):Int)==46)=false:=(byte_eq0 s 0 hlt 46).trans l2
       clear l1 l2
       have q1:(97:Int)≤((s[0].toNat:Nat):Int)∧((s[0].toNat:Nat):Int)≤122:=by unfold loB at hlo;simp at hlo;omega
       obtain⟨q1,q2⟩:=q1
       clear hlo
       go_wp2
       all_goals
        go_round
        case rel=>exact⟨0+1,hlt,by go_num,fun k hk=>(Nat.lt_succ_iff_lt_or_eq.1 hk).elim (fun h=>HA.out k h) (fun h=>by rw[h];exact HM.out)⟩
        case measure=>simp[intOf];omega
     | succ i =>
      have hi:i<s.size:=by omega
      have hm:=mis_succ s i hlt
      have e45:=byte_eq0 s (i+1) hlt 45
      have e46:=byte_eq0 s (i+1) hlt 46
      have p46:=byte_eq0 s i hi 46
      change (((s[i+1].toNat:Nat):Int)==45)=_ at e45
      change (((s[i+1].toNat:Nat):Int)==46)=_ at e46
      change (((s[i].toNat:Nat):Int)==46)=_ at p46
      by_cases hz:i+2=s.size
      ·rw[decide_eq_true hz] at hm
       have hzb:i+2=s.size:=hz
       rcases h4:(s[i+1]==46) with _|_
       ·rw[h4] at e46
        rcases h5:(s[i+1]==45) with _|_
        ·rw[h5] at e45
         rw[h4,h5] at hm
         have HM:=Lib.hid (hm.trans (show _=false from rfl))
         clear hm
         by_cases q1:(97:Int)≤((s[i+1].toNat:Nat):Int)
         case' pos=>by_cases q2:((s[i+1].toNat:Nat):Int)≤122
         all_goals
          go_wp2
          all_goals
           first
           | omega
           | (go_round
              case rel=>exact⟨(i+1)+1,hlt,by go_num,fun k hk=>(Nat.lt_succ_iff_lt_or_eq.1 hk).elim (fun h=>HA.out k h) (fun h=>by rw[h];exact HM.out)⟩
              case measure=>simp[intOf];omega)
        ·rw[h5] at e45
         rw[h4,h5] at hm
         have HM:=Lib.hid (hm.trans (show _=true from rfl))
         clear hm
         by_cases q1:(97:Int)≤((s[i+1].toNat:Nat):Int)
         case' pos=>by_cases q2:((s[i+1].toNat:Nat):Int)≤122
         all_goals
          go_wp2
          all_goals
           first
           | omega
           | (go_ret2
              exact SiteR.no _ _ (site_mis s (i+1) hlt HM.out) (by decide))
       ·rw[h4] at e46
        rcases h6:(s[i]==46) with _|_
        ·rw[h6] at p46
         have h5:(s[i+1]==45)=false:=by rw[show s[i+1]=46 by simpa using h4];decide
         rw[h5] at e45
         rw[h4,h6,h5] at hm
         have HM:=Lib.hid (hm.trans (show _=true from rfl))
         clear hm
         by_cases q1:(97:Int)≤((s[i+1].toNat:Nat):Int)
         case' pos=>by_cases q2:((s[i+1].toNat:Nat):Int)≤122
         all_goals
          go_wp2
          all_goals
           first
           | omega
           | (go_ret2
              exact SiteR.no _ _ (site_mis s (i+1) hlt HM.out) (by decide))
        ·rw[h6] at p46
         rw[h4,h6] at hm
         have HM:=Lib.hid (hm.trans (show _=true from rfl))
         clear hm
         by_cases q1:(97:Int)≤((s[i+1].toNat:Nat):Int)
         case' pos=>by_cases q2:((s[i+1].toNat:Nat):Int)≤122
         all_goals
          go_wp2
          all_goals
           first
           | omega
           | (go_ret2
              exact SiteR.no _ _ (site_mis s (i+1) hlt HM.out) (by decide))
      ·rw[decide_eq_false hz] at hm
       have hzb:¬ (i:Int)+1=(s.size:Int) - 1:=by omega
       rcases h4:(s[i+1]==46) with _|_
       ·rw[h4] at e46
        rw[h4] at hm
        have HM:=Lib.hid (hm.trans (show _=false from rfl))
        clear hm
        by_cases q1:(97:Int)≤((s[i+1].toNat:Nat):Int)
        case' pos=>by_cases q2:((s[i+1].toNat:Nat):Int)≤122
        all_goals
         go_wp2
         all_goals
          first
          | omega
          | (go_round
             case rel=>exact⟨(i+1)+1,hlt,by go_num,fun k hk=>(Nat.lt_succ_iff_lt_or_eq.1 hk).elim (fun h=>HA.out k h) (fun h=>by rw[h];exact HM.out)⟩
             case measure=>simp[intOf];omega)
       ·rw[h4] at e46
        rcases h6:(s[i]==46) with _|_
        ·rw[h6] at p46
         rw[h4,h6] at hm
         have HM:=Lib.hid (hm.trans (show _=false from rfl))
         clear hm
         by_cases q1:(97:Int)≤((s[i+1].toNat:Nat):Int)
         case' pos=>by_cases q2:((s[i+1].toNat:Nat):Int)≤122
         all_goals
          go_wp2
          all_goals
           first
           | omega
           | (go_round
              case rel=>exact⟨(i+1)+1,hlt,by go_num,fun k hk=>(Nat.lt_succ_iff_lt_or_eq.1 hk).elim (fun h=>HA.out k h) (fun h=>by rw[h];exact HM.out)⟩
              case measure=>simp[intOf];omega)
        ·rw[h6] at p46
         rw[h4,h6] at hm
         have HM:=Lib.hid (hm.trans (show _=true from rfl))
         clear hm
         by_cases q1:(97:Int)≤((s[i+1].toNat:Nat):Int)
         case' pos=>by_cases q2:((s[i+1].toNat:Nat):Int)≤122
         all_goals
          go_wp2
          all_goals
           first
           | omega
           | (go_ret2
              exact SiteR.no _ _ (site_mis s (i+1) hlt HM.out) (by decide))
    ·obtain rfl:j=s.size:=by omega
     have HX:=Lib.hid (site_ok s HZ.out.1 HZ.out.2 (fun k hk=>HP.out k hk hk) HA.out)
     go_wp2
     go_ret2
     exact SiteR.yes _ HX.out
open Go.RowKit
structure Cm.ints (c:Cm):Prop where
 size:i64 c.size
 from_:i64 c.from_
 count:i64 c.count
 code:i64 c.code
theorem okC {w:World} {b:Nat} {c:Cm} {t:TypeId} (h:Row w b (cC c) t):okA w ⟨b,0,none⟩ 39=true:=(h.okw (cC_length c)).1
theorem rdC {w:World} {b:Nat} {c:Cm} {t:TypeId} (h:Row w b (cC c) t):rdA w ⟨b,0,none⟩ 39=vC c:=(h.okw (cC_length c)).2
end Go.Proofs.YtgojaelkdpabkaaGreatDoor
