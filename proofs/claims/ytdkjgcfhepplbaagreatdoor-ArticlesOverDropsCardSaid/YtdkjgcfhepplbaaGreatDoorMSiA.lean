/- The names of sites: msgid.Site and the reference's. command: Check. -/
import Derived.Test.YtdkjgcfhepplbaaGreatDoorMTyA
namespace Go.Proofs.YtdkjgcfhepplbaaGreatDoor
section
open Go.RowKit
def loB (c:UInt8):Bool:=decide (97≤c.toNat) && decide (c.toNat≤122)
def perB (c:UInt8):Bool:=loB c || digB c || c==45 || c==46
def misL (l:List UInt8) (j:Nat):Bool :=
 if j=0 then !loB (l.getD 0 0) else (l.getD j 0==46 && l.getD (j - 1) 0==46) || (decide (j+1=l.length) && (l.getD j 0==45 || l.getD j 0==46))
def siteB (l:List UInt8):Bool:=decide (1≤l.length) && decide (l.length≤30) && l.all perB && (List.range l.length).all fun j => !misL l j
set_option maxHeartbeats 400000 in
theorem isLower_b (c:UInt8) (w:World):Calls Tryz.prog 113 #[vB c] w fun e w'=>e=.returned (.bool (loB c))∧w=w':=by
 go_enter Tryz.func113,Tryz.ntmps113
 go_wp2
 all_goals
  go_ret
  exact⟨ret_bool (by unfold loB;rw[Bool.eq_iff_iff];simp;try omega),rfl⟩
theorem byte_is (c d:UInt8):(((c.toNat:Nat):Int)==((d.toNat:Nat):Int))=(c==d):=by
 rw[Bool.eq_iff_iff];simp only[beq_iff_eq,Int.natCast_inj];exact⟨UInt8.toNat_inj.1,fun h=>by rw[h]⟩
set_option maxHeartbeats 800000 in
theorem isPer (c:UInt8) (w:World):Calls Tryz.prog 112 #[vB c] w fun e w'=>e=.returned (.bool (perB c))∧w=w':=by
 have e45:(((c.toNat:Nat):Int)==45)=(c==45):=byte_is c 45
 have e46:(((c.toNat:Nat):Int)==46)=(c==46):=byte_is c 46
 rcases h1:loB c with _|_
 ·rcases h2:digB c with _|_
  ·rcases h3:(c==45) with _|_
   ·rcases h4:(c==46) with _|_
    all_goals
     rw[h3] at e45
     rw[h4] at e46
     have H:=Lib.hid (And.intro h1 (And.intro h2 (And.intro h3 h4)))
     clear h3 h4
     go_enter Tryz.func112,Tryz.ntmps112
     go_wp2_with (first
      | (go_at_call 113;refine (isLower_b _ _).mono ?_;rintro e w' ⟨rfl,rfl⟩;rw[h1])
      | (go_at_call 124;refine (isDigit_b _ _).mono ?_;rintro e w' ⟨rfl,rfl⟩;rw[h2]))
     go_ret
     exact⟨ret_bool (by unfold perB;rw[H.out.1,H.out.2.1,H.out.2.2.1,H.out.2.2.2];rfl),rfl⟩
   ·rw[h3] at e45
    have H:=Lib.hid (And.intro h1 (And.intro h2 h3))
    clear h3
    go_enter Tryz.func112,Tryz.ntmps112
    go_wp2_with (first
     | (go_at_call 113;refine (isLower_b _ _).mono ?_;rintro e w' ⟨rfl,rfl⟩;rw[h1])
     | (go_at_call 124;refine (isDigit_b _ _).mono ?_;rintro e w' ⟨rfl,rfl⟩;rw[h2]))
    go_ret
    exact⟨ret_bool (by unfold perB;rw[H.out.1,H.out.2.1,H.out.2.2];rfl),rfl⟩
  ·go_enter Tryz.func112,Tryz.ntmps112
   go_wp2_with (first
    | (go_at_call 113;refine (isLower_b _ _).mono ?_;rintro e w' ⟨rfl,rfl⟩;rw[h1])
    | (go_at_call 124;refine (isDigit_b _ _).mono ?_;rintro e w' ⟨rfl,rfl⟩;rw[h2]))
   go_ret
   exact⟨ret_bool (by unfold perB;rw[h1,h2];rfl),rfl⟩
 ·go_enter Tryz.func112,Tryz.ntmps112
  go_wp2_with (go_at_call 113;refine (isLower_b _ _).mono ?_;rintro e w' ⟨rfl,rfl⟩;rw[h1])
  go_ret
  exact⟨ret_bool (by unfold perB;rw[h1];rfl),rfl⟩
def SiteR (l:List UInt8) (w:World) (e:Ending) (w':World):Prop:=∃ a n:Int,e=.returned (.tuple #[.int .i64 a,.int .i64 n])∧decide (n=0)=siteB l∧w'=w
theorem SiteR.no {l:List UInt8} {w:World} (a n:Int) (h:siteB l=false) (hn:n≠0):SiteR l w (.returned (.tuple #[.int .i64 a,.int .i64 n])) w:=⟨a,n,rfl,by rw[h];exact decide_eq_false hn,rfl⟩
theorem SiteR.yes {l:List UInt8} {w:World} (a:Int) (h:siteB l=true):SiteR l w (.returned (.tuple #[.int .i64 a,.int .i64 0])) w:=⟨a,0,rfl,by rw[h];rfl,rfl⟩
theorem getD_at (s:ByteArray) (j:Nat) (h:j<s.size):(bl s).getD j 0=s[j]:=by
 rw[List.getD_eq_getElem?_getD,List.getElem?_eq_getElem (by rw[bl_length];exact h)]
 rfl
theorem site_empty (s:ByteArray) (h:s.size=0):siteB (bl s)=false:=by
 unfold siteB
 rw[bl_length,h]
 rfl
theorem site_long (s:ByteArray) (h:30<s.size):siteB (bl s)=false:=by
 unfold siteB
 rw[bl_length,decide_eq_false (show ¬ s.size≤30 by omega)]
 simp
theorem site_per (s:ByteArray) (j:Nat) (hj:j<s.size) (h:perB s[j]=false):siteB (bl s)=false:=by
 unfold siteB
 have:(bl s).all perB=false:=by
  rw[List.all_eq_false]
  exact⟨s[j],List.getElem_mem _,by rw[h];decide⟩
 rw[this]
 simp
theorem site_mis (s:ByteArray) (j:Nat) (hj:j<s.size) (h:misL (bl s) j=true):siteB (bl s)=false:=by
 unfold siteB
 have:((List.range (bl s).length).all fun j => !misL (bl s) j)=false:=by
  rw[List.all_eq_false]
  exact⟨j,List.mem_range.2 (by rw[bl_length];exact hj),by rw[h];decide⟩
 rw[this]
 simp
theorem site_ok (s:ByteArray) (h1:1≤s.size) (h2:s.size≤30) (h3:∀ j (hj:j<s.size),perB s[j]=true) (h4:∀ j,j<s.size→misL (bl s) j=false):siteB (bl s)=true:=by
 unfold siteB
 rw[bl_length,decide_eq_true h1,decide_eq_true h2]
 have e1:(bl s).all perB=true:=by
  rw[List.all_eq_true]
  intro x hx
  obtain⟨j,hj,rfl⟩:=List.getElem_of_mem hx
  exact h3 j (by rw[bl_length] at hj;exact hj)
 have e2:((List.range s.size).all fun j => !misL (bl s) j)=true:=by
  rw[List.all_eq_true]
  intro j hj
  rw[h4 j (List.mem_range.1 hj)]
  rfl
 rw[e1,e2]
 rfl
theorem mis_zero (s:ByteArray) (h:0<s.size):misL (bl s) 0 = !loB s[0]:=by
 unfold misL
 rw[if_pos rfl,getD_at s 0 h]
theorem mis_succ (s:ByteArray) (i:Nat) (h:i+1<s.size):misL (bl s) (i+1)=((s[i+1]==46 && s[i]==46) || (decide (i+2=s.size) && (s[i+1]==45 || s[i+1]==46))):=by
 unfold misL
 rw[if_neg (by omega),getD_at s (i+1) h,Nat.add_sub_cancel,getD_at s i (by omega),bl_length]
theorem lo_not (c:UInt8) (h:loB c=true):(c==45)=false∧(c==46)=false:=by
 have h2:(!loB c || (!(c==45) && !(c==46)))=true:=byte_all (p:=fun c => !loB c || (!(c==45) && !(c==46))) (by decide +kernel) c
 rw[h] at h2
 simpa using h2
theorem byte_eq0 (s:ByteArray) (j:Nat) (h:j<s.size) (c:UInt8):(((s[j].toNat:Nat):Int)==((c.toNat:Nat):Int))=(s[j]==c):=byte_is s[j] c
set_option maxRecDepth 100000 in
set_option maxHeartbeats 6400000 in
theorem site37 (s:ByteArray) (w:World) (hs:s.size≤1000000):Calls Tryz.prog 81 #[.string s] w (SiteR (bl s) w):=by
 by_cases h0:s.size=0
 ·have he:s.toList.isEmpty=true:=by rw[ByteArray.toList_eq,List.isEmpty_iff];exact List.length_eq_zero_iff.1 h0
  have HX:=Lib.hid (site_empty s h0)
  clear h0
  go_enter Tryz.func81,Tryz.ntmps81
  go_wp2
  go_ret2
  exact SiteR.no _ _ HX.out (by decide)
 have he:s.toList.isEmpty=false:=by
  rw[ByteArray.toList_eq,Bool.eq_false_iff]
  intro e
  exact h0 (List.length_eq_zero_iff.2 (List.isEmpty_iff.1 e))
 by_cases hl:30<s.size
 ·have HX:=Lib.hid (site_long s hl)
  clear h0
  go_enter Tryz.func81,Tryz.ntmps81
  go_wp2
  go_ret2
  exact SiteR.no _ _ HX.out (by decide)
 have HZ:=Lib.hid (show 1≤s.size∧s.size≤30 by omega)
 clear h0
 go_enter Tryz.func81,Tryz.ntmps81
 go_wp2
 go_loop [17] (fun i=>∃ j:Nat,j≤s.size∧i=.int .i64 j∧∀ k (h:k<s.size),k<j→perB s[k]=true) (fun i=>s.size - (intOf i).toNat)
 case atStart=>exact⟨0,Nat.zero_le _,rfl,fun _ _ h=>absurd h (Nat.not_lt_zero _)⟩
 case round =>
  obtain⟨j,hj,rfl,hall⟩:=hrel
  have HP:=Lib.hid hall
  clear hall
  by_cases hlt:j<s.size
  ·cases hp:perB s[j] with
   | false =>
    have HX:=Lib.hid (site_per s j hlt hp)
    go_wp2_with (go_at_call 112;refine (isPer _ _).mono ?_;rintro e w' ⟨rfl,rfl⟩;rw[hp])
    go_ret2
    exact SiteR.no _ _ HX.out (by decide)
   | true =>
    have HX:=Lib.hid hp
    go_wp2_with (go_at_call 112;refine (isPer _ _).mono ?_;rintro e w' ⟨rfl,rfl⟩;rw[hp])
    go_round
    case rel=>exact⟨j+1,hlt,by go_num,fun k hk hkj=>(Nat.lt_succ_iff_lt_or_eq.1 hkj).elim (fun h=>HP.out k hk h) (fun h=>by subst h;exact HX.out)⟩
    case measure=>simp[intOf];omega
  ·obtain rfl:j=s.size:=by omega
   go_wp2
   go_loop [29] (fun i=>∃ j:Nat,j≤s.size∧i=.int .i64 j∧∀ k,k<j→misL (bl s) k=false) (fun i=>s.size - (intOf i).toNat)
   case atStart=>exact⟨0,Nat.zero_le _,rfl,fun _ h=>absurd h (Nat.not_lt_zero _)⟩
   case round =>
    obtain⟨j,hj2,rfl,hmis⟩:=hrel
    have HA:=Lib.hid hmis
    clear hmis
    by_cases hlt:j<s.size
    ·cases j with
     | zero =>
      have hm:=mis_zero s hlt
      cases hlo:loB s[0] with
      | false =>
       rw[hlo] at hm
       have HM:=Lib.hid hm
       clear hm
       go_wp2_with (go_at_call 113;refine (isLower_b _ _).mono ?_;rintro e w' ⟨rfl,rfl⟩;rw[hlo])
       go_ret2
       exact SiteR.no _ _ (site_mis s 0 hlt HM.out) (by decide)
      | true =>
       rw[hlo] at hm
       have HM:=Lib.hid hm
       clear hm
       obtain⟨l1,l2⟩:=lo_not _ hlo
       have e45:(((s[0].toNat:Nat):Int)==45)=false:=(byte_eq0 s 0 hlt 45).trans l1
       have e46:(((s[0].toNat:Nat):Int)==46)=false:=(byte_eq0 s 0 hlt 46).trans l2
       clear l1 l2
       go_wp2_with (go_at_call 113;refine (isLower_b _ _).mono ?_;rintro e w' ⟨rfl,rfl⟩;rw[hlo])
       all_goals
        go_round
        case rel=>exact⟨0+1,hlt,by go_num,fun k hk=>(Nat.lt_succ_iff_lt_or_eq.1 hk).elim (fun h=>HA.out k h) (fun h=>by rw[h];exact HM.out)⟩
        case measure=>simp[intOf];omega
     | succ i =>
      have hi:i<s.size:=by omega
      have hm:=mis_succ s i hlt
      have e45:=byte_eq0 s (i+1) hlt 45
      have e46:=byte_eq0 s (i+1) hlt 46
      have p46:=byte_eq0 s i hi 46
      change (((s[i+1].toNat:Nat):Int)==45)=_ at e45
      change (((s[i+1].toNat:Nat):Int)==46)=_ at e46
      change (((s[i].toNat:Nat):Int)==46)=_ at p46
      by_cases hz:i+2=s.size
      ·rw[decide_eq_true hz] at hm
       have hzb:i+2=s.size:=hz
       rcases h4:(s[i+1]==46) with _|_
       ·rw[h4] at e46
        rcases h5:(s[i+1]==45) with _|_
        ·rw[h5] at e45
         rw[h4,h5] at hm
         have HM:=Lib.hid (hm.trans (show _=false from rfl))
         clear hm
         go_wp2
         all_goals
          first
          | omega
          | (go_round
             case rel=>exact⟨(i+1)+1,hlt,by go_num,fun k hk=>(Nat.lt_succ_iff_lt_or_eq.1 hk).elim (fun h=>HA.out k h) (fun h=>by rw[h];exact HM.out)⟩
             case measure=>simp[intOf];omega)
        ·rw[h5] at e45
         rw[h4,h5] at hm
         have HM:=Lib.hid (hm.trans (show _=true from rfl))
         clear hm
         go_wp2
         all_goals
          first
          | omega
          | (go_ret2
             exact SiteR.no _ _ (site_mis s (i+1) hlt HM.out) (by decide))
       ·rw[h4] at e46
        rcases h6:(s[i]==46) with _|_
        ·rw[h6] at p46
         have h5:(s[i+1]==45)=false:=by rw[show s[i+1]=46 by simpa using h4];decide
         rw[h5] at e45
         rw[h4,h6,h5] at hm
         have HM:=Lib.hid (hm.trans (show _=true from rfl))
         clear hm
         go_wp2
         all_goals
          first
          | omega
          | (go_ret2
             exact SiteR.no _ _ (site_mis s (i+1) hlt HM.out) (by decide))
        ·rw[h6] at p46
         rw[h4,h6] at hm
         have HM:=Lib.hid (hm.trans (show _=true from rfl))
         clear hm
         go_wp2
         all_goals
          first
          | omega
          | (go_ret2
             exact SiteR.no _ _ (site_mis s (i+1) hlt HM.out) (by decide))
      ·rw[decide_eq_false hz] at hm
       have hzb:¬ (i:Int)+1=(s.size:Int) - 1:=by omega
       rcases h4:(s[i+1]==46) with _|_
       ·rw[h4] at e46
        rw[h4] at hm
        have HM:=Lib.hid (hm.trans (show _=false from rfl))
        clear hm
        go_wp2
        all_goals
         first
         | omega
         | (go_round
            case rel=>exact⟨(i+1)+1,hlt,by go_num,fun k hk=>(Nat.lt_succ_iff_lt_or_eq.1 hk).elim (fun h=>HA.out k h) (fun h=>by rw[h];exact HM.out)⟩
            case measure=>simp[intOf];omega)
       ·rw[h4] at e46
        rcases h6:(s[i]==46) with _|_
        ·rw[h6] at p46
         rw[h4,h6] at hm
         have HM:=Lib.hid (hm.trans (show _=false from rfl))
         clear hm
         go_wp2
         all_goals
          first
          | omega
          | (go_round
             case rel=>exact⟨(i+1)+1,hlt,by go_num,fun k hk=>(Nat.lt_succ_iff_lt_or_eq.1 hk).elim (fun h=>HA.out k h) (fun h=>by rw[h];exact HM.out)⟩
             case measure=>simp[intOf];omega)
        ·rw[h6] at p46
         rw[h4,h6] at hm
         have HM:=Lib.hid (hm.trans (show _=true from rfl))
         clear hm
         go_wp2
         all_goals
          first
          | omega
          | (go_ret2
             exact SiteR.no _ _ (site_mis s (i+1) hlt HM.out) (by decide))
    ·obtain rfl:j=s.size:=by omega
     have HX:=Lib.hid (site_ok s HZ.out.1 HZ.out.2 (fun k hk=>HP.out k hk hk) HA.out)
     go_wp2
     go_ret2
     exact SiteR.yes _ HX.out
end
section
open Go.RowKit
def formsL:List Fm:=[(⟨#[]⟩,0,0),(⟨#[104,101,108,108,111]⟩,17,0),(⟨#[111,102,102,101,114]⟩,6,0),(⟨#[119,97,110,116]⟩,10,0),(⟨#[104,97,118,101]⟩,2,0),(⟨#[108,97,116,101,114]⟩,2,0),(⟨#[114,101,102,117,115,101]⟩,34,0),(⟨#[100,97,116,97]⟩,74,4096),(⟨#[100,111,110,101]⟩,2,0),(⟨#[103,111,116]⟩,2,0),(⟨#[98,97,116,99,104]⟩,64,262144),(⟨#[113,117,105,116]⟩,0,0)]
def FormsAt (w:World):Prop:=Sl w cF (some ⟨0,0,none⟩) formsL
def crL (s:ByteArray):Bool:=decide (0≤Lib.indexByte s.data.toList 13)
def psC (c:Cm):List Pr:=psL (!c.name.toList.isEmpty) (!decide (c.id=zI)) (c.size != 0) (c.from_ != 0) (c.count != 0) (c.code != 0) (!c.text.toList.isEmpty)
theorem psC_ok (c:Cm):(c.name.toList.isEmpty = !(!c.name.toList.isEmpty))∧(decide (c.id=zI) = !(!decide (c.id=zI)))∧((c.size != 0)=(c.size != 0))∧((c.from_ != 0)=(c.from_ != 0))∧((c.count != 0)=(c.count != 0))∧((c.code != 0)=(c.code != 0))∧(c.text.toList.isEmpty = !(!c.text.toList.isEmpty)):=by simp
def rgs (c:Cm):List Rg:=[(4,c.size,1,65536),(8,c.from_,0,65536),(16,c.count,1,1000),(32,c.code,1,99)]
def okR (fl:Int) (x:Rg):Bool:=bits BinOp.and .i64 fl x.1==0 || (decide (x.2.2.1≤x.2.1) && decide (x.2.1≤x.2.2.2))
def chkF (c:Cm) (fl most:Int):Int :=
 if bits BinOp.andNot .i64 (orL (psC c)) fl != 0 then 3
 else if bits BinOp.and .i64 fl 1 != 0 && !siteB (bl c.name) then 12
 else if bits BinOp.and .i64 fl 2 != 0 && decide (c.id=zI) then 1
 else if (rgs c).all (okR fl)=false then 2
 else if bits BinOp.and .i64 fl 64==0 then 0
 else if c.text.toList.isEmpty then 1
 else if most<c.text.size then 5
 else if crL c.text then 6 else 0
def chk (c:Cm):Int :=
 if c.verb<1∨11<c.verb then 11
 else let f:=formsL[c.verb.toNat]?.getD (⟨#[]⟩,0,0);chkF c f.2.1 f.2.2
theorem FormsAt.keep {w w':World} (h:FormsAt w) (hb:Below w.heap.size w w'):FormsAt w':=Sl.keep h hb
theorem Sl.fm {w:World} {A:Option Addr} {xs:List Fm} (h:Sl w cF A xs) {k:Nat} (hk:k<xs.length):∃ ad,A=some ad∧okA w (ad.add (k * 3)) 3=true∧rdA w (ad.add (k * 3)) 3=vF xs[k]:=by
 obtain⟨ad,rfl,hat⟩:=Sl.at_ cF_length h hk
 have h1:=hat.ok
 have h2:=hat.rd
 rw[cF_length] at h1 h2
 exact⟨ad,rfl,h1,h2⟩
theorem Sl.rg {w:World} {A:Option Addr} {xs:List Rg} (h:Sl w cG A xs) {k:Nat} (hk:k<xs.length):∃ ad,A=some ad∧okA w (ad.add (k * 4)) 4=true∧rdA w (ad.add (k * 4)) 4=vG xs[k]:=by
 obtain⟨ad,rfl,hat⟩:=Sl.at_ cG_length h hk
 have h1:=hat.ok
 have h2:=hat.rd
 rw[cG_length] at h1 h2
 exact⟨ad,rfl,h1,h2⟩
set_option maxRecDepth 100000 in
set_option maxHeartbeats 12800000 in
theorem check16 (c:Cm) (w:World) (hL:FormsAt w) (hnb:c.name.size≤1000000):Calls Tryz.prog 53 #[vC c] w fun e w'=>e=.returned (.int .i64 (chk c))∧Below w.heap.size w w':=by
 by_cases hv:c.verb<1∨11<c.verb
 ·go_enter Tryz.func53,Tryz.ntmps53
  go_wp2_with (go_at_call 79;refine (isVerb35_no _ _ hv).mono ?_;rintro e w1 ⟨rfl,rfl⟩)
  go_ret
  exact⟨by unfold chk;rw[if_pos hv];rfl,below_alloc _ _⟩
 have hv1:1≤c.verb:=by omega
 have hv2:c.verb≤11:=by omega
 obtain⟨k,hk⟩:∃ k:Nat,c.verb=(k:Int):=⟨c.verb.toNat,by omega⟩
 have hk12:k<formsL.length:=by show k<12;omega
 have HC:Hid (chk c=chkF c (formsL[k].2.1) (formsL[k].2.2)):=Lib.hid (by unfold chk;rw[if_neg hv,hk,Int.toNat_natCast,List.getElem?_eq_getElem hk12];rfl)
 have hR:=Row.new w (cC c) 74
 have j0:(w.alloc (.cells (aC c) 74)).cell? ⟨w.heap.size,0,none⟩=some (.int .i64 (k:Int)):=by rw[← hk];exact hR.cell 0
 obtain⟨ad,had,hok,hrd⟩:=Sl.fm (FormsAt.keep hL (below_alloc w (.cells (aC c) 74))) hk12
 obtain rfl:=Option.some.inj had
 clear had
 have hao:=add_off 0 0 (k * 3)
 rw[Nat.zero_add] at hao
 rw[hao] at hok hrd
 clear hao
 obtain⟨⟨wd,fl,most⟩,hfm⟩:∃ fm,formsL[k]=fm:=⟨_,rfl⟩
 rw[hfm] at hrd HC
 clear hfm
 obtain⟨bad,hbad⟩:∃ bad,(bits BinOp.andNot .i64 (orL (psC c)) fl != 0)=bad:=⟨_,rfl⟩
 have HB:=Lib.hid hbad
 have hkk:(k:Int)<12:=by omega
 have hk1:1≤(k:Int):=by omega
 have hk2:(k:Int)≤11:=by omega
 clear hv hv1 hv2 hk hbad
 clear hL hR
 go_enter Tryz.func53,Tryz.ntmps53
 go_wp2_with (go_at_call 79;refine (isVerb35 (k:Int) _ hk1 hk2).mono ?_;rintro e w1 ⟨rfl,rfl⟩)
 have hb1:=below_alloc w (.cells (aC c) 74)
 have HW2:Below w.heap.size w ((w.alloc (.cells (aC c) 74)).alloc (.cells (aF (wd,fl,most)) 119)):=Below.step hb1 (below_alloc _ _)
 have R1:Row ((w.alloc (.cells (aC c) 74)).alloc (.cells (aF (wd,fl,most)) 119)) w.heap.size (cC c) 74:=(Row.new w (cC c) 74).keep (below_alloc _ _)
 have R2:Row ((w.alloc (.cells (aC c) 74)).alloc (.cells (aF (wd,fl,most)) 119)) (w.heap.size+1) (cF (wd,fl,most)) 119:=by
  have h:=Row.new (w.alloc (.cells (aC c) 74)) (cF (wd,fl,most)) 119
  rwa[show (w.alloc (.cells (aC c) 74)).heap.size=w.heap.size+1 by simp] at h
 clear hok hrd hb1 j0
 change Code.wp _ _ _ _ ((w.alloc (.cells (aC c) 74)).alloc (.cells (aF (wd,fl,most)) 119))
 generalize ((w.alloc (.cells (aC c) 74)).alloc (.cells (aF (wd,fl,most)) 119))=W2 at HW2 R1 R2 ⊢
 obtain⟨g3,hg3⟩:∃ g3,g3=w.heap.size+1:=⟨_,rfl⟩
 rw[← hg3] at R2 ⊢
 clear hg3
 obtain⟨b,hb0⟩:∃ b,b=w.heap.size:=⟨_,rfl⟩
 rw[← hb0] at R1 ⊢
 clear hb0
 have hsz:=R1.lt
 have j1:=(R1.at_ (k:=0) (n:=39) (ds:=cC c) (by rw[List.drop_zero,List.take_of_length_le (by rw[cC_length];omega)])).ok
 have j1':=(R1.at_ (k:=0) (n:=39) (ds:=cC c) (by rw[List.drop_zero,List.take_of_length_le (by rw[cC_length];omega)])).rd
 rw[cC_length] at j1 j1'
 have k1:W2.cell? ⟨g3,1,none⟩=some (.int .i64 fl):=R2.cell 1
 have HR:=Lib.hid (And.intro R1 R2)
 clear R1 R2
 refine AnyO.wp_any (by kernel_rfl) (by kernel_rfl) (pstP [isV (vC c),isV (.int .i64 (orL (psC c))),isV (.pointer (some ⟨g3,1,none⟩)),isV (.int .i64 fl),isV (.int .i64 (bits BinOp.andNot .i64 (orL (psC c)) fl)),isV (.bool bad)]) (MonoL.cons (Mono.v _) (MonoL.cons (Mono.v _) (MonoL.cons (Mono.v _) (MonoL.cons (Mono.v _) (MonoL.cons (Mono.v _) (MonoL.cons (Mono.v _) MonoL.nil)))))) ?_ ?_
 ·intro i hi
  have hi2:i=1∨i=0∨i=2∨i=3∨i=4∨i=5:=by simp only[List.size_toArray,List.length_cons,List.length_nil] at hi;omega
  clear hi
  rcases hi2 with rfl|rfl|rfl|rfl|rfl|rfl
  ·refine AnyO.S rfl [0] ?_;intro vs u hE hp ac hb K hK
   have s16:_=_:=AnyO.sw 16 0 hb hp
   go_simp
   go_at_call 80
   refine (present36 c u _ _ _ _ _ _ _ (psC_ok c)).mono ?_
   rintro e w2 ⟨rfl,hb2⟩
   exact hK _ _ hb2 rfl
  all_goals
   refine AnyO.T rfl ?_;intro vs u hE hp ac hb K hK
   try have s1:ac.tmps[1]?.getD undef=.pointer (some ⟨b,0,none⟩):=by rw[hb.out];kernel_rfl
   try have s3:ac.tmps[3]?.getD undef=.pointer (some ⟨g3,0,none⟩):=by rw[hb.out];kernel_rfl
   try have s18:_=_:=AnyO.sw 18 2 hb hp
   try have s17:_=_:=AnyO.sw 17 1 hb hp
   try have s19:_=_:=AnyO.sw 19 3 hb hp
   try have s20:_=_:=AnyO.sw 20 4 hb hp
   have rr_0:=okA_below j1 hsz (Below.step (below_drew _) hE)
   rw[j1'] at rr_0
   obtain⟨rr1_0,rr2_0⟩:=rr_0
   have rr_1:=cell_below k1 (Below.step (below_drew _) hE)
   have rr_2:=HB.out
   go_simp
   exact hK _ _ (Below.refl _ _) rfl
 ·intro vs u hE hp
  have e0:_=_:=hp 0 (by decide)
  have e1:_=_:=hp 1 (by decide)
  have e2:_=_:=hp 2 (by decide)
  have e3:_=_:=hp 3 (by decide)
  have e4:_=_:=hp 4 (by decide)
  have e5:_=_:=hp 5 (by decide)
  clear hp
  have HE:=Lib.hid hE
  clear hE
  rw[puts_range [some 16,some 17,some 18,some 19,some 20,some 21] (by kernel_rfl)]
  simp only[putL,Nat.reduceAdd,e0,e1,e2,e3,e4,e5]
  clear e0 e1 e2 e3 e4 e5
  go_simp
  have hrow1:=HR.out.1.keep HE.out
  have hrow2:=HR.out.2.keep HE.out
  have l1:u.cell? ⟨g3,1,none⟩=some (.int .i64 fl):=hrow2.cell 1
  have l5:u.cell? ⟨b,1,none⟩=some (.string c.name):=hrow1.cell 1
  obtain⟨l6,l6'⟩:=hrow1.idC
  clear k1 j1 j1'
  cases bad with
  | true =>
   go_wp2
   go_ret
   exact⟨by rw[HC.out];unfold chkF;rw[if_pos HB.out];rfl,Below.step HW2 HE.out⟩
  | false =>
   obtain⟨sb,hsb⟩:∃ sb,siteB (bl c.name)=sb:=⟨_,rfl⟩
   obtain⟨nm,hnm⟩:∃ nm,(bits BinOp.and .i64 fl 1 != 0)=nm:=⟨_,rfl⟩
   have HN0:=Lib.hid (And.intro hnm hsb)
   have HSI:=Lib.hid (show ∀ w1,Calls Tryz.prog 81 #[.string c.name] w1 fun e w'=>∃ a n:Int,e=.returned (.tuple #[.int .i64 a,.int .i64 n])∧decide (n=0)=siteB (bl c.name)∧w'=w1 from fun w1=>site37 c.name w1 hnb)
   rw[hsb] at HSI
   clear hsb
   cases nm with
   | true =>
    cases sb with
    | false =>
     go_wp2_with (go_at_call 81;refine (HSI.out _).mono ?_;rintro e w1 ⟨a,n,rfl,hn,rfl⟩;have hnn:(n != 0)=true:=by (simp at hn;simpa using hn))
     go_ret
     exact⟨by rw[HC.out];unfold chkF;rw[if_neg (by rw[HB.out];decide),if_pos (by rw[HN0.out.1,HN0.out.2];rfl)];rfl,Below.step HW2 HE.out⟩
    | true =>
     have HN:Hid ((bits BinOp.and .i64 fl 1 != 0 && !siteB (bl c.name))=false):=Lib.hid (by rw[HN0.out.1,HN0.out.2];rfl)
     obtain⟨ib,hib⟩:∃ ib,(bits BinOp.and .i64 fl 2 != 0)=ib:=⟨_,rfl⟩
     obtain⟨z,hz⟩:∃ z,decide (c.id=zI)=z:=⟨_,rfl⟩
     have HI:=Lib.hid (And.intro hib hz)
     have l2:∀ wx,Below u.heap.size u wx→wx.cell? ⟨b,34,none⟩=some (.int .i64 c.size)∧wx.cell? ⟨b,35,none⟩=some (.int .i64 c.from_)∧wx.cell? ⟨b,36,none⟩=some (.int .i64 c.count)∧wx.cell? ⟨b,37,none⟩=some (.int .i64 c.code):=fun wx hb=>⟨((hrow1.keep hb).cell 34).trans (cC_at (aC_34 c)),((hrow1.keep hb).cell 35).trans (cC_at (aC_35 c)),((hrow1.keep hb).cell 36).trans (cC_at (aC_36 c)),((hrow1.keep hb).cell 37).trans (cC_at (aC_37 c))⟩
     have HL2:=Lib.hid l2
     have HRS:=Lib.hid (And.intro hrow1 hrow2)
     clear hrow1 hrow2 l2
     cases ib with
     | true =>
      cases z with
      | true =>
       go_wp2_with (first|(go_at_call 81;refine (HSI.out _).mono ?_;rintro e wS ⟨a,n,rfl,hn,hwS⟩;rw[hwS];clear hwS;obtain rfl:n=0:=by simpa using hn)|(go_at_call 82;refine (isZero38 c.id u).mono ?_;rintro e w1 ⟨rfl,hb⟩;rw[hz];have HZ:=Lib.hid hb;clear hb))
       go_ret
       exact⟨by rw[HC.out];unfold chkF;rw[if_neg (by rw[HB.out];decide),if_neg (by rw[HN.out];decide),if_pos (by rw[HI.out.1,HI.out.2];rfl)];rfl,Below.step HW2 (Below.step HE.out HZ.out)⟩
      | false =>
       go_wp2_with (first|(go_at_call 81;refine (HSI.out _).mono ?_;rintro e wS ⟨a,n,rfl,hn,hwS⟩;rw[hwS];clear hwS;obtain rfl:n=0:=by simpa using hn)|(go_at_call 82;refine (isZero38 c.id u).mono ?_;rintro e w1 ⟨rfl,hb⟩;rw[hz];have l1:=cell_below l1 hb;obtain⟨n1,n2,n3,n4⟩:=HL2.out _ hb;have HZ:=Lib.hid hb;clear hb))
       have HJ:Hid ((bits BinOp.and .i64 fl 2 != 0 && decide (c.id=zI))=false):=Lib.hid (by rw[HI.out.1,HI.out.2];rfl)
       change Code.wp _ _ _ _ (w1.alloc (.cells (aGs (rgs c)) 165))
       have S4:Sl (w1.alloc (.cells (aGs (rgs c)) 165)) cG (some ⟨w1.heap.size,0,none⟩) (rgs c):=fun _=>⟨_,rfl,at_new w1 _ 165 _ rfl⟩
       have HB4:=Lib.hid (Below.step HW2 (Below.step HE.out (Below.step HZ.out (below_alloc w1 (.cells (aGs (rgs c)) 165)))))
       have l1:=cell_below l1 (below_alloc w1 (.cells (aGs (rgs c)) 165))
       have hg4:g3<(w1.alloc (.cells (aGs (rgs c)) 165)).heap.size:=by have:=HRS.out.2.lt;have:=HZ.out.size;simp;omega
       have j38:∀ wx,Below (w1.alloc (.cells (aGs (rgs c)) 165)).heap.size (w1.alloc (.cells (aGs (rgs c)) 165)) wx→wx.cell? ⟨b,38,none⟩=some (.string c.text)∧wx.cell? ⟨g3,2,none⟩=some (.int .i64 most):=fun wx hb=>⟨((HRS.out.1.keep (Below.step HZ.out (Below.step (below_alloc w1 (.cells (aGs (rgs c)) 165)) hb))).cell 38).trans (cC_at (aC_38 c)),(HRS.out.2.keep (Below.step HZ.out (Below.step (below_alloc w1 (.cells (aGs (rgs c)) 165)) hb))).cell 2⟩
       have HT:=Lib.hid j38
       clear j38 n1 n2 n3 n4
       generalize w1.alloc (.cells (aGs (rgs c)) 165)=W4 at S4 HB4 l1 hg4 HT ⊢
       have HS:=Lib.hid (And.intro S4 (And.intro l1 hg4))
       clear S4 l1 hg4
       go_loopw [57] (fun i wr=>∃ j:Nat,j≤4∧i=.int .i64 j∧((rgs c).take j).all (okR fl)=true∧Below W4.heap.size W4 wr) (fun i _=>4 - (intOf i).toNat)
       case atStart=>exact⟨0,by omega,rfl,rfl,Below.refl _ _⟩
       case round =>
        obtain⟨j,hj,rfl,hall,hb⟩:=hrel
        have l1:=cell_below HS.out.2.1 hb
        have hg4:g3<wr.heap.size:=Nat.lt_of_lt_of_le HS.out.2.2 hb.size
        have HB2:=Lib.hid (And.intro hb hall)
        by_cases hlt:j<4
        ·obtain⟨ad,had,hok,hrd⟩:=Sl.rg (HS.out.1.keep hb) (show j<(rgs c).length from hlt)
         obtain rfl:=Option.some.inj had
         have hao:=add_off w1.heap.size 0 (j * 4)
         rw[Nat.zero_add] at hao
         rw[hao] at hok hrd
         clear had hao
         have HA:=Lib.hid (show ((rgs c).take (j+1)).all (okR fl)=_ by rw[List.take_succ_eq_append_getElem (show j<(rgs c).length from hlt),List.all_append,List.all_cons,List.all_nil,Bool.and_true,hall,Bool.true_and])
         have HF:=Lib.hid (show okR fl ((rgs c)[j]'(show j<(rgs c).length from hlt))=false→(rgs c).all (okR fl)=false from fun e=>by rw[List.all_eq_false];exact⟨_,List.getElem_mem _,by rw[e];decide⟩)
         have hlk:(j:Int)<4:=by omega
         generalize (rgs c)[j]'(show j<(rgs c).length from hlt)=x at hok hrd HA HF
         obtain⟨a,n,lo,hi⟩:=x
         clear hb hall
         by_cases hm:(bits BinOp.and .i64 fl a != 0)=true
         ·have hz0:(bits BinOp.and .i64 fl a==0)=false:=by simpa[bne] using hm
          by_cases hn1:n<lo
          ·go_wp2
           go_ret
           exact⟨by rw[HC.out];unfold chkF;rw[if_neg (by rw[HB.out];decide),if_neg (by rw[HN.out];decide),if_neg (by rw[HJ.out];decide),if_pos (HF.out (by unfold okR;rw[hz0,decide_eq_false (show ¬ lo≤n by omega)];rfl))];rfl,Below.step HB4.out (Below.step HB2.out.1 (below_alloc _ _))⟩
          ·by_cases hn2:hi<n
           ·go_wp2
            go_ret
            exact⟨by rw[HC.out];unfold chkF;rw[if_neg (by rw[HB.out];decide),if_neg (by rw[HN.out];decide),if_neg (by rw[HJ.out];decide),if_pos (HF.out (by unfold okR;rw[hz0,decide_eq_false (show ¬ n≤hi by omega),Bool.and_false];rfl))];rfl,Below.step HB4.out (Below.step HB2.out.1 (below_alloc _ _))⟩
           ·go_wp2
            go_roundw
            case rel=>exact⟨j+1,hlt,by go_num,by rw[HA.out];unfold okR;rw[decide_eq_true (show lo≤n by omega),decide_eq_true (show n≤hi by omega)];simp,Below.step HB2.out.1 (below_alloc _ _)⟩
            case measure=>simp[intOf] <;> omega
         ·have hm':(bits BinOp.and .i64 fl a != 0)=false:=by simpa using hm
          have hz0:(bits BinOp.and .i64 fl a==0)=true:=by simpa[bne] using hm'
          clear hm
          go_wp2
          go_roundw
          case rel=>exact⟨j+1,hlt,by go_num,by rw[HA.out];unfold okR;rw[hz0];rfl,Below.step HB2.out.1 (below_alloc _ _)⟩
          case measure=>simp[intOf] <;> omega
        ·have hj4:j=4:=by omega
         subst hj4
         obtain⟨m1,m2⟩:=HT.out _ hb
         have HQ:=Lib.hid (And.intro (show (rgs c).all (okR fl)=true from hall) (Below.step HB4.out hb))
         clear hall hb
         obtain⟨tb,htb⟩:∃ tb,(bits BinOp.and .i64 fl 64==0)=tb:=⟨_,rfl⟩
         obtain⟨te,hte⟩:∃ te,c.text.toList.isEmpty=te:=⟨_,rfl⟩
         have HY:=Lib.hid (And.intro htb hte)
         have hch:chkF c fl most=if tb=true then 0 else if te=true then 1 else if most<c.text.size then 5 else if crL c.text then 6 else 0:=by
          unfold chkF
          rw[if_neg (by rw[HB.out];decide),if_neg (by rw[HN.out];decide),if_neg (by rw[HJ.out];decide),if_neg (by rw[HQ.out.1];decide),htb,hte]
         have HCH:=Lib.hid hch
         clear hch
         cases tb with
         | true =>
          go_wp2
          go_ret
          exact⟨by rw[HC.out,HCH.out];rfl,HQ.out.2⟩
         | false =>
          cases te with
          | true =>
           go_wp2
           go_ret
           exact⟨by rw[HC.out,HCH.out];rfl,HQ.out.2⟩
          | false =>
           by_cases hl:most<c.text.size
           ·go_wp2
            go_ret
            exact⟨by rw[HC.out,HCH.out,if_neg (by decide),if_neg (by decide),if_pos hl];rfl,HQ.out.2⟩
           ·obtain⟨cr,hcr⟩:∃ cr,decide (0≤Lib.indexByte c.text.data.toList 13)=cr:=⟨_,rfl⟩
            cases cr with
            | true =>
             go_wp2_with (go_at_call 18;refine (Tryz.strings_Contains_one c.text 13 _).mono ?_;rintro e w1 ⟨rfl,rfl⟩;rw[hcr])
             go_ret
             exact⟨by rw[HC.out,HCH.out,if_neg (by decide),if_neg (by decide),if_neg (by omega),if_pos (show crL c.text=true from hcr)];rfl,HQ.out.2⟩
            | false =>
             go_wp2_with (go_at_call 18;refine (Tryz.strings_Contains_one c.text 13 _).mono ?_;rintro e w1 ⟨rfl,rfl⟩;rw[hcr])
             go_ret
             exact⟨by rw[HC.out,HCH.out,if_neg (by decide),if_neg (by decide),if_neg (by omega),if_neg (by unfold crL;rw[hcr];decide)];rfl,HQ.out.2⟩
     | false =>
      obtain⟨n1,n2,n3,n4⟩:=HL2.out _ (Below.refl _ u)
      have HZ:=Lib.hid (Below.refl u.heap.size u)
      have HJ:Hid ((bits BinOp.and .i64 fl 2 != 0 && decide (c.id=zI))=false):=Lib.hid (by rw[HI.out.1];rfl)
      go_wp2_with (go_at_call 81;refine (HSI.out _).mono ?_;rintro e wS ⟨a,n,rfl,hn,hwS⟩;rw[hwS];clear hwS;obtain rfl:n=0:=by simpa using hn)
      change Code.wp _ _ _ _ (u.alloc (.cells (aGs (rgs c)) 165))
      have S4:Sl (u.alloc (.cells (aGs (rgs c)) 165)) cG (some ⟨u.heap.size,0,none⟩) (rgs c):=fun _=>⟨_,rfl,at_new u _ 165 _ rfl⟩
      have HB4:=Lib.hid (Below.step HW2 (Below.step HE.out (Below.step HZ.out (below_alloc u (.cells (aGs (rgs c)) 165)))))
      have l1:=cell_below l1 (below_alloc u (.cells (aGs (rgs c)) 165))
      have hg4:g3<(u.alloc (.cells (aGs (rgs c)) 165)).heap.size:=by have:=HRS.out.2.lt;have:=HZ.out.size;simp;omega
      have j38:∀ wx,Below (u.alloc (.cells (aGs (rgs c)) 165)).heap.size (u.alloc (.cells (aGs (rgs c)) 165)) wx→wx.cell? ⟨b,38,none⟩=some (.string c.text)∧wx.cell? ⟨g3,2,none⟩=some (.int .i64 most):=fun wx hb=>⟨((HRS.out.1.keep (Below.step HZ.out (Below.step (below_alloc u (.cells (aGs (rgs c)) 165)) hb))).cell 38).trans (cC_at (aC_38 c)),(HRS.out.2.keep (Below.step HZ.out (Below.step (below_alloc u (.cells (aGs (rgs c)) 165)) hb))).cell 2⟩
      have HT:=Lib.hid j38
      clear j38 n1 n2 n3 n4
      generalize u.alloc (.cells (aGs (rgs c)) 165)=W4 at S4 HB4 l1 hg4 HT ⊢
      have HS:=Lib.hid (And.intro S4 (And.intro l1 hg4))
      clear S4 l1 hg4
      go_loopw [57] (fun i wr=>∃ j:Nat,j≤4∧i=.int .i64 j∧((rgs c).take j).all (okR fl)=true∧Below W4.heap.size W4 wr) (fun i _=>4 - (intOf i).toNat)
      case atStart=>exact⟨0,by omega,rfl,rfl,Below.refl _ _⟩
      case round =>
       obtain⟨j,hj,rfl,hall,hb⟩:=hrel
       have l1:=cell_below HS.out.2.1 hb
       have hg4:g3<wr.heap.size:=Nat.lt_of_lt_of_le HS.out.2.2 hb.size
       have HB2:=Lib.hid (And.intro hb hall)
       by_cases hlt:j<4
       ·obtain⟨ad,had,hok,hrd⟩:=Sl.rg (HS.out.1.keep hb) (show j<(rgs c).length from hlt)
        obtain rfl:=Option.some.inj had
        have hao:=add_off u.heap.size 0 (j * 4)
        rw[Nat.zero_add] at hao
        rw[hao] at hok hrd
        clear had hao
        have HA:=Lib.hid (show ((rgs c).take (j+1)).all (okR fl)=_ by rw[List.take_succ_eq_append_getElem (show j<(rgs c).length from hlt),List.all_append,List.all_cons,List.all_nil,Bool.and_true,hall,Bool.true_and])
        have HF:=Lib.hid (show okR fl ((rgs c)[j]'(show j<(rgs c).length from hlt))=false→(rgs c).all (okR fl)=false from fun e=>by rw[List.all_eq_false];exact⟨_,List.getElem_mem _,by rw[e];decide⟩)
        have hlk:(j:Int)<4:=by omega
        generalize (rgs c)[j]'(show j<(rgs c).length from hlt)=x at hok hrd HA HF
        obtain⟨a,n,lo,hi⟩:=x
        clear hb hall
        by_cases hm:(bits BinOp.and .i64 fl a != 0)=true
        ·have hz0:(bits BinOp.and .i64 fl a==0)=false:=by simpa[bne] using hm
         by_cases hn1:n<lo
         ·go_wp2
          go_ret
          exact⟨by rw[HC.out];unfold chkF;rw[if_neg (by rw[HB.out];decide),if_neg (by rw[HN.out];decide),if_neg (by rw[HJ.out];decide),if_pos (HF.out (by unfold okR;rw[hz0,decide_eq_false (show ¬ lo≤n by omega)];rfl))];rfl,Below.step HB4.out (Below.step HB2.out.1 (below_alloc _ _))⟩
         ·by_cases hn2:hi<n
          ·go_wp2
           go_ret
           exact⟨by rw[HC.out];unfold chkF;rw[if_neg (by rw[HB.out];decide),if_neg (by rw[HN.out];decide),if_neg (by rw[HJ.out];decide),if_pos (HF.out (by unfold okR;rw[hz0,decide_eq_false (show ¬ n≤hi by omega),Bool.and_false];rfl))];rfl,Below.step HB4.out (Below.step HB2.out.1 (below_alloc _ _))⟩
          ·go_wp2
           go_roundw
           case rel=>exact⟨j+1,hlt,by go_num,by rw[HA.out];unfold okR;rw[decide_eq_true (show lo≤n by omega),decide_eq_true (show n≤hi by omega)];simp,Below.step HB2.out.1 (below_alloc _ _)⟩
           case measure=>simp[intOf] <;> omega
        ·have hm':(bits BinOp.and .i64 fl a != 0)=false:=by simpa using hm
         have hz0:(bits BinOp.and .i64 fl a==0)=true:=by simpa[bne] using hm'
         clear hm
         go_wp2
         go_roundw
         case rel=>exact⟨j+1,hlt,by go_num,by rw[HA.out];unfold okR;rw[hz0];rfl,Below.step HB2.out.1 (below_alloc _ _)⟩
         case measure=>simp[intOf] <;> omega
       ·have hj4:j=4:=by omega
        subst hj4
        obtain⟨m1,m2⟩:=HT.out _ hb
        have HQ:=Lib.hid (And.intro (show (rgs c).all (okR fl)=true from hall) (Below.step HB4.out hb))
        clear hall hb
        obtain⟨tb,htb⟩:∃ tb,(bits BinOp.and .i64 fl 64==0)=tb:=⟨_,rfl⟩
        obtain⟨te,hte⟩:∃ te,c.text.toList.isEmpty=te:=⟨_,rfl⟩
        have HY:=Lib.hid (And.intro htb hte)
        have hch:chkF c fl most=if tb=true then 0 else if te=true then 1 else if most<c.text.size then 5 else if crL c.text then 6 else 0:=by
         unfold chkF
         rw[if_neg (by rw[HB.out];decide),if_neg (by rw[HN.out];decide),if_neg (by rw[HJ.out];decide),if_neg (by rw[HQ.out.1];decide),htb,hte]
        have HCH:=Lib.hid hch
        clear hch
        cases tb with
        | true =>
         go_wp2
         go_ret
         exact⟨by rw[HC.out,HCH.out];rfl,HQ.out.2⟩
        | false =>
         cases te with
         | true =>
          go_wp2
          go_ret
          exact⟨by rw[HC.out,HCH.out];rfl,HQ.out.2⟩
         | false =>
          by_cases hl:most<c.text.size
          ·go_wp2
           go_ret
           exact⟨by rw[HC.out,HCH.out,if_neg (by decide),if_neg (by decide),if_pos hl];rfl,HQ.out.2⟩
          ·obtain⟨cr,hcr⟩:∃ cr,decide (0≤Lib.indexByte c.text.data.toList 13)=cr:=⟨_,rfl⟩
           cases cr with
           | true =>
            go_wp2_with (go_at_call 18;refine (Tryz.strings_Contains_one c.text 13 _).mono ?_;rintro e w1 ⟨rfl,rfl⟩;rw[hcr])
            go_ret
            exact⟨by rw[HC.out,HCH.out,if_neg (by decide),if_neg (by decide),if_neg (by omega),if_pos (show crL c.text=true from hcr)];rfl,HQ.out.2⟩
           | false =>
            go_wp2_with (go_at_call 18;refine (Tryz.strings_Contains_one c.text 13 _).mono ?_;rintro e w1 ⟨rfl,rfl⟩;rw[hcr])
            go_ret
            exact⟨by rw[HC.out,HCH.out,if_neg (by decide),if_neg (by decide),if_neg (by omega),if_neg (by unfold crL;rw[hcr];decide)];rfl,HQ.out.2⟩
   | false =>
    have HN:Hid ((bits BinOp.and .i64 fl 1 != 0 && !siteB (bl c.name))=false):=Lib.hid (by rw[HN0.out.1];rfl)
    obtain⟨ib,hib⟩:∃ ib,(bits BinOp.and .i64 fl 2 != 0)=ib:=⟨_,rfl⟩
    obtain⟨z,hz⟩:∃ z,decide (c.id=zI)=z:=⟨_,rfl⟩
    have HI:=Lib.hid (And.intro hib hz)
    have l2:∀ wx,Below u.heap.size u wx→wx.cell? ⟨b,34,none⟩=some (.int .i64 c.size)∧wx.cell? ⟨b,35,none⟩=some (.int .i64 c.from_)∧wx.cell? ⟨b,36,none⟩=some (.int .i64 c.count)∧wx.cell? ⟨b,37,none⟩=some (.int .i64 c.code):=fun wx hb=>⟨((hrow1.keep hb).cell 34).trans (cC_at (aC_34 c)),((hrow1.keep hb).cell 35).trans (cC_at (aC_35 c)),((hrow1.keep hb).cell 36).trans (cC_at (aC_36 c)),((hrow1.keep hb).cell 37).trans (cC_at (aC_37 c))⟩
    have HL2:=Lib.hid l2
    have HRS:=Lib.hid (And.intro hrow1 hrow2)
    clear hrow1 hrow2 l2
    cases ib with
    | true =>
     cases z with
     | true =>
      go_wp2_with (go_at_call 82;refine (isZero38 c.id u).mono ?_;rintro e w1 ⟨rfl,hb⟩;rw[hz];have HZ:=Lib.hid hb;clear hb)
      go_ret
      exact⟨by rw[HC.out];unfold chkF;rw[if_neg (by rw[HB.out];decide),if_neg (by rw[HN.out];decide),if_pos (by rw[HI.out.1,HI.out.2];rfl)];rfl,Below.step HW2 (Below.step HE.out HZ.out)⟩
     | false =>
      go_wp2_with (go_at_call 82;refine (isZero38 c.id u).mono ?_;rintro e w1 ⟨rfl,hb⟩;rw[hz];have l1:=cell_below l1 hb;obtain⟨n1,n2,n3,n4⟩:=HL2.out _ hb;have HZ:=Lib.hid hb;clear hb)
      have HJ:Hid ((bits BinOp.and .i64 fl 2 != 0 && decide (c.id=zI))=false):=Lib.hid (by rw[HI.out.1,HI.out.2];rfl)
      change Code.wp _ _ _ _ (w1.alloc (.cells (aGs (rgs c)) 165))
      have S4:Sl (w1.alloc (.cells (aGs (rgs c)) 165)) cG (some ⟨w1.heap.size,0,none⟩) (rgs c):=fun _=>⟨_,rfl,at_new w1 _ 165 _ rfl⟩
      have HB4:=Lib.hid (Below.step HW2 (Below.step HE.out (Below.step HZ.out (below_alloc w1 (.cells (aGs (rgs c)) 165)))))
      have l1:=cell_below l1 (below_alloc w1 (.cells (aGs (rgs c)) 165))
      have hg4:g3<(w1.alloc (.cells (aGs (rgs c)) 165)).heap.size:=by have:=HRS.out.2.lt;have:=HZ.out.size;simp;omega
      have j38:∀ wx,Below (w1.alloc (.cells (aGs (rgs c)) 165)).heap.size (w1.alloc (.cells (aGs (rgs c)) 165)) wx→wx.cell? ⟨b,38,none⟩=some (.string c.text)∧wx.cell? ⟨g3,2,none⟩=some (.int .i64 most):=fun wx hb=>⟨((HRS.out.1.keep (Below.step HZ.out (Below.step (below_alloc w1 (.cells (aGs (rgs c)) 165)) hb))).cell 38).trans (cC_at (aC_38 c)),(HRS.out.2.keep (Below.step HZ.out (Below.step (below_alloc w1 (.cells (aGs (rgs c)) 165)) hb))).cell 2⟩
      have HT:=Lib.hid j38
      clear j38 n1 n2 n3 n4
      generalize w1.alloc (.cells (aGs (rgs c)) 165)=W4 at S4 HB4 l1 hg4 HT ⊢
      have HS:=Lib.hid (And.intro S4 (And.intro l1 hg4))
      clear S4 l1 hg4
      go_loopw [57] (fun i wr=>∃ j:Nat,j≤4∧i=.int .i64 j∧((rgs c).take j).all (okR fl)=true∧Below W4.heap.size W4 wr) (fun i _=>4 - (intOf i).toNat)
      case atStart=>exact⟨0,by omega,rfl,rfl,Below.refl _ _⟩
      case round =>
       obtain⟨j,hj,rfl,hall,hb⟩:=hrel
       have l1:=cell_below HS.out.2.1 hb
       have hg4:g3<wr.heap.size:=Nat.lt_of_lt_of_le HS.out.2.2 hb.size
       have HB2:=Lib.hid (And.intro hb hall)
       by_cases hlt:j<4
       ·obtain⟨ad,had,hok,hrd⟩:=Sl.rg (HS.out.1.keep hb) (show j<(rgs c).length from hlt)
        obtain rfl:=Option.some.inj had
        have hao:=add_off w1.heap.size 0 (j * 4)
        rw[Nat.zero_add] at hao
        rw[hao] at hok hrd
        clear had hao
        have HA:=Lib.hid (show ((rgs c).take (j+1)).all (okR fl)=_ by rw[List.take_succ_eq_append_getElem (show j<(rgs c).length from hlt),List.all_append,List.all_cons,List.all_nil,Bool.and_true,hall,Bool.true_and])
        have HF:=Lib.hid (show okR fl ((rgs c)[j]'(show j<(rgs c).length from hlt))=false→(rgs c).all (okR fl)=false from fun e=>by rw[List.all_eq_false];exact⟨_,List.getElem_mem _,by rw[e];decide⟩)
        have hlk:(j:Int)<4:=by omega
        generalize (rgs c)[j]'(show j<(rgs c).length from hlt)=x at hok hrd HA HF
        obtain⟨a,n,lo,hi⟩:=x
        clear hb hall
        by_cases hm:(bits BinOp.and .i64 fl a != 0)=true
        ·have hz0:(bits BinOp.and .i64 fl a==0)=false:=by simpa[bne] using hm
         by_cases hn1:n<lo
         ·go_wp2
          go_ret
          exact⟨by rw[HC.out];unfold chkF;rw[if_neg (by rw[HB.out];decide),if_neg (by rw[HN.out];decide),if_neg (by rw[HJ.out];decide),if_pos (HF.out (by unfold okR;rw[hz0,decide_eq_false (show ¬ lo≤n by omega)];rfl))];rfl,Below.step HB4.out (Below.step HB2.out.1 (below_alloc _ _))⟩
         ·by_cases hn2:hi<n
          ·go_wp2
           go_ret
           exact⟨by rw[HC.out];unfold chkF;rw[if_neg (by rw[HB.out];decide),if_neg (by rw[HN.out];decide),if_neg (by rw[HJ.out];decide),if_pos (HF.out (by unfold okR;rw[hz0,decide_eq_false (show ¬ n≤hi by omega),Bool.and_false];rfl))];rfl,Below.step HB4.out (Below.step HB2.out.1 (below_alloc _ _))⟩
          ·go_wp2
           go_roundw
           case rel=>exact⟨j+1,hlt,by go_num,by rw[HA.out];unfold okR;rw[decide_eq_true (show lo≤n by omega),decide_eq_true (show n≤hi by omega)];simp,Below.step HB2.out.1 (below_alloc _ _)⟩
           case measure=>simp[intOf] <;> omega
        ·have hm':(bits BinOp.and .i64 fl a != 0)=false:=by simpa using hm
         have hz0:(bits BinOp.and .i64 fl a==0)=true:=by simpa[bne] using hm'
         clear hm
         go_wp2
         go_roundw
         case rel=>exact⟨j+1,hlt,by go_num,by rw[HA.out];unfold okR;rw[hz0];rfl,Below.step HB2.out.1 (below_alloc _ _)⟩
         case measure=>simp[intOf] <;> omega
       ·have hj4:j=4:=by omega
        subst hj4
        obtain⟨m1,m2⟩:=HT.out _ hb
        have HQ:=Lib.hid (And.intro (show (rgs c).all (okR fl)=true from hall) (Below.step HB4.out hb))
        clear hall hb
        obtain⟨tb,htb⟩:∃ tb,(bits BinOp.and .i64 fl 64==0)=tb:=⟨_,rfl⟩
        obtain⟨te,hte⟩:∃ te,c.text.toList.isEmpty=te:=⟨_,rfl⟩
        have HY:=Lib.hid (And.intro htb hte)
        have hch:chkF c fl most=if tb=true then 0 else if te=true then 1 else if most<c.text.size then 5 else if crL c.text then 6 else 0:=by
         unfold chkF
         rw[if_neg (by rw[HB.out];decide),if_neg (by rw[HN.out];decide),if_neg (by rw[HJ.out];decide),if_neg (by rw[HQ.out.1];decide),htb,hte]
        have HCH:=Lib.hid hch
        clear hch
        cases tb with
        | true =>
         go_wp2
         go_ret
         exact⟨by rw[HC.out,HCH.out];rfl,HQ.out.2⟩
        | false =>
         cases te with
         | true =>
          go_wp2
          go_ret
          exact⟨by rw[HC.out,HCH.out];rfl,HQ.out.2⟩
         | false =>
          by_cases hl:most<c.text.size
          ·go_wp2
           go_ret
           exact⟨by rw[HC.out,HCH.out,if_neg (by decide),if_neg (by decide),if_pos hl];rfl,HQ.out.2⟩
          ·obtain⟨cr,hcr⟩:∃ cr,decide (0≤Lib.indexByte c.text.data.toList 13)=cr:=⟨_,rfl⟩
           cases cr with
           | true =>
            go_wp2_with (go_at_call 18;refine (Tryz.strings_Contains_one c.text 13 _).mono ?_;rintro e w1 ⟨rfl,rfl⟩;rw[hcr])
            go_ret
            exact⟨by rw[HC.out,HCH.out,if_neg (by decide),if_neg (by decide),if_neg (by omega),if_pos (show crL c.text=true from hcr)];rfl,HQ.out.2⟩
           | false =>
            go_wp2_with (go_at_call 18;refine (Tryz.strings_Contains_one c.text 13 _).mono ?_;rintro e w1 ⟨rfl,rfl⟩;rw[hcr])
            go_ret
            exact⟨by rw[HC.out,HCH.out,if_neg (by decide),if_neg (by decide),if_neg (by omega),if_neg (by unfold crL;rw[hcr];decide)];rfl,HQ.out.2⟩
    | false =>
     obtain⟨n1,n2,n3,n4⟩:=HL2.out _ (Below.refl _ u)
     have HZ:=Lib.hid (Below.refl u.heap.size u)
     have HJ:Hid ((bits BinOp.and .i64 fl 2 != 0 && decide (c.id=zI))=false):=Lib.hid (by rw[HI.out.1];rfl)
     go_wp2
     change Code.wp _ _ _ _ (u.alloc (.cells (aGs (rgs c)) 165))
     have S4:Sl (u.alloc (.cells (aGs (rgs c)) 165)) cG (some ⟨u.heap.size,0,none⟩) (rgs c):=fun _=>⟨_,rfl,at_new u _ 165 _ rfl⟩
     have HB4:=Lib.hid (Below.step HW2 (Below.step HE.out (Below.step HZ.out (below_alloc u (.cells (aGs (rgs c)) 165)))))
     have l1:=cell_below l1 (below_alloc u (.cells (aGs (rgs c)) 165))
     have hg4:g3<(u.alloc (.cells (aGs (rgs c)) 165)).heap.size:=by have:=HRS.out.2.lt;have:=HZ.out.size;simp;omega
     have j38:∀ wx,Below (u.alloc (.cells (aGs (rgs c)) 165)).heap.size (u.alloc (.cells (aGs (rgs c)) 165)) wx→wx.cell? ⟨b,38,none⟩=some (.string c.text)∧wx.cell? ⟨g3,2,none⟩=some (.int .i64 most):=fun wx hb=>⟨((HRS.out.1.keep (Below.step HZ.out (Below.step (below_alloc u (.cells (aGs (rgs c)) 165)) hb))).cell 38).trans (cC_at (aC_38 c)),(HRS.out.2.keep (Below.step HZ.out (Below.step (below_alloc u (.cells (aGs (rgs c)) 165)) hb))).cell 2⟩
     have HT:=Lib.hid j38
     clear j38 n1 n2 n3 n4
     generalize u.alloc (.cells (aGs (rgs c)) 165)=W4 at S4 HB4 l1 hg4 HT ⊢
     have HS:=Lib.hid (And.intro S4 (And.intro l1 hg4))
     clear S4 l1 hg4
     go_loopw [57] (fun i wr=>∃ j:Nat,j≤4∧i=.int .i64 j∧((rgs c).take j).all (okR fl)=true∧Below W4.heap.size W4 wr) (fun i _=>4 - (intOf i).toNat)
     case atStart=>exact⟨0,by omega,rfl,rfl,Below.refl _ _⟩
     case round =>
      obtain⟨j,hj,rfl,hall,hb⟩:=hrel
      have l1:=cell_below HS.out.2.1 hb
      have hg4:g3<wr.heap.size:=Nat.lt_of_lt_of_le HS.out.2.2 hb.size
      have HB2:=Lib.hid (And.intro hb hall)
      by_cases hlt:j<4
      ·obtain⟨ad,had,hok,hrd⟩:=Sl.rg (HS.out.1.keep hb) (show j<(rgs c).length from hlt)
       obtain rfl:=Option.some.inj had
       have hao:=add_off u.heap.size 0 (j * 4)
       rw[Nat.zero_add] at hao
       rw[hao] at hok hrd
       clear had hao
       have HA:=Lib.hid (show ((rgs c).take (j+1)).all (okR fl)=_ by rw[List.take_succ_eq_append_getElem (show j<(rgs c).length from hlt),List.all_append,List.all_cons,List.all_nil,Bool.and_true,hall,Bool.true_and])
       have HF:=Lib.hid (show okR fl ((rgs c)[j]'(show j<(rgs c).length from hlt))=false→(rgs c).all (okR fl)=false from fun e=>by rw[List.all_eq_false];exact⟨_,List.getElem_mem _,by rw[e];decide⟩)
       have hlk:(j:Int)<4:=by omega
       generalize (rgs c)[j]'(show j<(rgs c).length from hlt)=x at hok hrd HA HF
       obtain⟨a,n,lo,hi⟩:=x
       clear hb hall
       by_cases hm:(bits BinOp.and .i64 fl a != 0)=true
       ·have hz0:(bits BinOp.and .i64 fl a==0)=false:=by simpa[bne] using hm
        by_cases hn1:n<lo
        ·go_wp2
         go_ret
         exact⟨by rw[HC.out];unfold chkF;rw[if_neg (by rw[HB.out];decide),if_neg (by rw[HN.out];decide),if_neg (by rw[HJ.out];decide),if_pos (HF.out (by unfold okR;rw[hz0,decide_eq_false (show ¬ lo≤n by omega)];rfl))];rfl,Below.step HB4.out (Below.step HB2.out.1 (below_alloc _ _))⟩
        ·by_cases hn2:hi<n
         ·go_wp2
          go_ret
          exact⟨by rw[HC.out];unfold chkF;rw[if_neg (by rw[HB.out];decide),if_neg (by rw[HN.out];decide),if_neg (by rw[HJ.out];decide),if_pos (HF.out (by unfold okR;rw[hz0,decide_eq_false (show ¬ n≤hi by omega),Bool.and_false];rfl))];rfl,Below.step HB4.out (Below.step HB2.out.1 (below_alloc _ _))⟩
         ·go_wp2
          go_roundw
          case rel=>exact⟨j+1,hlt,by go_num,by rw[HA.out];unfold okR;rw[decide_eq_true (show lo≤n by omega),decide_eq_true (show n≤hi by omega)];simp,Below.step HB2.out.1 (below_alloc _ _)⟩
          case measure=>simp[intOf] <;> omega
       ·have hm':(bits BinOp.and .i64 fl a != 0)=false:=by simpa using hm
        have hz0:(bits BinOp.and .i64 fl a==0)=true:=by simpa[bne] using hm'
        clear hm
        go_wp2
        go_roundw
        case rel=>exact⟨j+1,hlt,by go_num,by rw[HA.out];unfold okR;rw[hz0];rfl,Below.step HB2.out.1 (below_alloc _ _)⟩
        case measure=>simp[intOf] <;> omega
      ·have hj4:j=4:=by omega
       subst hj4
       obtain⟨m1,m2⟩:=HT.out _ hb
       have HQ:=Lib.hid (And.intro (show (rgs c).all (okR fl)=true from hall) (Below.step HB4.out hb))
       clear hall hb
       obtain⟨tb,htb⟩:∃ tb,(bits BinOp.and .i64 fl 64==0)=tb:=⟨_,rfl⟩
       obtain⟨te,hte⟩:∃ te,c.text.toList.isEmpty=te:=⟨_,rfl⟩
       have HY:=Lib.hid (And.intro htb hte)
       have hch:chkF c fl most=if tb=true then 0 else if te=true then 1 else if most<c.text.size then 5 else if crL c.text then 6 else 0:=by
        unfold chkF
        rw[if_neg (by rw[HB.out];decide),if_neg (by rw[HN.out];decide),if_neg (by rw[HJ.out];decide),if_neg (by rw[HQ.out.1];decide),htb,hte]
       have HCH:=Lib.hid hch
       clear hch
       cases tb with
       | true =>
        go_wp2
        go_ret
        exact⟨by rw[HC.out,HCH.out];rfl,HQ.out.2⟩
       | false =>
        cases te with
        | true =>
         go_wp2
         go_ret
         exact⟨by rw[HC.out,HCH.out];rfl,HQ.out.2⟩
        | false =>
         by_cases hl:most<c.text.size
         ·go_wp2
          go_ret
          exact⟨by rw[HC.out,HCH.out,if_neg (by decide),if_neg (by decide),if_pos hl];rfl,HQ.out.2⟩
         ·obtain⟨cr,hcr⟩:∃ cr,decide (0≤Lib.indexByte c.text.data.toList 13)=cr:=⟨_,rfl⟩
          cases cr with
          | true =>
           go_wp2_with (go_at_call 18;refine (Tryz.strings_Contains_one c.text 13 _).mono ?_;rintro e w1 ⟨rfl,rfl⟩;rw[hcr])
           go_ret
           exact⟨by rw[HC.out,HCH.out,if_neg (by decide),if_neg (by decide),if_neg (by omega),if_pos (show crL c.text=true from hcr)];rfl,HQ.out.2⟩
          | false =>
           go_wp2_with (go_at_call 18;refine (Tryz.strings_Contains_one c.text 13 _).mono ?_;rintro e w1 ⟨rfl,rfl⟩;rw[hcr])
           go_ret
           exact⟨by rw[HC.out,HCH.out,if_neg (by decide),if_neg (by decide),if_neg (by omega),if_neg (by unfold crL;rw[hcr];decide)];rfl,HQ.out.2⟩
end
end Go.Proofs.YtdkjgcfhepplbaaGreatDoor
