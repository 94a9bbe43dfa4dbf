/- Taker's Equal. -/
import Derived.Test.YtgojaelkdpabkaaGreatDoorMClS
namespace Go.Proofs.YtgojaelkdpabkaaGreatDoor
open Go.RowKit
def eqT (s t:Tk):Bool:=decide (s.win=t.win) && (decide (s.opn=t.opn) && (decide (s.act=t.act) && decide (s.kept=t.kept)))
set_option maxRecDepth 100000 in
theorem equal29_np2 (b:Nat) (w:World):Calls Tryz.prog 29 #[.pointer (some ⟨b,0,none⟩),.pointer none] w fun e w'=>e=.returned (.bool false)∧Below w.heap.size w w':=by
 go_enter Tryz.func29,Tryz.ntmps29
 go_wp2
 go_ret
 exact⟨rfl,Below.refl _ _⟩
set_option maxRecDepth 100000 in
set_option maxHeartbeats 3200000 in
theorem equal29 (b d:Nat) (s t:Tk) (F G:List Nat) (w:World) (hs:TkAt b s F w) (ht:TkAt d t G w) (ha:s.act.length≤100) (hk:s.kept.length≤100):Calls Tryz.prog 29 #[.pointer (some ⟨b,0,none⟩),.pointer (some ⟨d,0,none⟩)] w fun e w'=>e=.returned (.bool (eqT s t))∧Below w.heap.size w w':=by
 obtain⟨va,vk,hs⟩:=hs
 obtain⟨ua,uk,ht⟩:=ht
 obtain⟨na,hna⟩:∃ na,s.act.length=na:=⟨_,rfl⟩
 obtain⟨nk,hnk⟩:∃ nk,s.kept.length=nk:=⟨_,rfl⟩
 obtain⟨ma,hma⟩:∃ ma,t.act.length=ma:=⟨_,rfl⟩
 obtain⟨mk,hmk⟩:∃ mk,t.kept.length=mk:=⟨_,rfl⟩
 have HN:=Lib.hid (And.intro (hs.la.trans hna) (And.intro (hs.lk.trans hnk) (And.intro (ht.la.trans hma) (ht.lk.trans hmk))))
 have HM:=Lib.hid (And.intro hna (And.intro hnk (And.intro hma (And.intro hmk (And.intro (show na≤100000 by omega) (show nk≤100000 by omega))))))
 have HS:=Lib.hid hs
 have HU:=Lib.hid ht
 clear hs ht ha hk hna hnk hma hmk
 obtain⟨g1,hg1⟩:∃ g1,decide (s.win=t.win)=g1:=⟨_,rfl⟩
 obtain⟨pb,hpb⟩:∃ pb,decide (s.opn=t.opn)=pb:=⟨_,rfl⟩
 obtain⟨qa,hqa⟩:∃ qa,decide (s.act=t.act)=qa:=⟨_,rfl⟩
 obtain⟨qk,hqk⟩:∃ qk,decide (s.kept=t.kept)=qk:=⟨_,rfl⟩
 obtain⟨g2,hg2⟩:∃ g2,(g1 && pb)=g2:=⟨_,rfl⟩
 obtain⟨g3,hg3⟩:∃ g3,(g2 && qa)=g3:=⟨_,rfl⟩
 obtain⟨g4,hg4⟩:∃ g4,(g3 && qk)=g4:=⟨_,rfl⟩
 have HG:=Lib.hid (And.intro hg2 (And.intro hg3 hg4))
 have HQ:=Lib.hid (And.intro hqa hqk)
 obtain⟨w1,hw1⟩:∃ w1,s.win=w1:=⟨_,rfl⟩
 obtain⟨w2,hw2⟩:∃ w2,t.win=w2:=⟨_,rfl⟩
 obtain⟨p1,hp1⟩:∃ p1,s.opn=p1:=⟨_,rfl⟩
 obtain⟨p2,hp2⟩:∃ p2,t.opn=p2:=⟨_,rfl⟩
 have e1:(w1==w2)=g1:=by rw[← hg1,← hw1,← hw2];exact Bool.eq_iff_iff.2 (by simp)
 have e2:(p1==p2)=pb:=by rw[← hpb,← hp1,← hp2];exact Bool.eq_iff_iff.2 (by simp)
 rw[show eqT s t=g4 by unfold eqT;rw[hg1,hpb,hqa,hqk,← hg4,← hg3,← hg2];cases g1 <;> cases pb <;> cases qa <;> cases qk <;> rfl]
 have HW9:=Lib.hid (And.intro hw1 (And.intro hw2 (And.intro hp1 hp2)))
 clear hw1 hw2 hp1 hp2 hg1 hpb hqa hqk hg2 hg3 hg4
 go_enter Tryz.func29,Tryz.ntmps29
 go_wp2
 refine AnyO.wp_anyI (by kernel_rfl) (by kernel_rfl) (AnyO.InvG (σ:=Unit) (fun σ=>AnyO.pvL [some (.pointer (some ⟨b,0,none⟩)),some (.pointer (some ⟨b,0,none⟩)),some (.pointer (some ⟨b,0,none⟩)),some (.int .i64 w1),some (.pointer (some ⟨d,0,none⟩)),some (.pointer (some ⟨d,0,none⟩)),some (.pointer (some ⟨d,0,none⟩)),some (.int .i64 w2),some (.bool g1),some (.bool g1),some (bif g1 then .pointer (some ⟨b,0,none⟩) else undef),some (bif g1 then .pointer (some ⟨b,0,none⟩) else undef),some (bif g1 then .pointer (some ⟨b,1,none⟩) else undef),some (bif g1 then .bool p1 else undef),some (bif g1 then .pointer (some ⟨d,0,none⟩) else undef),some (bif g1 then .pointer (some ⟨d,0,none⟩) else undef),some (bif g1 then .pointer (some ⟨d,1,none⟩) else undef),some (bif g1 then .bool p2 else undef),some (bif g1 then .bool pb else undef),some (.bool g2),some (.bool g2),some (bif g2 then .pointer (some ⟨b,0,none⟩) else undef),some (bif g2 then .pointer (some ⟨b,0,none⟩) else undef),some (bif g2 then .pointer (some ⟨b,2,none⟩) else undef),some (bif g2 then .slice va.1 na va.2.2 else undef),some (bif g2 then .pointer (some ⟨d,0,none⟩) else undef),some (bif g2 then .pointer (some ⟨d,0,none⟩) else undef),some (bif g2 then .pointer (some ⟨d,2,none⟩) else undef),some (bif g2 then .slice ua.1 ma ua.2.2 else undef),some (bif g2 then .bool qa else undef),some (.bool g3),some (.bool g3),some (bif g3 then .pointer (some ⟨b,0,none⟩) else undef),some (bif g3 then .pointer (some ⟨b,0,none⟩) else undef),some (bif g3 then .pointer (some ⟨b,3,none⟩) else undef),some (bif g3 then .slice vk.1 nk vk.2.2 else undef),some (bif g3 then .pointer (some ⟨d,0,none⟩) else undef),some (bif g3 then .pointer (some ⟨d,0,none⟩) else undef),some (bif g3 then .pointer (some ⟨d,3,none⟩) else undef),some (bif g3 then .slice uk.1 mk uk.2.2 else undef),some (bif g3 then .bool qk else undef),some (.bool g4),some (.bool g4)]) (fun _ _ u=>Below w.heap.size w u)) (AnyO.InvG.start (g:=()) (below_drew _)) ?_ ?_
 ·intro i hi
  have hi2:i=10∨i=11∨i=12∨i=13∨i=14∨i=15∨i=16∨i=17∨i=18∨i=19∨i=21∨i=22∨i=23∨i=24∨i=25∨i=26∨i=27∨i=28∨i=29∨i=30∨i=32∨i=33∨i=34∨i=35∨i=36∨i=37∨i=38∨i=39∨i=40∨i=41∨i=0∨i=1∨i=2∨i=3∨i=4∨i=5∨i=6∨i=7∨i=8∨i=9∨i=20∨i=31∨i=42:=by simp only[List.size_toArray,List.append_eq,List.length_append,List.length_cons,List.length_nil] at hi;omega
  clear hi
  rcases hi2 with rfl|rfl|rfl|rfl|rfl|rfl|rfl|rfl|rfl|rfl|rfl|rfl|rfl|rfl|rfl|rfl|rfl|rfl|rfl|rfl|rfl|rfl|rfl|rfl|rfl|rfl|rfl|rfl|rfl|rfl|rfl|rfl|rfl|rfl|rfl|rfl|rfl|rfl|rfl|rfl|rfl|rfl|rfl
  ·refine AnyO.StepI.mk rfl [9] (by kernel_rfl) ?_;rintro D vs u ⟨σ,hP,hW⟩ h0 hC hp ac hb K hK
   rcases g1 with _|_
   ·have s0:ac.tmps[0]?.getD undef=.pointer (some ⟨b,0,none⟩):=by rw[hb];kernel_rfl
    have s26:=AnyO.slot 26 hb (by kernel_rfl) (hP 9 (hp 9 (by decide)))
    rw[if_neg (AnyO.wanted_not (g:=9) (t:=26) (want:=true) rfl rfl s26 (fun e=>by cases e))]
    exact hK undef _ (AnyO.InvG.step (g:=σ) hP rfl hW)
   ·have s0:ac.tmps[0]?.getD undef=.pointer (some ⟨b,0,none⟩):=by rw[hb];kernel_rfl
    have s26:=AnyO.slot 26 hb (by kernel_rfl) (hP 9 (hp 9 (by decide)))
    rw[if_pos (AnyO.wanted_some (g:=9) (t:=26) (want:=true) rfl rfl s26)]
    clear hb hp
    clear hC h0;have HPW:=Lib.hid (And.intro hP hW);clear hP hW;go_simp;exact hK _ _ (AnyO.InvG.step (g:=σ) HPW.out.1 rfl HPW.out.2)
  ·refine AnyO.StepI.mk rfl [10,9] (by kernel_rfl) ?_;rintro D vs u ⟨σ,hP,hW⟩ h0 hC hp ac hb K hK
   rcases g1 with _|_
   ·have s27:ac.tmps[27]?.getD undef=undef:=by rw[hb];exact (show _=vs 10 by kernel_rfl).trans (show vs 10=undef from hP 10 (hp 10 (by decide)))
    have s26:=AnyO.slot 26 hb (by kernel_rfl) (hP 9 (hp 9 (by decide)))
    rw[if_neg (AnyO.wanted_not (g:=9) (t:=26) (want:=true) rfl rfl s26 (fun e=>by cases e))]
    exact hK undef _ (AnyO.InvG.step (g:=σ) hP rfl hW)
   ·have s27:ac.tmps[27]?.getD undef=.pointer (some ⟨b,0,none⟩):=by rw[hb];exact (show _=vs 10 by kernel_rfl).trans (show vs 10=.pointer (some ⟨b,0,none⟩) from hP 10 (hp 10 (by decide)))
    have s26:=AnyO.slot 26 hb (by kernel_rfl) (hP 9 (hp 9 (by decide)))
    rw[if_pos (AnyO.wanted_some (g:=9) (t:=26) (want:=true) rfl rfl s26)]
    clear hb hp
    clear hC h0;have HPW:=Lib.hid (And.intro hP hW);clear hP hW;go_simp;exact hK _ _ (AnyO.InvG.step (g:=σ) HPW.out.1 rfl HPW.out.2)
  ·refine AnyO.StepI.mk rfl [11,9] (by kernel_rfl) ?_;rintro D vs u ⟨σ,hP,hW⟩ h0 hC hp ac hb K hK
   rcases g1 with _|_
   ·have s28:ac.tmps[28]?.getD undef=undef:=by rw[hb];exact (show _=vs 11 by kernel_rfl).trans (show vs 11=undef from hP 11 (hp 11 (by decide)))
    have s26:=AnyO.slot 26 hb (by kernel_rfl) (hP 9 (hp 9 (by decide)))
    rw[if_neg (AnyO.wanted_not (g:=9) (t:=26) (want:=true) rfl rfl s26 (fun e=>by cases e))]
    exact hK undef _ (AnyO.InvG.step (g:=σ) hP rfl hW)
   ·have s28:ac.tmps[28]?.getD undef=.pointer (some ⟨b,0,none⟩):=by rw[hb];exact (show _=vs 11 by kernel_rfl).trans (show vs 11=.pointer (some ⟨b,0,none⟩) from hP 11 (hp 11 (by decide)))
    have s26:=AnyO.slot 26 hb (by kernel_rfl) (hP 9 (hp 9 (by decide)))
    rw[if_pos (AnyO.wanted_some (g:=9) (t:=26) (want:=true) rfl rfl s26)]
    clear hb hp
    clear hC h0;have HPW:=Lib.hid (And.intro hP hW);clear hP hW;go_simp;exact hK _ _ (AnyO.InvG.step (g:=σ) HPW.out.1 rfl HPW.out.2)
  ·refine AnyO.StepI.mk rfl [12,9] (by kernel_rfl) ?_;rintro D vs u ⟨σ,hP,hW⟩ h0 hC hp ac hb K hK
   rcases g1 with _|_
   ·have s29:ac.tmps[29]?.getD undef=undef:=by rw[hb];exact (show _=vs 12 by kernel_rfl).trans (show vs 12=undef from hP 12 (hp 12 (by decide)))
    have s26:=AnyO.slot 26 hb (by kernel_rfl) (hP 9 (hp 9 (by decide)))
    rw[if_neg (AnyO.wanted_not (g:=9) (t:=26) (want:=true) rfl rfl s26 (fun e=>by cases e))]
    exact hK undef _ (AnyO.InvG.step (g:=σ) hP rfl hW)
   ·have s29:ac.tmps[29]?.getD undef=.pointer (some ⟨b,1,none⟩):=by rw[hb];exact (show _=vs 12 by kernel_rfl).trans (show vs 12=.pointer (some ⟨b,1,none⟩) from hP 12 (hp 12 (by decide)))
    have s26:=AnyO.slot 26 hb (by kernel_rfl) (hP 9 (hp 9 (by decide)))
    rw[if_pos (AnyO.wanted_some (g:=9) (t:=26) (want:=true) rfl rfl s26)]
    clear hb hp
    have rr:=(HS.out.keep hW).c1
    rw[HW9.out.2.2.1] at rr
    clear hC h0;have HPW:=Lib.hid (And.intro hP hW);clear hP hW;go_simp;exact hK _ _ (AnyO.InvG.step (g:=σ) HPW.out.1 rfl HPW.out.2)
  ·refine AnyO.StepI.mk rfl [9] (by kernel_rfl) ?_;rintro D vs u ⟨σ,hP,hW⟩ h0 hC hp ac hb K hK
   rcases g1 with _|_
   ·have s1:ac.tmps[1]?.getD undef=.pointer (some ⟨d,0,none⟩):=by rw[hb];kernel_rfl
    have s26:=AnyO.slot 26 hb (by kernel_rfl) (hP 9 (hp 9 (by decide)))
    rw[if_neg (AnyO.wanted_not (g:=9) (t:=26) (want:=true) rfl rfl s26 (fun e=>by cases e))]
    exact hK undef _ (AnyO.InvG.step (g:=σ) hP rfl hW)
   ·have s1:ac.tmps[1]?.getD undef=.pointer (some ⟨d,0,none⟩):=by rw[hb];kernel_rfl
    have s26:=AnyO.slot 26 hb (by kernel_rfl) (hP 9 (hp 9 (by decide)))
    rw[if_pos (AnyO.wanted_some (g:=9) (t:=26) (want:=true) rfl rfl s26)]
    clear hb hp
    clear hC h0;have HPW:=Lib.hid (And.intro hP hW);clear hP hW;go_simp;exact hK _ _ (AnyO.InvG.step (g:=σ) HPW.out.1 rfl HPW.out.2)
  ·refine AnyO.StepI.mk rfl [14,9] (by kernel_rfl) ?_;rintro D vs u ⟨σ,hP,hW⟩ h0 hC hp ac hb K hK
   rcases g1 with _|_
   ·have s31:ac.tmps[31]?.getD undef=undef:=by rw[hb];exact (show _=vs 14 by kernel_rfl).trans (show vs 14=undef from hP 14 (hp 14 (by decide)))
    have s26:=AnyO.slot 26 hb (by kernel_rfl) (hP 9 (hp 9 (by decide)))
    rw[if_neg (AnyO.wanted_not (g:=9) (t:=26) (want:=true) rfl rfl s26 (fun e=>by cases e))]
    exact hK undef _ (AnyO.InvG.step (g:=σ) hP rfl hW)
   ·have s31:ac.tmps[31]?.getD undef=.pointer (some ⟨d,0,none⟩):=by rw[hb];exact (show _=vs 14 by kernel_rfl).trans (show vs 14=.pointer (some ⟨d,0,none⟩) from hP 14 (hp 14 (by decide)))
    have s26:=AnyO.slot 26 hb (by kernel_rfl) (hP 9 (hp 9 (by decide)))
    rw[if_pos (AnyO.wanted_some (g:=9) (t:=26) (want:=true) rfl rfl s26)]
    clear hb hp
    clear hC h0;have HPW:=Lib.hid (And.intro hP hW);clear hP hW;go_simp;exact hK _ _ (AnyO.InvG.step (g:=σ) HPW.out.1 rfl HPW.out.2)
  ·refine AnyO.StepI.mk rfl [15,9] (by kernel_rfl) ?_;rintro D vs u ⟨σ,hP,hW⟩ h0 hC hp ac hb K hK
   rcases g1 with _|_
   ·have s32:ac.tmps[32]?.getD undef=undef:=by rw[hb];exact (show _=vs 15 by kernel_rfl).trans (show vs 15=undef from hP 15 (hp 15 (by decide)))
    have s26:=AnyO.slot 26 hb (by kernel_rfl) (hP 9 (hp 9 (by decide)))
    rw[if_neg (AnyO.wanted_not (g:=9) (t:=26) (want:=true) rfl rfl s26 (fun e=>by cases e))]
    exact hK undef _ (AnyO.InvG.step (g:=σ) hP rfl hW)
   ·have s32:ac.tmps[32]?.getD undef=.pointer (some ⟨d,0,none⟩):=by rw[hb];exact (show _=vs 15 by kernel_rfl).trans (show vs 15=.pointer (some ⟨d,0,none⟩) from hP 15 (hp 15 (by decide)))
    have s26:=AnyO.slot 26 hb (by kernel_rfl) (hP 9 (hp 9 (by decide)))
    rw[if_pos (AnyO.wanted_some (g:=9) (t:=26) (want:=true) rfl rfl s26)]
    clear hb hp
    clear hC h0;have HPW:=Lib.hid (And.intro hP hW);clear hP hW;go_simp;exact hK _ _ (AnyO.InvG.step (g:=σ) HPW.out.1 rfl HPW.out.2)
  ·refine AnyO.StepI.mk rfl [16,9] (by kernel_rfl) ?_;rintro D vs u ⟨σ,hP,hW⟩ h0 hC hp ac hb K hK
   rcases g1 with _|_
   ·have s33:ac.tmps[33]?.getD undef=undef:=by rw[hb];exact (show _=vs 16 by kernel_rfl).trans (show vs 16=undef from hP 16 (hp 16 (by decide)))
    have s26:=AnyO.slot 26 hb (by kernel_rfl) (hP 9 (hp 9 (by decide)))
    rw[if_neg (AnyO.wanted_not (g:=9) (t:=26) (want:=true) rfl rfl s26 (fun e=>by cases e))]
    exact hK undef _ (AnyO.InvG.step (g:=σ) hP rfl hW)
   ·have s33:ac.tmps[33]?.getD undef=.pointer (some ⟨d,1,none⟩):=by rw[hb];exact (show _=vs 16 by kernel_rfl).trans (show vs 16=.pointer (some ⟨d,1,none⟩) from hP 16 (hp 16 (by decide)))
    have s26:=AnyO.slot 26 hb (by kernel_rfl) (hP 9 (hp 9 (by decide)))
    rw[if_pos (AnyO.wanted_some (g:=9) (t:=26) (want:=true) rfl rfl s26)]
    clear hb hp
    have rr:=(HU.out.keep hW).c1
    rw[HW9.out.2.2.2] at rr
    clear hC h0;have HPW:=Lib.hid (And.intro hP hW);clear hP hW;go_simp;exact hK _ _ (AnyO.InvG.step (g:=σ) HPW.out.1 rfl HPW.out.2)
  ·refine AnyO.StepI.mk rfl [13,17,9] (by kernel_rfl) ?_;rintro D vs u ⟨σ,hP,hW⟩ h0 hC hp ac hb K hK
   rcases g1 with _|_
   ·have s30:ac.tmps[30]?.getD undef=undef:=by rw[hb];exact (show _=vs 13 by kernel_rfl).trans (show vs 13=undef from hP 13 (hp 13 (by decide)))
    have s34:=AnyO.slot 34 hb (by kernel_rfl) (hP 17 (hp 17 (by decide)))
    have s26:=AnyO.slot 26 hb (by kernel_rfl) (hP 9 (hp 9 (by decide)))
    rw[if_neg (AnyO.wanted_not (g:=9) (t:=26) (want:=true) rfl rfl s26 (fun e=>by cases e))]
    exact hK undef _ (AnyO.InvG.step (g:=σ) hP rfl hW)
   ·have s30:ac.tmps[30]?.getD undef=.bool p1:=by rw[hb];exact (show _=vs 13 by kernel_rfl).trans (show vs 13=.bool p1 from hP 13 (hp 13 (by decide)))
    have s34:=AnyO.slot 34 hb (by kernel_rfl) (hP 17 (hp 17 (by decide)))
    have s26:=AnyO.slot 26 hb (by kernel_rfl) (hP 9 (hp 9 (by decide)))
    rw[if_pos (AnyO.wanted_some (g:=9) (t:=26) (want:=true) rfl rfl s26)]
    clear hb hp
    clear hC h0;have HPW:=Lib.hid (And.intro hP hW);clear hP hW;go_simp;exact hK _ _ (AnyO.InvG.step (g:=σ) HPW.out.1 rfl HPW.out.2)
  ·refine AnyO.StepI.mk rfl [9,18] (by kernel_rfl) ?_;rintro D vs u ⟨σ,hP,hW⟩ h0 hC hp ac hb K hK
   rcases g1 with _|_
   ·have s26:ac.tmps[26]?.getD undef=.bool false:=by rw[hb];exact (show _=vs 9 by kernel_rfl).trans (show vs 9=.bool false from hP 9 (hp 9 (by decide)))
    have s35:=AnyO.slot 35 hb (by kernel_rfl) (hP 18 (hp 18 (by decide)))
    rw[if_pos (AnyO.wanted_none rfl)];clear hb hp
    clear hC h0;have HPW:=Lib.hid (And.intro hP hW);clear hP hW;go_simp;obtain⟨hP,hW⟩:=HPW.out
    exact hK _ _ (AnyO.InvG.step (g:=σ) hP (show _=Value.bool g2 by rw[← HG.out.1];rfl) hW)
   ·have s26:ac.tmps[26]?.getD undef=.bool true:=by rw[hb];exact (show _=vs 9 by kernel_rfl).trans (show vs 9=.bool true from hP 9 (hp 9 (by decide)))
    have s35:=AnyO.slot 35 hb (by kernel_rfl) (hP 18 (hp 18 (by decide)))
    rw[if_pos (AnyO.wanted_none rfl)];clear hb hp
    clear hC h0;have HPW:=Lib.hid (And.intro hP hW);clear hP hW;go_simp;obtain⟨hP,hW⟩:=HPW.out
    exact hK _ _ (AnyO.InvG.step (g:=σ) hP (show _=Value.bool g2 by rw[← HG.out.1];rfl) hW)
  ·refine AnyO.StepI.mk rfl [20] (by kernel_rfl) ?_;rintro D vs u ⟨σ,hP,hW⟩ h0 hC hp ac hb K hK
   rcases g2 with _|_
   ·have s0:ac.tmps[0]?.getD undef=.pointer (some ⟨b,0,none⟩):=by rw[hb];kernel_rfl
    have s37:=AnyO.slot 37 hb (by kernel_rfl) (hP 20 (hp 20 (by decide)))
    rw[if_neg (AnyO.wanted_not (g:=20) (t:=37) (want:=true) rfl rfl s37 (fun e=>by cases e))]
    exact hK undef _ (AnyO.InvG.step (g:=σ) hP rfl hW)
   ·have s0:ac.tmps[0]?.getD undef=.pointer (some ⟨b,0,none⟩):=by rw[hb];kernel_rfl
    have s37:=AnyO.slot 37 hb (by kernel_rfl) (hP 20 (hp 20 (by decide)))
    rw[if_pos (AnyO.wanted_some (g:=20) (t:=37) (want:=true) rfl rfl s37)]
    clear hb hp
    clear hC h0;have HPW:=Lib.hid (And.intro hP hW);clear hP hW;go_simp;exact hK _ _ (AnyO.InvG.step (g:=σ) HPW.out.1 rfl HPW.out.2)
  ·refine AnyO.StepI.mk rfl [21,20] (by kernel_rfl) ?_;rintro D vs u ⟨σ,hP,hW⟩ h0 hC hp ac hb K hK
   rcases g2 with _|_
   ·have s38:ac.tmps[38]?.getD undef=undef:=by rw[hb];exact (show _=vs 21 by kernel_rfl).trans (show vs 21=undef from hP 21 (hp 21 (by decide)))
    have s37:=AnyO.slot 37 hb (by kernel_rfl) (hP 20 (hp 20 (by decide)))
    rw[if_neg (AnyO.wanted_not (g:=20) (t:=37) (want:=true) rfl rfl s37 (fun e=>by cases e))]
    exact hK undef _ (AnyO.InvG.step (g:=σ) hP rfl hW)
   ·have s38:ac.tmps[38]?.getD undef=.pointer (some ⟨b,0,none⟩):=by rw[hb];exact (show _=vs 21 by kernel_rfl).trans (show vs 21=.pointer (some ⟨b,0,none⟩) from hP 21 (hp 21 (by decide)))
    have s37:=AnyO.slot 37 hb (by kernel_rfl) (hP 20 (hp 20 (by decide)))
    rw[if_pos (AnyO.wanted_some (g:=20) (t:=37) (want:=true) rfl rfl s37)]
    clear hb hp
    clear hC h0;have HPW:=Lib.hid (And.intro hP hW);clear hP hW;go_simp;exact hK _ _ (AnyO.InvG.step (g:=σ) HPW.out.1 rfl HPW.out.2)
  ·refine AnyO.StepI.mk rfl [22,20] (by kernel_rfl) ?_;rintro D vs u ⟨σ,hP,hW⟩ h0 hC hp ac hb K hK
   rcases g2 with _|_
   ·have s39:ac.tmps[39]?.getD undef=undef:=by rw[hb];exact (show _=vs 22 by kernel_rfl).trans (show vs 22=undef from hP 22 (hp 22 (by decide)))
    have s37:=AnyO.slot 37 hb (by kernel_rfl) (hP 20 (hp 20 (by decide)))
    rw[if_neg (AnyO.wanted_not (g:=20) (t:=37) (want:=true) rfl rfl s37 (fun e=>by cases e))]
    exact hK undef _ (AnyO.InvG.step (g:=σ) hP rfl hW)
   ·have s39:ac.tmps[39]?.getD undef=.pointer (some ⟨b,0,none⟩):=by rw[hb];exact (show _=vs 22 by kernel_rfl).trans (show vs 22=.pointer (some ⟨b,0,none⟩) from hP 22 (hp 22 (by decide)))
    have s37:=AnyO.slot 37 hb (by kernel_rfl) (hP 20 (hp 20 (by decide)))
    rw[if_pos (AnyO.wanted_some (g:=20) (t:=37) (want:=true) rfl rfl s37)]
    clear hb hp
    clear hC h0;have HPW:=Lib.hid (And.intro hP hW);clear hP hW;go_simp;exact hK _ _ (AnyO.InvG.step (g:=σ) HPW.out.1 rfl HPW.out.2)
  ·refine AnyO.StepI.mk rfl [23,20] (by kernel_rfl) ?_;rintro D vs u ⟨σ,hP,hW⟩ h0 hC hp ac hb K hK
   rcases g2 with _|_
   ·have s40:ac.tmps[40]?.getD undef=undef:=by rw[hb];exact (show _=vs 23 by kernel_rfl).trans (show vs 23=undef from hP 23 (hp 23 (by decide)))
    have s37:=AnyO.slot 37 hb (by kernel_rfl) (hP 20 (hp 20 (by decide)))
    rw[if_neg (AnyO.wanted_not (g:=20) (t:=37) (want:=true) rfl rfl s37 (fun e=>by cases e))]
    exact hK undef _ (AnyO.InvG.step (g:=σ) hP rfl hW)
   ·have s40:ac.tmps[40]?.getD undef=.pointer (some ⟨b,2,none⟩):=by rw[hb];exact (show _=vs 23 by kernel_rfl).trans (show vs 23=.pointer (some ⟨b,2,none⟩) from hP 23 (hp 23 (by decide)))
    have s37:=AnyO.slot 37 hb (by kernel_rfl) (hP 20 (hp 20 (by decide)))
    rw[if_pos (AnyO.wanted_some (g:=20) (t:=37) (want:=true) rfl rfl s37)]
    clear hb hp
    have rr:=(HS.out.keep hW).c2
    rw[HN.out.1] at rr
    clear hC h0;have HPW:=Lib.hid (And.intro hP hW);clear hP hW;go_simp;exact hK _ _ (AnyO.InvG.step (g:=σ) HPW.out.1 rfl HPW.out.2)
  ·refine AnyO.StepI.mk rfl [20] (by kernel_rfl) ?_;rintro D vs u ⟨σ,hP,hW⟩ h0 hC hp ac hb K hK
   rcases g2 with _|_
   ·have s1:ac.tmps[1]?.getD undef=.pointer (some ⟨d,0,none⟩):=by rw[hb];kernel_rfl
    have s37:=AnyO.slot 37 hb (by kernel_rfl) (hP 20 (hp 20 (by decide)))
    rw[if_neg (AnyO.wanted_not (g:=20) (t:=37) (want:=true) rfl rfl s37 (fun e=>by cases e))]
    exact hK undef _ (AnyO.InvG.step (g:=σ) hP rfl hW)
   ·have s1:ac.tmps[1]?.getD undef=.pointer (some ⟨d,0,none⟩):=by rw[hb];kernel_rfl
    have s37:=AnyO.slot 37 hb (by kernel_rfl) (hP 20 (hp 20 (by decide)))
    rw[if_pos (AnyO.wanted_some (g:=20) (t:=37) (want:=true) rfl rfl s37)]
    clear hb hp
    clear hC h0;have HPW:=Lib.hid (And.intro hP hW);clear hP hW;go_simp;exact hK _ _ (AnyO.InvG.step (g:=σ) HPW.out.1 rfl HPW.out.2)
  ·refine AnyO.StepI.mk rfl [25,20] (by kernel_rfl) ?_;rintro D vs u ⟨σ,hP,hW⟩ h0 hC hp ac hb K hK
   rcases g2 with _|_
   ·have s42:ac.tmps[42]?.getD undef=undef:=by rw[hb];exact (show _=vs 25 by kernel_rfl).trans (show vs 25=undef from hP 25 (hp 25 (by decide)))
    have s37:=AnyO.slot 37 hb (by kernel_rfl) (hP 20 (hp 20 (by decide)))
    rw[if_neg (AnyO.wanted_not (g:=20) (t:=37) (want:=true) rfl rfl s37 (fun e=>by cases e))]
    exact hK undef _ (AnyO.InvG.step (g:=σ) hP rfl hW)
   ·have s42:ac.tmps[42]?.getD undef=.pointer (some ⟨d,0,none⟩):=by rw[hb];exact (show _=vs 25 by kernel_rfl).trans (show vs 25=.pointer (some ⟨d,0,none⟩) from hP 25 (hp 25 (by decide)))
    have s37:=AnyO.slot 37 hb (by kernel_rfl) (hP 20 (hp 20 (by decide)))
    rw[if_pos (AnyO.wanted_some (g:=20) (t:=37) (want:=true) rfl rfl s37)]
    clear hb hp
    clear hC h0;have HPW:=Lib.hid (And.intro hP hW);clear hP hW;go_simp;exact hK _ _ (AnyO.InvG.step (g:=σ) HPW.out.1 rfl HPW.out.2)
  ·refine AnyO.StepI.mk rfl [26,20] (by kernel_rfl) ?_;rintro D vs u ⟨σ,hP,hW⟩ h0 hC hp ac hb K hK
   rcases g2 with _|_
   ·have s43:ac.tmps[43]?.getD undef=undef:=by rw[hb];exact (show _=vs 26 by kernel_rfl).trans (show vs 26=undef from hP 26 (hp 26 (by decide)))
    have s37:=AnyO.slot 37 hb (by kernel_rfl) (hP 20 (hp 20 (by decide)))
    rw[if_neg (AnyO.wanted_not (g:=20) (t:=37) (want:=true) rfl rfl s37 (fun e=>by cases e))]
    exact hK undef _ (AnyO.InvG.step (g:=σ) hP rfl hW)
   ·have s43:ac.tmps[43]?.getD undef=.pointer (some ⟨d,0,none⟩):=by rw[hb];exact (show _=vs 26 by kernel_rfl).trans (show vs 26=.pointer (some ⟨d,0,none⟩) from hP 26 (hp 26 (by decide)))
    have s37:=AnyO.slot 37 hb (by kernel_rfl) (hP 20 (hp 20 (by decide)))
    rw[if_pos (AnyO.wanted_some (g:=20) (t:=37) (want:=true) rfl rfl s37)]
    clear hb hp
    clear hC h0;have HPW:=Lib.hid (And.intro hP hW);clear hP hW;go_simp;exact hK _ _ (AnyO.InvG.step (g:=σ) HPW.out.1 rfl HPW.out.2)
  ·refine AnyO.StepI.mk rfl [27,20] (by kernel_rfl) ?_;rintro D vs u ⟨σ,hP,hW⟩ h0 hC hp ac hb K hK
   rcases g2 with _|_
   ·have s44:ac.tmps[44]?.getD undef=undef:=by rw[hb];exact (show _=vs 27 by kernel_rfl).trans (show vs 27=undef from hP 27 (hp 27 (by decide)))
    have s37:=AnyO.slot 37 hb (by kernel_rfl) (hP 20 (hp 20 (by decide)))
    rw[if_neg (AnyO.wanted_not (g:=20) (t:=37) (want:=true) rfl rfl s37 (fun e=>by cases e))]
    exact hK undef _ (AnyO.InvG.step (g:=σ) hP rfl hW)
   ·have s44:ac.tmps[44]?.getD undef=.pointer (some ⟨d,2,none⟩):=by rw[hb];exact (show _=vs 27 by kernel_rfl).trans (show vs 27=.pointer (some ⟨d,2,none⟩) from hP 27 (hp 27 (by decide)))
    have s37:=AnyO.slot 37 hb (by kernel_rfl) (hP 20 (hp 20 (by decide)))
    rw[if_pos (AnyO.wanted_some (g:=20) (t:=37) (want:=true) rfl rfl s37)]
    clear hb hp
    have rr:=(HU.out.keep hW).c2
    rw[HN.out.2.2.1] at rr
    clear hC h0;have HPW:=Lib.hid (And.intro hP hW);clear hP hW;go_simp;exact hK _ _ (AnyO.InvG.step (g:=σ) HPW.out.1 rfl HPW.out.2)
  ·refine AnyO.StepI.mk rfl [24,28,20,20] (by kernel_rfl) ?_;rintro D vs u ⟨σ,hP,hW⟩ h0 hC hp ac hb K hK
   rcases g2 with _|_
   ·have s41:ac.tmps[41]?.getD undef=undef:=by rw[hb];exact (show _=vs 24 by kernel_rfl).trans (show vs 24=undef from hP 24 (hp 24 (by decide)))
    have s45:=AnyO.slot 45 hb (by kernel_rfl) (hP 28 (hp 28 (by decide)))
    have s37:=AnyO.slot 37 hb (by kernel_rfl) (hP 20 (hp 20 (by decide)))
    rw[if_neg (AnyO.wanted_not (g:=20) (t:=37) (want:=true) rfl rfl s37 (fun e=>by cases e))]
    exact hK undef _ (AnyO.InvG.step (g:=σ) hP rfl hW)
   ·have s41:ac.tmps[41]?.getD undef=.slice va.1 na va.2.2:=by rw[hb];exact (show _=vs 24 by kernel_rfl).trans (show vs 24=.slice va.1 na va.2.2 from hP 24 (hp 24 (by decide)))
    have s45:=AnyO.slot 45 hb (by kernel_rfl) (hP 28 (hp 28 (by decide)))
    have s37:=AnyO.slot 37 hb (by kernel_rfl) (hP 20 (hp 20 (by decide)))
    rw[if_pos (AnyO.wanted_some (g:=20) (t:=37) (want:=true) rfl rfl s37)]
    clear hb hp
    clear hC h0;have HPW:=Lib.hid (And.intro hP hW);clear hP hW;go_simp;obtain⟨hP,hW⟩:=HPW.out
    go_at_call 48
    refine (equal48 va.1 ua.1 na ma va.2.2 ua.2.2 s.act t.act u HM.out.1 HM.out.2.2.1 (HS.out.keep hW).oa.slOf (HU.out.keep hW).oa.slOf HM.out.2.2.2.2.1).mono ?_
    rw[HQ.out.1]
    rintro e w2 ⟨rfl,hb2⟩
    exact hK _ _ (AnyO.InvG.step (g:=σ) hP rfl (Below.step hW hb2))
  ·refine AnyO.StepI.mk rfl [20,29] (by kernel_rfl) ?_;rintro D vs u ⟨σ,hP,hW⟩ h0 hC hp ac hb K hK
   rcases g2 with _|_
   ·have s37:ac.tmps[37]?.getD undef=.bool false:=by rw[hb];exact (show _=vs 20 by kernel_rfl).trans (show vs 20=.bool false from hP 20 (hp 20 (by decide)))
    have s46:=AnyO.slot 46 hb (by kernel_rfl) (hP 29 (hp 29 (by decide)))
    rw[if_pos (AnyO.wanted_none rfl)];clear hb hp
    clear hC h0;have HPW:=Lib.hid (And.intro hP hW);clear hP hW;go_simp;obtain⟨hP,hW⟩:=HPW.out
    exact hK _ _ (AnyO.InvG.step (g:=σ) hP (show _=Value.bool g3 by rw[← HG.out.2.1];rfl) hW)
   ·have s37:ac.tmps[37]?.getD undef=.bool true:=by rw[hb];exact (show _=vs 20 by kernel_rfl).trans (show vs 20=.bool true from hP 20 (hp 20 (by decide)))
    have s46:=AnyO.slot 46 hb (by kernel_rfl) (hP 29 (hp 29 (by decide)))
    rw[if_pos (AnyO.wanted_none rfl)];clear hb hp
    clear hC h0;have HPW:=Lib.hid (And.intro hP hW);clear hP hW;go_simp;obtain⟨hP,hW⟩:=HPW.out
    exact hK _ _ (AnyO.InvG.step (g:=σ) hP (show _=Value.bool g3 by rw[← HG.out.2.1];rfl) hW)
  ·refine AnyO.StepI.mk rfl [31] (by kernel_rfl) ?_;rintro D vs u ⟨σ,hP,hW⟩ h0 hC hp ac hb K hK
   rcases g3 with _|_
   ·have s0:ac.tmps[0]?.getD undef=.pointer (some ⟨b,0,none⟩):=by rw[hb];kernel_rfl
    have s48:=AnyO.slot 48 hb (by kernel_rfl) (hP 31 (hp 31 (by decide)))
    rw[if_neg (AnyO.wanted_not (g:=31) (t:=48) (want:=true) rfl rfl s48 (fun e=>by cases e))]
    exact hK undef _ (AnyO.InvG.step (g:=σ) hP rfl hW)
   ·have s0:ac.tmps[0]?.getD undef=.pointer (some ⟨b,0,none⟩):=by rw[hb];kernel_rfl
    have s48:=AnyO.slot 48 hb (by kernel_rfl) (hP 31 (hp 31 (by decide)))
    rw[if_pos (AnyO.wanted_some (g:=31) (t:=48) (want:=true) rfl rfl s48)]
    clear hb hp
    clear hC h0;have HPW:=Lib.hid (And.intro hP hW);clear hP hW;go_simp;exact hK _ _ (AnyO.InvG.step (g:=σ) HPW.out.1 rfl HPW.out.2)
  ·refine AnyO.StepI.mk rfl [32,31] (by kernel_rfl) ?_;rintro D vs u ⟨σ,hP,hW⟩ h0 hC hp ac hb K hK
   rcases g3 with _|_
   ·have s49:ac.tmps[49]?.getD undef=undef:=by rw[hb];exact (show _=vs 32 by kernel_rfl).trans (show vs 32=undef from hP 32 (hp 32 (by decide)))
    have s48:=AnyO.slot 48 hb (by kernel_rfl) (hP 31 (hp 31 (by decide)))
    rw[if_neg (AnyO.wanted_not (g:=31) (t:=48) (want:=true) rfl rfl s48 (fun e=>by cases e))]
    exact hK undef _ (AnyO.InvG.step (g:=σ) hP rfl hW)
   ·have s49:ac.tmps[49]?.getD undef=.pointer (some ⟨b,0,none⟩):=by rw[hb];exact (show _=vs 32 by kernel_rfl).trans (show vs 32=.pointer (some ⟨b,0,none⟩) from hP 32 (hp 32 (by decide)))
    have s48:=AnyO.slot 48 hb (by kernel_rfl) (hP 31 (hp 31 (by decide)))
    rw[if_pos (AnyO.wanted_some (g:=31) (t:=48) (want:=true) rfl rfl s48)]
    clear hb hp
    clear hC h0;have HPW:=Lib.hid (And.intro hP hW);clear hP hW;go_simp;exact hK _ _ (AnyO.InvG.step (g:=σ) HPW.out.1 rfl HPW.out.2)
  ·refine AnyO.StepI.mk rfl [33,31] (by kernel_rfl) ?_;rintro D vs u ⟨σ,hP,hW⟩ h0 hC hp ac hb K hK
   rcases g3 with _|_
   ·have s50:ac.tmps[50]?.getD undef=undef:=by rw[hb];exact (show _=vs 33 by kernel_rfl).trans (show vs 33=undef from hP 33 (hp 33 (by decide)))
    have s48:=AnyO.slot 48 hb (by kernel_rfl) (hP 31 (hp 31 (by decide)))
    rw[if_neg (AnyO.wanted_not (g:=31) (t:=48) (want:=true) rfl rfl s48 (fun e=>by cases e))]
    exact hK undef _ (AnyO.InvG.step (g:=σ) hP rfl hW)
   ·have s50:ac.tmps[50]?.getD undef=.pointer (some ⟨b,0,none⟩):=by rw[hb];exact (show _=vs 33 by kernel_rfl).trans (show vs 33=.pointer (some ⟨b,0,none⟩) from hP 33 (hp 33 (by decide)))
    have s48:=AnyO.slot 48 hb (by kernel_rfl) (hP 31 (hp 31 (by decide)))
    rw[if_pos (AnyO.wanted_some (g:=31) (t:=48) (want:=true) rfl rfl s48)]
    clear hb hp
    clear hC h0;have HPW:=Lib.hid (And.intro hP hW);clear hP hW;go_simp;exact hK _ _ (AnyO.InvG.step (g:=σ) HPW.out.1 rfl HPW.out.2)
  ·refine AnyO.StepI.mk rfl [34,31] (by kernel_rfl) ?_;rintro D vs u ⟨σ,hP,hW⟩ h0 hC hp ac hb K hK
   rcases g3 with _|_
   ·have s51:ac.tmps[51]?.getD undef=undef:=by rw[hb];exact (show _=vs 34 by kernel_rfl).trans (show vs 34=undef from hP 34 (hp 34 (by decide)))
    have s48:=AnyO.slot 48 hb (by kernel_rfl) (hP 31 (hp 31 (by decide)))
    rw[if_neg (AnyO.wanted_not (g:=31) (t:=48) (want:=true) rfl rfl s48 (fun e=>by cases e))]
    exact hK undef _ (AnyO.InvG.step (g:=σ) hP rfl hW)
   ·have s51:ac.tmps[51]?.getD undef=.pointer (some ⟨b,3,none⟩):=by rw[hb];exact (show _=vs 34 by kernel_rfl).trans (show vs 34=.pointer (some ⟨b,3,none⟩) from hP 34 (hp 34 (by decide)))
    have s48:=AnyO.slot 48 hb (by kernel_rfl) (hP 31 (hp 31 (by decide)))
    rw[if_pos (AnyO.wanted_some (g:=31) (t:=48) (want:=true) rfl rfl s48)]
    clear hb hp
    have rr:=(HS.out.keep hW).c3
    rw[HN.out.2.1] at rr
    clear hC h0;have HPW:=Lib.hid (And.intro hP hW);clear hP hW;go_simp;exact hK _ _ (AnyO.InvG.step (g:=σ) HPW.out.1 rfl HPW.out.2)
  ·refine AnyO.StepI.mk rfl [31] (by kernel_rfl) ?_;rintro D vs u ⟨σ,hP,hW⟩ h0 hC hp ac hb K hK
   rcases g3 with _|_
   ·have s1:ac.tmps[1]?.getD undef=.pointer (some ⟨d,0,none⟩):=by rw[hb];kernel_rfl
    have s48:=AnyO.slot 48 hb (by kernel_rfl) (hP 31 (hp 31 (by decide)))
    rw[if_neg (AnyO.wanted_not (g:=31) (t:=48) (want:=true) rfl rfl s48 (fun e=>by cases e))]
    exact hK undef _ (AnyO.InvG.step (g:=σ) hP rfl hW)
   ·have s1:ac.tmps[1]?.getD undef=.pointer (some ⟨d,0,none⟩):=by rw[hb];kernel_rfl
    have s48:=AnyO.slot 48 hb (by kernel_rfl) (hP 31 (hp 31 (by decide)))
    rw[if_pos (AnyO.wanted_some (g:=31) (t:=48) (want:=true) rfl rfl s48)]
    clear hb hp
    clear hC h0;have HPW:=Lib.hid (And.intro hP hW);clear hP hW;go_simp;exact hK _ _ (AnyO.InvG.step (g:=σ) HPW.out.1 rfl HPW.out.2)
  ·refine AnyO.StepI.mk rfl [36,31] (by kernel_rfl) ?_;rintro D vs u ⟨σ,hP,hW⟩ h0 hC hp ac hb K hK
   rcases g3 with _|_
   ·have s53:ac.tmps[53]?.getD undef=undef:=by rw[hb];exact (show _=vs 36 by kernel_rfl).trans (show vs 36=undef from hP 36 (hp 36 (by decide)))
    have s48:=AnyO.slot 48 hb (by kernel_rfl) (hP 31 (hp 31 (by decide)))
    rw[if_neg (AnyO.wanted_not (g:=31) (t:=48) (want:=true) rfl rfl s48 (fun e=>by cases e))]
    exact hK undef _ (AnyO.InvG.step (g:=σ) hP rfl hW)
   ·have s53:ac.tmps[53]?.getD undef=.pointer (some ⟨d,0,none⟩):=by rw[hb];exact (show _=vs 36 by kernel_rfl).trans (show vs 36=.pointer (some ⟨d,0,none⟩) from hP 36 (hp 36 (by decide)))
    have s48:=AnyO.slot 48 hb (by kernel_rfl) (hP 31 (hp 31 (by decide)))
    rw[if_pos (AnyO.wanted_some (g:=31) (t:=48) (want:=true) rfl rfl s48)]
    clear hb hp
    clear hC h0;have HPW:=Lib.hid (And.intro hP hW);clear hP hW;go_simp;exact hK _ _ (AnyO.InvG.step (g:=σ) HPW.out.1 rfl HPW.out.2)
  ·refine AnyO.StepI.mk rfl [37,31] (by kernel_rfl) ?_;rintro D vs u ⟨σ,hP,hW⟩ h0 hC hp ac hb K hK
   rcases g3 with _|_
   ·have s54:ac.tmps[54]?.getD undef=undef:=by rw[hb];exact (show _=vs 37 by kernel_rfl).trans (show vs 37=undef from hP 37 (hp 37 (by decide)))
    have s48:=AnyO.slot 48 hb (by kernel_rfl) (hP 31 (hp 31 (by decide)))
    rw[if_neg (AnyO.wanted_not (g:=31) (t:=48) (want:=true) rfl rfl s48 (fun e=>by cases e))]
    exact hK undef _ (AnyO.InvG.step (g:=σ) hP rfl hW)
   ·have s54:ac.tmps[54]?.getD undef=.pointer (some ⟨d,0,none⟩):=by rw[hb];exact (show _=vs 37 by kernel_rfl).trans (show vs 37=.pointer (some ⟨d,0,none⟩) from hP 37 (hp 37 (by decide)))
    have s48:=AnyO.slot 48 hb (by kernel_rfl) (hP 31 (hp 31 (by decide)))
    rw[if_pos (AnyO.wanted_some (g:=31) (t:=48) (want:=true) rfl rfl s48)]
    clear hb hp
    clear hC h0;have HPW:=Lib.hid (And.intro hP hW);clear hP hW;go_simp;exact hK _ _ (AnyO.InvG.step (g:=σ) HPW.out.1 rfl HPW.out.2)
  ·refine AnyO.StepI.mk rfl [38,31] (by kernel_rfl) ?_;rintro D vs u ⟨σ,hP,hW⟩ h0 hC hp ac hb K hK
   rcases g3 with _|_
   ·have s55:ac.tmps[55]?.getD undef=undef:=by rw[hb];exact (show _=vs 38 by kernel_rfl).trans (show vs 38=undef from hP 38 (hp 38 (by decide)))
    have s48:=AnyO.slot 48 hb (by kernel_rfl) (hP 31 (hp 31 (by decide)))
    rw[if_neg (AnyO.wanted_not (g:=31) (t:=48) (want:=true) rfl rfl s48 (fun e=>by cases e))]
    exact hK undef _ (AnyO.InvG.step (g:=σ) hP rfl hW)
   ·have s55:ac.tmps[55]?.getD undef=.pointer (some ⟨d,3,none⟩):=by rw[hb];exact (show _=vs 38 by kernel_rfl).trans (show vs 38=.pointer (some ⟨d,3,none⟩) from hP 38 (hp 38 (by decide)))
    have s48:=AnyO.slot 48 hb (by kernel_rfl) (hP 31 (hp 31 (by decide)))
    rw[if_pos (AnyO.wanted_some (g:=31) (t:=48) (want:=true) rfl rfl s48)]
    clear hb hp
    have rr:=(HU.out.keep hW).c3
    rw[HN.out.2.2.2] at rr
    clear hC h0;have HPW:=Lib.hid (And.intro hP hW);clear hP hW;go_simp;exact hK _ _ (AnyO.InvG.step (g:=σ) HPW.out.1 rfl HPW.out.2)
  ·refine AnyO.StepI.mk rfl [35,39,31,31] (by kernel_rfl) ?_;rintro D vs u ⟨σ,hP,hW⟩ h0 hC hp ac hb K hK
   rcases g3 with _|_
   ·have s52:ac.tmps[52]?.getD undef=undef:=by rw[hb];exact (show _=vs 35 by kernel_rfl).trans (show vs 35=undef from hP 35 (hp 35 (by decide)))
    have s56:=AnyO.slot 56 hb (by kernel_rfl) (hP 39 (hp 39 (by decide)))
    have s48:=AnyO.slot 48 hb (by kernel_rfl) (hP 31 (hp 31 (by decide)))
    rw[if_neg (AnyO.wanted_not (g:=31) (t:=48) (want:=true) rfl rfl s48 (fun e=>by cases e))]
    exact hK undef _ (AnyO.InvG.step (g:=σ) hP rfl hW)
   ·have s52:ac.tmps[52]?.getD undef=.slice vk.1 nk vk.2.2:=by rw[hb];exact (show _=vs 35 by kernel_rfl).trans (show vs 35=.slice vk.1 nk vk.2.2 from hP 35 (hp 35 (by decide)))
    have s56:=AnyO.slot 56 hb (by kernel_rfl) (hP 39 (hp 39 (by decide)))
    have s48:=AnyO.slot 48 hb (by kernel_rfl) (hP 31 (hp 31 (by decide)))
    rw[if_pos (AnyO.wanted_some (g:=31) (t:=48) (want:=true) rfl rfl s48)]
    clear hb hp
    clear hC h0;have HPW:=Lib.hid (And.intro hP hW);clear hP hW;go_simp;obtain⟨hP,hW⟩:=HPW.out
    go_at_call 48
    refine (equal48 vk.1 uk.1 nk mk vk.2.2 uk.2.2 s.kept t.kept u HM.out.2.1 HM.out.2.2.2.1 (HS.out.keep hW).ok.slOf (HU.out.keep hW).ok.slOf HM.out.2.2.2.2.2).mono ?_
    rw[HQ.out.2]
    rintro e w2 ⟨rfl,hb2⟩
    exact hK _ _ (AnyO.InvG.step (g:=σ) hP rfl (Below.step hW hb2))
  ·refine AnyO.StepI.mk rfl [31,40] (by kernel_rfl) ?_;rintro D vs u ⟨σ,hP,hW⟩ h0 hC hp ac hb K hK
   rcases g3 with _|_
   ·have s48:ac.tmps[48]?.getD undef=.bool false:=by rw[hb];exact (show _=vs 31 by kernel_rfl).trans (show vs 31=.bool false from hP 31 (hp 31 (by decide)))
    have s57:=AnyO.slot 57 hb (by kernel_rfl) (hP 40 (hp 40 (by decide)))
    rw[if_pos (AnyO.wanted_none rfl)];clear hb hp
    clear hC h0;have HPW:=Lib.hid (And.intro hP hW);clear hP hW;go_simp;obtain⟨hP,hW⟩:=HPW.out
    exact hK _ _ (AnyO.InvG.step (g:=σ) hP (show _=Value.bool g4 by rw[← HG.out.2.2];rfl) hW)
   ·have s48:ac.tmps[48]?.getD undef=.bool true:=by rw[hb];exact (show _=vs 31 by kernel_rfl).trans (show vs 31=.bool true from hP 31 (hp 31 (by decide)))
    have s57:=AnyO.slot 57 hb (by kernel_rfl) (hP 40 (hp 40 (by decide)))
    rw[if_pos (AnyO.wanted_none rfl)];clear hb hp
    clear hC h0;have HPW:=Lib.hid (And.intro hP hW);clear hP hW;go_simp;obtain⟨hP,hW⟩:=HPW.out
    exact hK _ _ (AnyO.InvG.step (g:=σ) hP (show _=Value.bool g4 by rw[← HG.out.2.2];rfl) hW)
  all_goals
   refine AnyO.J rfl ?_;rintro D vs u σ Q h0 hC hp ac hb K hK
   try have s0:ac.tmps[0]?.getD undef=.pointer (some ⟨b,0,none⟩):=by rw[hb.out];kernel_rfl
   try have s17:_=_:=AnyO.sv 17 0 hb hp Q
   try have s18:_=_:=AnyO.sv 18 1 hb hp Q
   try have s19:_=_:=AnyO.sv 19 2 hb hp Q
   try have s1:ac.tmps[1]?.getD undef=.pointer (some ⟨d,0,none⟩):=by rw[hb.out];kernel_rfl
   try have s21:_=_:=AnyO.sv 21 4 hb hp Q
   try have s22:_=_:=AnyO.sv 22 5 hb hp Q
   try have s23:_=_:=AnyO.sv 23 6 hb hp Q
   try have s20:_=_:=AnyO.sv 20 3 hb hp Q
   try have s24:_=_:=AnyO.sv 24 7 hb hp Q
   try have s25:_=_:=AnyO.sv 25 8 hb hp Q
   try have s36:_=_:=AnyO.sv 36 19 hb hp Q
   try have s47:_=_:=AnyO.sv 47 30 hb hp Q
   try have s58:_=_:=AnyO.sv 58 41 hb hp Q
   have rr_0:=(HS.out.keep Q.out.2).c0
   rw[HW9.out.1] at rr_0
   have rr_1:=(HU.out.keep Q.out.2).c0
   rw[HW9.out.2.1] at rr_1
   go_simp
   exact hK _ _ (AnyO.InvG.step (g:=σ) Q.out.1 rfl Q.out.2)
 ·intro D vs u hI hD
  obtain⟨σ,hP,hW⟩:=hI
  have e0:_=_:=hP 0 (hD 0 (by decide))
  have e1:_=_:=hP 1 (hD 1 (by decide))
  have e2:_=_:=hP 2 (hD 2 (by decide))
  have e3:_=_:=hP 3 (hD 3 (by decide))
  have e4:_=_:=hP 4 (hD 4 (by decide))
  have e5:_=_:=hP 5 (hD 5 (by decide))
  have e6:_=_:=hP 6 (hD 6 (by decide))
  have e7:_=_:=hP 7 (hD 7 (by decide))
  have e8:_=_:=hP 8 (hD 8 (by decide))
  have e9:_=_:=hP 9 (hD 9 (by decide))
  have e10:_=_:=hP 10 (hD 10 (by decide))
  have e11:_=_:=hP 11 (hD 11 (by decide))
  have e12:_=_:=hP 12 (hD 12 (by decide))
  have e13:_=_:=hP 13 (hD 13 (by decide))
  have e14:_=_:=hP 14 (hD 14 (by decide))
  have e15:_=_:=hP 15 (hD 15 (by decide))
  have e16:_=_:=hP 16 (hD 16 (by decide))
  have e17:_=_:=hP 17 (hD 17 (by decide))
  have e18:_=_:=hP 18 (hD 18 (by decide))
  have e19:_=_:=hP 19 (hD 19 (by decide))
  have e20:_=_:=hP 20 (hD 20 (by decide))
  have e21:_=_:=hP 21 (hD 21 (by decide))
  have e22:_=_:=hP 22 (hD 22 (by decide))
  have e23:_=_:=hP 23 (hD 23 (by decide))
  have e24:_=_:=hP 24 (hD 24 (by decide))
  have e25:_=_:=hP 25 (hD 25 (by decide))
  have e26:_=_:=hP 26 (hD 26 (by decide))
  have e27:_=_:=hP 27 (hD 27 (by decide))
  have e28:_=_:=hP 28 (hD 28 (by decide))
  have e29:_=_:=hP 29 (hD 29 (by decide))
  have e30:_=_:=hP 30 (hD 30 (by decide))
  have e31:_=_:=hP 31 (hD 31 (by decide))
  have e32:_=_:=hP 32 (hD 32 (by decide))
  have e33:_=_:=hP 33 (hD 33 (by decide))
  have e34:_=_:=hP 34 (hD 34 (by decide))
  have e35:_=_:=hP 35 (hD 35 (by decide))
  have e36:_=_:=hP 36 (hD 36 (by decide))
  have e37:_=_:=hP 37 (hD 37 (by decide))
  have e38:_=_:=hP 38 (hD 38 (by decide))
  have e39:_=_:=hP 39 (hD 39 (by decide))
  have e40:_=_:=hP 40 (hD 40 (by decide))
  have e41:_=_:=hP 41 (hD 41 (by decide))
  have e42:_=_:=hP 42 (hD 42 (by decide))
  have HST:=Lib.hid hW
  have HW:=Lib.hid hW
  clear hW hP hD
  rw[puts_range [some 17,some 18,some 19,some 20,some 21,some 22,some 23,some 24,some 25,some 26,some 27,some 28,some 29,some 30,some 31,some 32,some 33,some 34,some 35,some 36,some 37,some 38,some 39,some 40,some 41,some 42,some 43,some 44,some 45,some 46,some 47,some 48,some 49,some 50,some 51,some 52,some 53,some 54,some 55,some 56,some 57,some 58,some 4] (by kernel_rfl)]
  simp only[putL,Nat.reduceAdd,e0,e1,e2,e3,e4,e5,e6,e7,e8,e9,e10,e11,e12,e13,e14,e15,e16,e17,e18,e19,e20,e21,e22,e23,e24,e25,e26,e27,e28,e29,e30,e31,e32,e33,e34,e35,e36,e37,e38,e39,e40,e41,e42]
  clear e0 e1 e2 e3 e4 e5 e6 e7 e8 e9 e10 e11 e12 e13 e14 e15 e16 e17 e18 e19 e20 e21 e22 e23 e24 e25 e26 e27 e28 e29 e30 e31 e32 e33 e34 e35 e36 e37 e38 e39 e40 e41 e42
  go_simp
  go_wp2
  go_ret
  exact⟨rfl,HST.out⟩
end Go.Proofs.YtgojaelkdpabkaaGreatDoor
