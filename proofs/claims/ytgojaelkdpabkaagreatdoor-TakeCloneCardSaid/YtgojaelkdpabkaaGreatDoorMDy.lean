/- A taker beside the law's own memory: Accepted, Cancel, Forget. -/
import Derived.Test.YtgojaelkdpabkaaGreatDoorMTkB
import Derived.Test.YtgojaelkdpabkaaGreatDoorMAcc
import Derived.Test.YtgojaelkdpabkaaGreatDoorMRfa
import Derived.Test.YtgojaelkdpabkaaGreatDoorMRfb
namespace Go.Proofs.YtgojaelkdpabkaaGreatDoor
open Go.RowKit
theorem TkI.accepted {s:Tk} (h:TkI s) (x:Id) (n:Int):TkI (acceptedT s x n).1:=by
 unfold acceptedT
 split
 ·exact h
 split
 ·exact h
 split
 ·exact h
 ·exact h.lessA x
theorem TkI.cancelled {s:Tk} (h:TkI s) (x:Id):TkI (cancelT s x).1:=by
 unfold cancelT
 split
 ·exact h
 rename_i k hp
 obtain⟨hk,hid,_⟩:=pos_some hp
 split
 ·exact h
 have hl:=h.lessA x
 have ha:=h.ast _ (List.getElem_mem hk)
 rw[ptK_eq hk]
 refine⟨hl.win1,hl.win64,hl.act,keepP_len _ _ h.kept,hl.shut,fun p hp=>?_,hl.ast,fun p hp q hq e=>?_,hl.nda,nd_keepP _ h.ndk⟩
 ·rcases keepP_mem hp with h1|⟨rfl,_,h2⟩
  ·exact h.kst p h1
  ·exact⟨rfl,h2,ha.2.2.2⟩
 ·rcases keepP_mem hq with h1|⟨rfl,_,_⟩
  ·exact h.two p (mem_without.1 hp).1 q h1 e
  ·exact absurd (e.trans hid) (mem_without.1 hp).2
theorem TkI.forgotten {s:Tk} (h:TkI s) (x:Id):TkI (forgetT s x).1:=by
 unfold forgetT
 split
 ·exact h
 ·exact h.lessK x
section
variable {w0 w : World} {b : Nat} {s : Tk} {F : List Nat}
theorem TkB.accepted (h:TkB w0 b s F w) (x:Id) (n:Int):Calls Tryz.prog 25 #[.pointer (some ⟨b,0,none⟩),vI x,.int .i64 n] w fun e w'=>e=.returned (.tuple #[vC (acceptedT s x n).2.1,.int .i64 (acceptedT s x n).2.2])∧∃ F',TkB w0 b (acceptedT s x n).1 F' w'∧Kp F F' w w' :=
 (accepted25 b s F x n w h.tk h.inv.a100 h.inv.k100).mono fun _ _ ⟨e,F',h1,h2⟩=>by
  obtain⟨F2,a1,a2,_⟩:=h.step h1 (h.inv.accepted x n) h2
  exact⟨e,F2,a1,a2⟩
theorem TkB.cancel (h:TkB w0 b s F w) (x:Id):Calls Tryz.prog 28 #[.pointer (some ⟨b,0,none⟩),vI x] w fun e w'=>e=.returned (.tuple #[vC (cancelT s x).2.1,.int .i64 (cancelT s x).2.2])∧∃ F',TkB w0 b (cancelT s x).1 F' w'∧Kp F F' w w' :=
 (cancel28 b s F x w h.tk h.inv.a100 h.inv.kept).mono fun _ _ ⟨e,F',h1,h2⟩=>by
  obtain⟨F2,a1,a2,_⟩:=h.step h1 (h.inv.cancelled x) h2
  exact⟨e,F2,a1,a2⟩
theorem TkB.forget (h:TkB w0 b s F w) (x:Id):Calls Tryz.prog 35 #[.pointer (some ⟨b,0,none⟩),vI x] w fun e w'=>e=.returned (.bool (forgetT s x).2)∧∃ F',TkB w0 b (forgetT s x).1 F' w'∧Kp F F' w w' :=
 (forget35 b s F x w h.tk h.inv.a100 h.inv.k100).mono fun _ _ ⟨e,F',h1,h2⟩=>by
  obtain⟨F2,a1,a2,_⟩:=h.step h1 (h.inv.forgotten x) h2
  exact⟨e,F2,a1,a2⟩
end
open Go.RowKit
def stepT (s:Tk) (p:Opn):Tk :=
 if p.kind=0 then (hearT s p.cmd).1 else if p.kind=1 then (answerT s p.cmd).1 else if p.kind=2 then (acceptedT s p.cmd.id p.result).1 else if p.kind=3 then (cancelT s p.cmd.id).1 else if p.kind=4 then (forgetT s p.cmd.id).1 else if p.kind=5 then (openT s).1 else if p.kind=6 then (dropT s).1 else s
section
variable {w w' : World} {b : Nat}
theorem Row.opC {p:Opn} {t:TypeId} (h:Row w b (cO p) t):okA w ⟨b,1,none⟩ 39=true∧rdA w ⟨b,1,none⟩ 39=vC p.cmd∧w.cell? ⟨b,0,none⟩=some (.int .i64 p.kind):=by
 have:=(h.at_ (k:=0) (n:=41) (ds:=cO p) (by rw[List.drop_zero,List.take_of_length_le (by rw[cO_length];omega)])).opc
 exact this
theorem Row.opI {p:Opn} {t:TypeId} (h:Row w b (cO p) t):okA w ⟨b,3,none⟩ 32=true∧rdA w ⟨b,3,none⟩ 32=vI p.cmd.id :=
 (h.at_ (k:=3) (n:=32) (ds:=cI p.cmd.id) (by
  unfold cO
  rw[List.drop_succ_cons,List.drop_append_of_le_length (by rw[cC_length];omega),List.take_append_of_le_length (by rw[List.length_drop,cC_length];omega)]
  exact cC_id p.cmd)).idv
theorem Row.opR {p:Opn} {t:TypeId} (h:Row w b (cO p) t):w.cell? ⟨b,40,none⟩=some (.int .i64 p.result):=by
 rw[h.cell]
 unfold cO
 rw[List.getElem?_cons_succ,List.getElem?_append_right (by rw[cC_length];omega),cC_length]
 rfl
end
structure Dx0 (r:Rt) (p:Opn) (w:World) (g o r0:Nat) (u:World):Prop where
 rg:Row u g (cT r) 60
 ro:Row u o (cO p) 37
 rr:Row u r0 (cT zT) 60
 lg:w.heap.size≤g
 lo:w.heap.size≤o
 lr:w.heap.size≤r0
 bl:Below w.heap.size w u
structure DxB (F0 F:List Nat) (r:Rt) (p:Opn) (w:World) (g o r0 cb ib:Nat) (u:World):Prop where
 rg:Row u g (cT r) 60
 ro:Row u o (cO p) 37
 rr:Row u r0 (cT zT) 60
 rc:Row u cb (cC p.cmd) 32
 ri:Row u ib (cI p.cmd.id) 30
 ng:g∉F
 no:o∉F
 nr:r0∉F
 nc:cb∉F
 ni:ib∉F
 nrc:r0≠cb
 kp:Kp F0 F w u
 le:w.heap.size≤r0
section
variable {w0 w u u' : World} {b g o r0 cb ib : Nat} {s s1 : Tk} {F F0 F' X : List Nat} {r r1 : Rt} {p : Opn}
theorem Dx0.new (r:Rt) (p:Opn) (w:World):∃ g W1 o W2 r0 W3,w.heap.size=g∧w.alloc (.cells (aT r) 60)=W1∧W1.heap.size=o∧W1.alloc (.cells (aO p) 37)=W2∧W2.heap.size=r0∧W2.alloc (.cells (aT zT) 60)=W3∧Dx0 r p w g o r0 W3:=by
 have b1:=below_alloc w (.cells (aT r) 60)
 have r1:=Row.new w (cT r) 60
 have h1:(w.alloc (.cells (aT r) 60)).heap.size=w.heap.size+1:=by simp
 generalize hW1:w.alloc (.cells (aT r) 60)=W1 at *
 rw[show w.alloc (.cells (cT r).toArray 60)=W1 from hW1] at r1
 have b2:=below_alloc W1 (.cells (aO p) 37)
 have r2:=Row.new W1 (cO p) 37
 have h2:(W1.alloc (.cells (aO p) 37)).heap.size=W1.heap.size+1:=by simp
 generalize hW2:W1.alloc (.cells (aO p) 37)=W2 at *
 rw[show W1.alloc (.cells (cO p).toArray 37)=W2 from hW2] at r2
 have b3:=below_alloc W2 (.cells (aT zT) 60)
 have r3:=Row.new W2 (cT zT) 60
 exact⟨_,_,_,_,_,_,rfl,rfl,rfl,hW2,rfl,rfl,(r1.keep b2).keep b3,r2.keep b3,r3,Nat.le_refl _,by omega,by omega,Below.step (Below.step b1 b2) b3⟩
theorem Dx0.box (h:Dx0 r p w g o r0 u) (hF:∀ k∈F,k<w.heap.size) (hb:Below u.heap.size u u'):∃ cb W5 W6 ib W7 W8,u'.heap.size=cb∧u'.alloc (.cells (aC zC) 32)=W5∧rowOk W5 cb 39=true∧W5.setRow cb (aC p.cmd)=W6∧W6.heap.size=ib∧W6.alloc (.cells (aI zI) 30)=W7∧rowOk W7 ib 32=true∧W7.setRow ib (aI p.cmd.id)=W8∧okA W6 ⟨cb,2,none⟩ 32=true∧rdA W6 ⟨cb,2,none⟩ 32=vI p.cmd.id∧DxB F F r p w g o r0 cb ib W8∧Below w.heap.size w W8:=by
 have hgl:=h.rg.lt
 have hol:=h.ro.lt
 have hrl:=h.rr.lt
 have hus:=hb.size
 have hwu:=h.bl.size
 have r5:=Row.new u' (cC zC) 32
 have b5:=below_alloc u' (.cells (aC zC) 32)
 have z5:(u'.alloc (.cells (aC zC) 32)).heap.size=u'.heap.size+1:=by simp
 have rok5:=r5.rowOk (cC_length zC)
 have r6:=r5.setRow (cC p.cmd)
 have o6:One u'.heap.size (u'.alloc (.cells (aC zC) 32)) ((u'.alloc (.cells (aC zC) 32)).setRow u'.heap.size (aC p.cmd)):=One.setRow _ _
 have z6:((u'.alloc (.cells (aC zC) 32)).setRow u'.heap.size (aC p.cmd)).heap.size=u'.heap.size+1:=by rw[← z5];simp[World.setRow]
 generalize hW5:u'.alloc (.cells (aC zC) 32)=W5 at *
 rw[show u'.alloc (.cells (cC zC).toArray 32)=W5 from hW5] at r5 rok5 r6
 generalize hW6:W5.setRow u'.heap.size (aC p.cmd)=W6 at *
 rw[show W5.setRow u'.heap.size (cC p.cmd).toArray=W6 from hW6] at r6
 have b56:Below u'.heap.size u' W6:=Below.trans b5 (o6.below (Nat.le_refl _) (by omega))
 have r7:=Row.new W6 (cI zI) 30
 have b7:=below_alloc W6 (.cells (aI zI) 30)
 have z7:(W6.alloc (.cells (aI zI) 30)).heap.size=W6.heap.size+1:=by simp
 have rok7:=r7.rowOk (cI_length zI)
 have r8:=r7.setRow (cI p.cmd.id)
 have o8:One W6.heap.size (W6.alloc (.cells (aI zI) 30)) ((W6.alloc (.cells (aI zI) 30)).setRow W6.heap.size (aI p.cmd.id)):=One.setRow _ _
 generalize hW7:W6.alloc (.cells (aI zI) 30)=W7 at *
 rw[show W6.alloc (.cells (cI zI).toArray 30)=W7 from hW7] at r7 rok7 r8
 generalize hW8:W7.setRow W6.heap.size (aI p.cmd.id)=W8 at *
 rw[show W7.setRow W6.heap.size (cI p.cmd.id).toArray=W8 from hW8] at r8
 have b68:Below W6.heap.size W6 W8:=Below.trans b7 (o8.below (Nat.le_refl _) (by omega))
 have b48:Below u'.heap.size u' W8:=Below.step b56 b68
 have bu8:Below u.heap.size u W8:=Below.step hb b48
 have bw8:Below w.heap.size w W8:=Below.step h.bl bu8
 refine⟨_,W5,W6,_,W7,W8,rfl,rfl,rok5,hW6,rfl,hW7,rok7,hW8,r6.idC.1,r6.idC.2,⟨h.rg.keep bu8,h.ro.keep bu8,h.rr.keep bu8,r6.keep b68,r8,?_,?_,?_,?_,?_,by omega,Kp.of_below bw8,h.lr⟩,bw8⟩
 ·intro hm;have:=hF _ hm;have:=h.lg;omega
 ·intro hm;have:=hF _ hm;have:=h.lo;omega
 ·intro hm;have:=hF _ hm;have:=h.lr;omega
 ·intro hm;have:=hF _ hm;omega
 ·intro hm;have:=hF _ hm;omega
theorem DxB.keep (h:DxB F0 F r p w g o r0 cb ib u) (hb:Below u.heap.size u u'):DxB F0 F r p w g o r0 cb ib u' :=
 ⟨h.rg.keep hb,h.ro.keep hb,h.rr.keep hb,h.rc.keep hb,h.ri.keep hb,h.ng,h.no,h.nr,h.nc,h.ni,h.nrc,h.kp.trans (Kp.of_below hb),h.le⟩
theorem DxB.turn (h:DxB F0 F r p w g o r0 cb ib u) (hk:Kp F F' u u'):DxB F0 F' r p w g o r0 cb ib u':=by
 have e1:=hk.out g h.rg.lt h.ng
 have e2:=hk.out o h.ro.lt h.no
 have e3:=hk.out r0 h.rr.lt h.nr
 have e4:=hk.out cb h.rc.lt h.nc
 have e5:=hk.out ib h.ri.lt h.ni
 exact⟨h.rg.same e1.2,h.ro.same e2.2,h.rr.same e3.2,h.rc.same e4.2,h.ri.same e5.2,e1.1,e2.1,e3.1,e4.1,e5.1,h.nrc,h.kp.trans hk,h.le⟩
theorem DxB.ld (h:DxB F0 F r p w g o r0 cb ib u):(okA u ⟨g,0,none⟩ 4=true∧rdA u ⟨g,0,none⟩ 4=vT r)∧(okA u ⟨o,1,none⟩ 39=true∧rdA u ⟨o,1,none⟩ 39=vC p.cmd∧u.cell? ⟨o,0,none⟩=some (.int .i64 p.kind))∧(okA u ⟨o,3,none⟩ 32=true∧rdA u ⟨o,3,none⟩ 32=vI p.cmd.id)∧u.cell? ⟨o,40,none⟩=some (.int .i64 p.result)∧(okA u ⟨cb,0,none⟩ 39=true∧rdA u ⟨cb,0,none⟩ 39=vC p.cmd)∧(okA u ⟨ib,0,none⟩ 32=true∧rdA u ⟨ib,0,none⟩ 32=vI p.cmd.id) :=
 ⟨Row.okw h.rg (cT_length _),h.ro.opC,h.ro.opI,h.ro.opR,Row.okw h.rc (cC_length _),Row.okw h.ri (cI_length _)⟩
structure DoS (w0:World) (b:Nat) (s1:Tk) (F0 F X:List Nat) (r1:Rt) (w:World) (r0:Nat) (u:World):Prop where
 tb:TkB w0 b s1 F u
 rf:RfAt (F++X) s1 r1 u
 kp:Kp F0 F w u
 row:Row u r0 (cT r1) 60
theorem DoS.keep (h:DoS w0 b s1 F0 F X r1 w r0 u) (hb:Below u.heap.size u u'):DoS w0 b s1 F0 F X r1 w r0 u':=⟨h.tb.keep hb,h.rf.keep hb,h.kp.trans (Kp.of_below hb),h.row.keep hb⟩
theorem DxB.done (h:DxB F0 F r p w g o r0 cb ib u) (hw:w0.heap.size≤w.heap.size) (ht:TkB w0 b s1 F u) (hr:RfAt (F++(r0 :: X)) s1 r1 u):rowOk u r0 4=true∧DoS w0 b s1 F0 F X r1 w r0 (u.setRow r0 (aT r1)):=by
 have ho:One r0 u (u.setRow r0 (aT r1)):=One.setRow _ _
 have hle:=h.le
 have hs:∀ k∈F,(u.setRow r0 (aT r1)).heap[k]? = u.heap[k]?:=fun k hk=>ho.out k (ht.lt k hk) (fun e=>h.nr (e▸hk))
 refine⟨h.rr.rowOk (cT_length zT),⟨(by obtain⟨va,vk,h2⟩:=ht.tk;exact⟨va,vk,h2.same hs⟩),ht.inv,?_,ht.low,fun k hk=>Nat.lt_of_lt_of_le (ht.lt k hk) ho.size⟩,?_,?_,h.rr.setRow (cT r1)⟩
 ·exact Below.trans ht.bel (ho.below (by omega) ht.bel.size)
 ·exact (hr.same ho.size (fun k hk hn=>ho.out k hk (fun e=>hn (by rw[e];exact List.mem_append_right _ List.mem_cons_self)))).sub (fun k hk=>by
   rcases List.mem_append.1 hk with hk|hk
   ·exact List.mem_append_left _ hk
   ·exact List.mem_append_right _ (List.mem_cons_of_mem _ hk))
 ·exact⟨ho.os.trans h.kp.os,ho.tape.trans h.kp.tape,ho.output.trans h.kp.output,Nat.le_trans h.kp.size ho.size,fun k hk hF=>by
   obtain⟨h1,h2⟩:=h.kp.out k hk hF
   exact⟨h1,(ho.out k (Nat.lt_of_lt_of_le hk h.kp.size) (by omega)).trans h2⟩⟩
theorem DxB.lt (h:DxB F0 F r p w g o r0 cb ib u) (ht:TkB w0 b s1 F u) (hX:∀ k∈X,k<w.heap.size):∀ k∈F++(r0 :: X),k<u.heap.size:=fun k hk=>by
 rcases List.mem_append.1 hk with hk|hk
 ·exact ht.lt k hk
 ·rcases List.mem_cons.1 hk with rfl|hk
  ·exact h.rr.lt
  ·exact Nat.lt_of_lt_of_le (hX k hk) h.kp.size
end
open Go.RowKit
def DoP (w0:World) (b:Nat) (s1:Tk) (F X:List Nat) (w:World) (e:Ending) (w':World):Prop :=
 ∃ (r1:Rt) (F1:List Nat),e=.returned (.tuple #[vT r1,.bool true])∧TkB w0 b s1 F1 w'∧RfAt (F1++X) s1 r1 w'∧Kp F F1 w w'
section
set_option maxRecDepth 100000
set_option maxHeartbeats 3200000
theorem do_open (w0:World) (b:Nat) (s:Tk) (F:List Nat) (r:Rt) (p:Opn) (w:World) (hL:Laid w0) (ht:TkB w0 b s F w) (X:List Nat) (hX:∀ k∈X,k<w.heap.size) (hr:RfAt (F++X) s r w) (hs:p.cmd.text.size≤200∧p.cmd.name.size≤100) (hk:p.kind=5) :
  Calls Tryz.prog 33 #[.pointer (some ⟨b,0,none⟩),vT r,vO p] w (DoP w0 b ((openT s).1) F X w):=by
 obtain⟨g,W1,o,W2,r0,W3,hg,hW1,ho,hW2,hr0,hW3,hD⟩:=Dx0.new r p w
 obtain⟨d1,d2,d3⟩:=hD.ro.opC
 have HR:=Lib.hid (show RfAt (F++(r0 :: X)) s r w from hr.new _ fun k hk=>by
  rcases List.mem_append.1 hk with hk|hk
  ·exact Or.inl (List.mem_append_left _ hk)
  ·rcases List.mem_cons.1 hk with rfl|hk
   ·exact Or.inr hD.lr
   ·exact Or.inl (List.mem_append_right _ hk))
 have HXX:=Lib.hid hX
 have HD:=Lib.hid hD
 have HT:=Lib.hid ht
 have HW0:=Lib.hid (show w0.heap.size≤w.heap.size from ht.bel.size)
 have HS:=Lib.hid (show p.cmd.name.size≤1000000∧p.cmd.text.size≤1000000 from ⟨by omega,by omega⟩)
 have HL:=Lib.hid hL
 clear hD hr ht hs hL hX
 have HK:=Lib.hid hk
 clear hk
 go_enter Tryz.func33,Tryz.ntmps33
 go_wp2_with (first
  | (go_at_call 60;refine (refOpen60 (F9++(r0 :: X)) s r w9 HR9.out (HX9.out.lt HT9.out HXX.out)).mono ?_;rintro e w10 ⟨r1,rfl,hr10,hb10⟩;obtain⟨nx,hnx⟩:∃ nx,w10.heap.size=nx:=⟨_,rfl⟩;have hrx:=Row.new w10 (cT zT) 60;obtain⟨W11,hW11⟩:∃ W11,w10.alloc (.cells (aT zT) 60)=W11:=⟨_,rfl⟩;have hb11:Below w10.heap.size w10 W11:=(by rw[← hW11];exact below_alloc _ _);rw[show w10.alloc (.cells (cT zT).toArray 60)=W11 from hW11,hnx] at hrx;have rok:=hrx.rowOk (cT_length zT);have hr12:=hrx.setRow (cT r1);have ho12:One nx W11 (W11.setRow nx (aT r1)):=One.setRow _ _;obtain⟨W12,hW12⟩:∃ W12,W11.setRow nx (aT r1)=W12:=⟨_,rfl⟩;rw[show W11.setRow nx (cT r1).toArray=W12 from hW12] at hr12;rw[hW12] at ho12;have hb12:Below w9.heap.size w9 W12:=Below.step hb10 (Below.trans hb11 (ho12.below (by omega) hb11.size));have hb12':Below w10.heap.size w10 W12:=Below.trans hb11 (ho12.below (by omega) hb11.size);have lk:=Row.okw hr12 (cT_length r1);have n1:=lk.1;have n2:rdA W12 ⟨nx,0,none⟩ 4=vT r1:=lk.2;have DN:=HX9.out.keep hb12 |>.done HW0.out (HT9.out.keep hb12) (hr10.keep hb12');have rok0:=DN.1;have HDN:=Lib.hid DN.2;clear lk DN hr12 ho12 hb12 hb12' hb11 hb10 hr10 hrx)
  | (go_at_call 17;refine (HT8.out.open_).mono ?_;rintro e w9 ⟨rfl,F9,ht9,hk9⟩;have hX9:=HX8.out.turn hk9;have hr9:=HR8.out.kp (hk9.app (r0 :: X));obtain⟨⟨y1,y2⟩,⟨y3,y4,y5⟩,⟨y6,y7⟩,y8,⟨y9,y10⟩,⟨y11,y12⟩⟩:=hX9.ld;have HX9:=Lib.hid hX9;have HT9:=Lib.hid ht9;have HR9:=Lib.hid hr9;clear hk9 hX9 hr9 ht9)
  | (go_at_call 14;refine (own14 p.cmd W3).mono ?_;rintro e w4 ⟨rfl,hb4⟩;obtain⟨cb,W5,W6,ib,W7,W8,hcb,hW5,rok5,hW6,hib,hW7,rok7,hW8,k1,k2,hX8,hb8⟩:=HD.out.box (F:=F) HT.out.lt hb4;obtain⟨⟨x1,x2⟩,⟨x3,x4,x5⟩,⟨x6,x7⟩,x8,⟨x9,x10⟩,⟨x11,x12⟩⟩:=hX8.ld;rw[HK.out] at x5;have HT8:=Lib.hid (HT.out.keep hb8);have HR8:=Lib.hid (HR.out.keep hb8);have HX8:=Lib.hid hX8;clear hb4 hX8 hb8))
 exact bodyPost_ret (v:=.tuple #[vT r1,.bool true]) (results_c2 (ad:=⟨r0,0,none⟩) rfl rfl (ld_setRowT _ rok0) rfl) rfl ⟨r1,_,rfl,HDN.out.tb,HDN.out.rf,HDN.out.kp⟩
theorem do_drop (w0:World) (b:Nat) (s:Tk) (F:List Nat) (r:Rt) (p:Opn) (w:World) (hL:Laid w0) (ht:TkB w0 b s F w) (X:List Nat) (hX:∀ k∈X,k<w.heap.size) (hr:RfAt (F++X) s r w) (hs:p.cmd.text.size≤200∧p.cmd.name.size≤100) (hk:p.kind=6) :
  Calls Tryz.prog 33 #[.pointer (some ⟨b,0,none⟩),vT r,vO p] w (DoP w0 b ((dropT s).1) F X w):=by
 obtain⟨g,W1,o,W2,r0,W3,hg,hW1,ho,hW2,hr0,hW3,hD⟩:=Dx0.new r p w
 obtain⟨d1,d2,d3⟩:=hD.ro.opC
 have HR:=Lib.hid (show RfAt (F++(r0 :: X)) s r w from hr.new _ fun k hk=>by
  rcases List.mem_append.1 hk with hk|hk
  ·exact Or.inl (List.mem_append_left _ hk)
  ·rcases List.mem_cons.1 hk with rfl|hk
   ·exact Or.inr hD.lr
   ·exact Or.inl (List.mem_append_right _ hk))
 have HXX:=Lib.hid hX
 have HD:=Lib.hid hD
 have HT:=Lib.hid ht
 have HW0:=Lib.hid (show w0.heap.size≤w.heap.size from ht.bel.size)
 have HS:=Lib.hid (show p.cmd.name.size≤1000000∧p.cmd.text.size≤1000000 from ⟨by omega,by omega⟩)
 have HL:=Lib.hid hL
 clear hD hr ht hs hL hX
 have HK:=Lib.hid hk
 clear hk
 go_enter Tryz.func33,Tryz.ntmps33
 go_wp2_with (first
  | (go_at_call 61;refine (refDrop61 (F9++(r0 :: X)) s r w9 HR9.out (HX9.out.lt HT9.out HXX.out) HT.out.inv.a100 HT.out.inv.kept HT.out.inv.ndk).mono ?_;rintro e w10 ⟨r1,rfl,hr10,hb10⟩;obtain⟨nx,hnx⟩:∃ nx,w10.heap.size=nx:=⟨_,rfl⟩;have hrx:=Row.new w10 (cT zT) 60;obtain⟨W11,hW11⟩:∃ W11,w10.alloc (.cells (aT zT) 60)=W11:=⟨_,rfl⟩;have hb11:Below w10.heap.size w10 W11:=(by rw[← hW11];exact below_alloc _ _);rw[show w10.alloc (.cells (cT zT).toArray 60)=W11 from hW11,hnx] at hrx;have rok:=hrx.rowOk (cT_length zT);have hr12:=hrx.setRow (cT r1);have ho12:One nx W11 (W11.setRow nx (aT r1)):=One.setRow _ _;obtain⟨W12,hW12⟩:∃ W12,W11.setRow nx (aT r1)=W12:=⟨_,rfl⟩;rw[show W11.setRow nx (cT r1).toArray=W12 from hW12] at hr12;rw[hW12] at ho12;have hb12:Below w9.heap.size w9 W12:=Below.step hb10 (Below.trans hb11 (ho12.below (by omega) hb11.size));have hb12':Below w10.heap.size w10 W12:=Below.trans hb11 (ho12.below (by omega) hb11.size);have lk:=Row.okw hr12 (cT_length r1);have n1:=lk.1;have n2:rdA W12 ⟨nx,0,none⟩ 4=vT r1:=lk.2;have DN:=HX9.out.keep hb12 |>.done HW0.out (HT9.out.keep hb12) (hr10.keep hb12');have rok0:=DN.1;have HDN:=Lib.hid DN.2;clear lk DN hr12 ho12 hb12 hb12' hb11 hb10 hr10 hrx)
  | (go_at_call 18;refine (HT8.out.drop).mono ?_;rintro e w9 ⟨rfl,F9,ht9,hk9⟩;have hX9:=HX8.out.turn hk9;have hr9:=HR8.out.kp (hk9.app (r0 :: X));obtain⟨⟨y1,y2⟩,⟨y3,y4,y5⟩,⟨y6,y7⟩,y8,⟨y9,y10⟩,⟨y11,y12⟩⟩:=hX9.ld;have HX9:=Lib.hid hX9;have HT9:=Lib.hid ht9;have HR9:=Lib.hid hr9;clear hk9 hX9 hr9 ht9)
  | (go_at_call 14;refine (own14 p.cmd W3).mono ?_;rintro e w4 ⟨rfl,hb4⟩;obtain⟨cb,W5,W6,ib,W7,W8,hcb,hW5,rok5,hW6,hib,hW7,rok7,hW8,k1,k2,hX8,hb8⟩:=HD.out.box (F:=F) HT.out.lt hb4;obtain⟨⟨x1,x2⟩,⟨x3,x4,x5⟩,⟨x6,x7⟩,x8,⟨x9,x10⟩,⟨x11,x12⟩⟩:=hX8.ld;rw[HK.out] at x5;have HT8:=Lib.hid (HT.out.keep hb8);have HR8:=Lib.hid (HR.out.keep hb8);have HX8:=Lib.hid hX8;clear hb4 hX8 hb8))
 exact bodyPost_ret (v:=.tuple #[vT r1,.bool true]) (results_c2 (ad:=⟨r0,0,none⟩) rfl rfl (ld_setRowT _ rok0) rfl) rfl ⟨r1,_,rfl,HDN.out.tb,HDN.out.rf,HDN.out.kp⟩
theorem do_forget (w0:World) (b:Nat) (s:Tk) (F:List Nat) (r:Rt) (p:Opn) (w:World) (hL:Laid w0) (ht:TkB w0 b s F w) (X:List Nat) (hX:∀ k∈X,k<w.heap.size) (hr:RfAt (F++X) s r w) (hs:p.cmd.text.size≤200∧p.cmd.name.size≤100) (hk:p.kind=4) :
  Calls Tryz.prog 33 #[.pointer (some ⟨b,0,none⟩),vT r,vO p] w (DoP w0 b ((forgetT s p.cmd.id).1) F X w):=by
 obtain⟨g,W1,o,W2,r0,W3,hg,hW1,ho,hW2,hr0,hW3,hD⟩:=Dx0.new r p w
 obtain⟨d1,d2,d3⟩:=hD.ro.opC
 have HR:=Lib.hid (show RfAt (F++(r0 :: X)) s r w from hr.new _ fun k hk=>by
  rcases List.mem_append.1 hk with hk|hk
  ·exact Or.inl (List.mem_append_left _ hk)
  ·rcases List.mem_cons.1 hk with rfl|hk
   ·exact Or.inr hD.lr
   ·exact Or.inl (List.mem_append_right _ hk))
 have HXX:=Lib.hid hX
 have HD:=Lib.hid hD
 have HT:=Lib.hid ht
 have HW0:=Lib.hid (show w0.heap.size≤w.heap.size from ht.bel.size)
 have HS:=Lib.hid (show p.cmd.name.size≤1000000∧p.cmd.text.size≤1000000 from ⟨by omega,by omega⟩)
 have HL:=Lib.hid hL
 clear hD hr ht hs hL hX
 have HK:=Lib.hid hk
 clear hk
 go_enter Tryz.func33,Tryz.ntmps33
 go_wp2_with (first
  | (go_at_call 59;refine (refForget59 (F9++(r0 :: X)) s r p.cmd.id w9 HR9.out (HX9.out.lt HT9.out HXX.out) (by have:=HT.out.inv.k100;omega) HT.out.inv.ndk).mono ?_;rintro e w10 ⟨r1,rfl,hr10,hb10⟩;obtain⟨nx,hnx⟩:∃ nx,w10.heap.size=nx:=⟨_,rfl⟩;have hrx:=Row.new w10 (cT zT) 60;obtain⟨W11,hW11⟩:∃ W11,w10.alloc (.cells (aT zT) 60)=W11:=⟨_,rfl⟩;have hb11:Below w10.heap.size w10 W11:=(by rw[← hW11];exact below_alloc _ _);rw[show w10.alloc (.cells (cT zT).toArray 60)=W11 from hW11,hnx] at hrx;have rok:=hrx.rowOk (cT_length zT);have hr12:=hrx.setRow (cT r1);have ho12:One nx W11 (W11.setRow nx (aT r1)):=One.setRow _ _;obtain⟨W12,hW12⟩:∃ W12,W11.setRow nx (aT r1)=W12:=⟨_,rfl⟩;rw[show W11.setRow nx (cT r1).toArray=W12 from hW12] at hr12;rw[hW12] at ho12;have hb12:Below w9.heap.size w9 W12:=Below.step hb10 (Below.trans hb11 (ho12.below (by omega) hb11.size));have hb12':Below w10.heap.size w10 W12:=Below.trans hb11 (ho12.below (by omega) hb11.size);have lk:=Row.okw hr12 (cT_length r1);have n1:=lk.1;have n2:rdA W12 ⟨nx,0,none⟩ 4=vT r1:=lk.2;have DN:=HX9.out.keep hb12 |>.done HW0.out (HT9.out.keep hb12) (hr10.keep hb12');have rok0:=DN.1;have HDN:=Lib.hid DN.2;clear lk DN hr12 ho12 hb12 hb12' hb11 hb10 hr10 hrx)
  | (go_at_call 35;refine (HT8.out.forget p.cmd.id).mono ?_;rintro e w9 ⟨rfl,F9,ht9,hk9⟩;have hX9:=HX8.out.turn hk9;have hr9:=HR8.out.kp (hk9.app (r0 :: X));obtain⟨⟨y1,y2⟩,⟨y3,y4,y5⟩,⟨y6,y7⟩,y8,⟨y9,y10⟩,⟨y11,y12⟩⟩:=hX9.ld;have HX9:=Lib.hid hX9;have HT9:=Lib.hid ht9;have HR9:=Lib.hid hr9;clear hk9 hX9 hr9 ht9)
  | (go_at_call 14;refine (own14 p.cmd W3).mono ?_;rintro e w4 ⟨rfl,hb4⟩;obtain⟨cb,W5,W6,ib,W7,W8,hcb,hW5,rok5,hW6,hib,hW7,rok7,hW8,k1,k2,hX8,hb8⟩:=HD.out.box (F:=F) HT.out.lt hb4;obtain⟨⟨x1,x2⟩,⟨x3,x4,x5⟩,⟨x6,x7⟩,x8,⟨x9,x10⟩,⟨x11,x12⟩⟩:=hX8.ld;rw[HK.out] at x5;have HT8:=Lib.hid (HT.out.keep hb8);have HR8:=Lib.hid (HR.out.keep hb8);have HX8:=Lib.hid hX8;clear hb4 hX8 hb8))
 exact bodyPost_ret (v:=.tuple #[vT r1,.bool true]) (results_c2 (ad:=⟨r0,0,none⟩) rfl rfl (ld_setRowT _ rok0) rfl) rfl ⟨r1,_,rfl,HDN.out.tb,HDN.out.rf,HDN.out.kp⟩
theorem do_other (w0:World) (b:Nat) (s:Tk) (F:List Nat) (r:Rt) (p:Opn) (w:World) (hL:Laid w0) (ht:TkB w0 b s F w) (X:List Nat) (hX:∀ k∈X,k<w.heap.size) (hr:RfAt (F++X) s r w) (hs:p.cmd.text.size≤200∧p.cmd.name.size≤100) (h0:p.kind≠0) (h1:p.kind≠1) (h2:p.kind≠2) (h3:p.kind≠3) (h4:p.kind≠4) (h5:p.kind≠5) (h6:p.kind≠6) :
  Calls Tryz.prog 33 #[.pointer (some ⟨b,0,none⟩),vT r,vO p] w (DoP w0 b (s) F X w):=by
 obtain⟨g,W1,o,W2,r0,W3,hg,hW1,ho,hW2,hr0,hW3,hD⟩:=Dx0.new r p w
 obtain⟨d1,d2,d3⟩:=hD.ro.opC
 have HR:=Lib.hid (show RfAt (F++(r0 :: X)) s r w from hr.new _ fun k hk=>by
  rcases List.mem_append.1 hk with hk|hk
  ·exact Or.inl (List.mem_append_left _ hk)
  ·rcases List.mem_cons.1 hk with rfl|hk
   ·exact Or.inr hD.lr
   ·exact Or.inl (List.mem_append_right _ hk))
 have HXX:=Lib.hid hX
 have HD:=Lib.hid hD
 have HT:=Lib.hid ht
 have HW0:=Lib.hid (show w0.heap.size≤w.heap.size from ht.bel.size)
 have HS:=Lib.hid (show p.cmd.name.size≤1000000∧p.cmd.text.size≤1000000 from ⟨by omega,by omega⟩)
 have HL:=Lib.hid hL
 clear hD hr ht hs hL hX
 have z0:(p.kind==0)=false:=by simpa using h0
 have z1:(p.kind==1)=false:=by simpa using h1
 have z2:(p.kind==2)=false:=by simpa using h2
 have z3:(p.kind==3)=false:=by simpa using h3
 have z4:(p.kind==4)=false:=by simpa using h4
 have z5:(p.kind==5)=false:=by simpa using h5
 have z6:(p.kind==6)=false:=by simpa using h6
 clear h0 h1 h2 h3 h4 h5 h6
 go_enter Tryz.func33,Tryz.ntmps33
 go_wp2_with (first
  | (go_at_call 14;refine (own14 p.cmd W3).mono ?_;rintro e w4 ⟨rfl,hb4⟩;obtain⟨cb,W5,W6,ib,W7,W8,hcb,hW5,rok5,hW6,hib,hW7,rok7,hW8,k1,k2,hX8,hb8⟩:=HD.out.box (F:=F) HT.out.lt hb4;obtain⟨⟨x1,x2⟩,⟨x3,x4,x5⟩,⟨x6,x7⟩,x8,⟨x9,x10⟩,⟨x11,x12⟩⟩:=hX8.ld;have DN:=hX8.done HW0.out (HT.out.keep hb8) (HR.out.keep hb8);have rok0:=DN.1;have HDN:=Lib.hid DN.2;clear DN;have HT8:=Lib.hid (HT.out.keep hb8);have HR8:=Lib.hid (HR.out.keep hb8);have HX8:=Lib.hid hX8;clear hb4 hX8 hb8))
 exact bodyPost_ret (v:=.tuple #[vT r,.bool true]) (results_c2 (ad:=⟨r0,0,none⟩) rfl rfl (ld_setRowT _ rok0) rfl) rfl ⟨r,_,rfl,HDN.out.tb,HDN.out.rf,HDN.out.kp⟩
end
open Go.RowKit
structure RX (P:World→Prop) (W0:World) (r0:Nat) (ds:Bool) (u:World):Prop where
 lo:ds=false→Below W0.heap.size W0 u
 hi:ds=true→P u
 n:W0.heap.size≤u.heap.size
 out:∀ k,k<W0.heap.size→k≠r0→u.heap[k]? = W0.heap[k]?
section
variable {w0 w W0 u u' : World} {b g o r0 cb ib : Nat} {s s1 : Tk} {F F0 X : List Nat} {r r1 : Rt} {p : Opn} {P : World → Prop} {ds : Bool}
theorem RX.start (hb:Below W0.heap.size W0 u):RX P W0 r0 false u:=⟨fun _=>hb,fun h=>(nomatch h),hb.size,fun k hk _=>hb.block k hk⟩
theorem RX.read (h:RX (DoS w0 b s1 F0 F X r1 w r0) W0 r0 ds u) (hb:Below u.heap.size u u'):RX (DoS w0 b s1 F0 F X r1 w r0) W0 r0 ds u' :=
 ⟨fun e=>Below.step (h.lo e) hb,fun e=>(h.hi e).keep hb,Nat.le_trans h.n hb.size,fun k hk hn=>(hb.block k (Nat.lt_of_lt_of_le hk h.n)).trans (h.out k hk hn)⟩
theorem RX.row (h:RX P W0 r0 ds u) {k:Nat} {cs:List Value} {t:TypeId} (hr:Row W0 k cs t) (hk:k≠r0):Row u k cs t:=hr.same (h.out k hr.lt hk)
theorem RX.stored (h:RX (DoS w0 b s1 F0 F X r1 w r0) W0 r0 false u) (hx:DxB F0 F r p w g o r0 cb ib W0) (hw:w0.heap.size≤w.heap.size) (ht:TkB w0 b s1 F W0) (hr:RfAt (F++(r0 :: X)) s1 r1 W0):rowOk u r0 4=true∧RX (DoS w0 b s1 F0 F X r1 w r0) W0 r0 true (u.setRow r0 (aT r1)):=by
 have hb:=h.lo rfl
 obtain⟨h1,h2⟩:=(hx.keep hb).done hw (ht.keep hb) (hr.keep hb)
 exact⟨h1,fun e=>(nomatch e),fun _=>h2,by simp[World.setRow];exact h.n,fun k hk hn=>(heap_setRow_other u r0 k _ hn).trans (h.out k hk hn)⟩
theorem row_made (w:World) {cs ds:List Value} {t:TypeId} {n:Nat} (hc:cs.length=n):∃ k W1 W2,w.heap.size=k∧w.alloc (.cells cs.toArray t)=W1∧rowOk W1 k n=true∧W1.setRow k ds.toArray=W2∧Row W2 k ds t∧Below w.heap.size w W2∧k<W2.heap.size:=by
 have hr:=Row.new w cs t
 have hz:(w.alloc (.cells cs.toArray t)).heap.size=w.heap.size+1:=by simp
 have ho:One w.heap.size (w.alloc (.cells cs.toArray t)) ((w.alloc (.cells cs.toArray t)).setRow w.heap.size ds.toArray):=One.setRow _ _
 exact⟨_,_,_,rfl,rfl,hr.rowOk hc,rfl,hr.setRow ds,Below.trans (below_alloc _ _) (ho.below (Nat.le_refl _) (by omega)),Nat.lt_of_lt_of_le (by omega) ho.size⟩
theorem row_made2 (w:World) {cs ds cs' ds':List Value} {t t':TypeId} {n n':Nat} (hc:cs.length=n) (hc':cs'.length=n'):∃ k W1 k' W2 W3 W4,w.heap.size=k∧w.alloc (.cells cs.toArray t)=W1∧W1.heap.size=k'∧W1.alloc (.cells cs'.toArray t')=W2∧rowOk W2 k n=true∧W2.setRow k ds.toArray=W3∧rowOk W3 k' n'=true∧W3.setRow k' ds'.toArray=W4∧Row W4 k ds t∧Row W4 k' ds' t'∧Below w.heap.size w W4:=by
 have hr:=Row.new w cs t
 have hz:(w.alloc (.cells cs.toArray t)).heap.size=w.heap.size+1:=by simp
 have b1:=below_alloc w (.cells cs.toArray t)
 generalize w.alloc (.cells cs.toArray t)=W1 at *
 have hr':=Row.new W1 cs' t'
 have hz':(W1.alloc (.cells cs'.toArray t')).heap.size=W1.heap.size+1:=by simp
 have b2:=below_alloc W1 (.cells cs'.toArray t')
 have hr2:=hr.keep b2
 generalize hW2:W1.alloc (.cells cs'.toArray t')=W2 at *
 have o3:One w.heap.size W2 (W2.setRow w.heap.size ds.toArray):=One.setRow _ _
 have hr3:=hr2.setRow ds
 have hr3':=o3.row hr' (by omega)
 have z3:=o3.size
 generalize hW3:W2.setRow w.heap.size ds.toArray=W3 at *
 have o4:One W1.heap.size W3 (W3.setRow W1.heap.size ds'.toArray):=One.setRow _ _
 exact⟨_,W1,_,W2,W3,_,rfl,rfl,rfl,hW2,hr2.rowOk hc,hW3,hr3'.rowOk hc',rfl,o4.row hr3 (by omega),hr3'.setRow ds',Below.trans (Below.trans (Below.step b1 b2) (o3.below (Nat.le_refl _) (by omega))) (o4.below (by omega) (by omega))⟩
end
end Go.Proofs.YtgojaelkdpabkaaGreatDoor
