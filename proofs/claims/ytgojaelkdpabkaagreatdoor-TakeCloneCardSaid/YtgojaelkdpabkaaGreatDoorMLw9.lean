/- bulletinlaw34.TakeClone: whatever the operations, the law returns true. -/
import Derived.Test.YtgojaelkdpabkaaGreatDoorMSm34
import Derived.Test.YtgojaelkdpabkaaGreatDoorMVw31
namespace Go.Proofs.YtgojaelkdpabkaaGreatDoor
open Go.RowKit
theorem ask_runT {s:Tk} (h:AskE s) (l:List Opn):AskE (runT s l):=by
 unfold runT
 induction l generalizing s with
 | nil=>exact h
 | cons p r ih=>exact ih (ask_step h p)
structure CloI (w0:World) (kc:Nat) (s0:Tk) (F2:List Nat) (r:Rt) (nx:Nat) (F:List Nat) (x5:Nat) (u:World):Prop where
 tb:TkB w0 kc s0 F2 u
 rf:RfAt (F++[x5]) s0 r u
 dis:∀ j∈F2,j∉F∧j≠x5
 row:Row u nx (cT r) 60
 nn:nx∉F∧nx≠x5
section
variable {w0 w u u' W0 : World} {b kc nx x5 : Nat} {s0 s1 : Tk} {F F1 F2 : List Nat} {r rr : Rt}
theorem TkB.other (h:TkB w0 kc s0 F2 u) (hs:∀ j∈F2,u'.heap[j]? = u.heap[j]?) (hz:u.heap.size≤u'.heap.size) (hb:Below w0.heap.size w0 u'):TkB w0 kc s0 F2 u' :=
 ⟨(by obtain⟨va,vk,h2⟩:=h.tk;exact⟨va,vk,h2.same hs⟩),h.inv,hb,h.low,fun k hk=>Nat.lt_of_lt_of_le (h.lt k hk) hz⟩
theorem CloI.keep (h:CloI w0 kc s0 F2 r nx F x5 u) (hb:Below u.heap.size u u'):CloI w0 kc s0 F2 r nx F x5 u':=⟨h.tb.keep hb,h.rf.keep hb,h.dis,h.row.keep hb,h.nn⟩
theorem CloI.turn (h:CloI w0 kc s0 F2 r nx F x5 u) (hk:Kp F F1 u u') (hb:Below w0.heap.size w0 u'):CloI w0 kc s0 F2 r nx F1 x5 u':=by
 have e:=hk.out nx h.row.lt h.nn.1
 exact⟨h.tb.other (fun j hj=>(hk.out j (h.tb.lt j hj) (h.dis j hj).1).2) hk.size hb,h.rf.kp (hk.app [x5]),fun j hj=>⟨(hk.out j (h.tb.lt j hj) (h.dis j hj).1).1,(h.dis j hj).2⟩,h.row.same e.2,e.1,h.nn.2⟩
theorem CloI.st (h:CloI w0 kc s0 F2 r nx F x5 u) (r1:Rt) (hb:Below w0.heap.size w0 (u.setRow x5 (aT r1))):CloI w0 kc s0 F2 r nx F x5 (u.setRow x5 (aT r1)):=by
 have ho:One x5 u (u.setRow x5 (aT r1)):=One.setRow _ _
 exact⟨h.tb.other (fun j hj=>ho.out j (h.tb.lt j hj) (h.dis j hj).2) ho.size hb,h.rf.same ho.size (fun k hk hn=>ho.out k hk (fun e=>hn (by rw[e];exact List.mem_append_right _ (List.mem_singleton.2 rfl)))),h.dis,ho.row h.row h.nn.2,h.nn⟩
end
def CloW (w:World) (b:Nat) (s1:Tk) (rr:Rt) (x5 kc:Nat) (s0:Tk) (F2:List Nat) (r:Rt) (nx:Nat) (W0:World) (σ:Rt×List Nat):Bool→Bool→World→Prop
 | false,_,u=>Below W0.heap.size W0 u
 | true,false,u=>RunI w b s1 σ.2 σ.1 rr w x5 u∧CloI w kc s0 F2 r nx σ.2 x5 u
 | true,true,u=>RunI w b s1 σ.2 σ.1 σ.1 w x5 u∧CloI w kc s0 F2 r nx σ.2 x5 u
section
set_option maxRecDepth 100000
set_option maxHeartbeats 3200000
theorem law9_small1 (A:Option Addr) (cap:Nat) (l:List Opn) (B:Option Addr) (cap2:Nat) (l2:List Opn) (w:World) (hs:Sl w cO A l) (hc:l.length≤cap) (hm:cap≤9223372036854775807) (hs2:Sl w cO B l2) (hc2:l2.length≤cap2) (hm2:cap2≤9223372036854775807) (hL:Laid w) (h1:smallL l=false) :
  Calls Tryz.prog 9 #[.slice A l.length cap,.slice B l2.length cap2] w fun e w'=>e=.returned (.bool true)∧Below w.heap.size w w':=by
 have HL:=Lib.hid hL
 have HA:=Lib.hid (And.intro hs (show l.length≤9223372036854775807 by omega))
 have HB:=Lib.hid (And.intro hs2 (show l2.length≤9223372036854775807 by omega))
 clear hL hs hs2
 have HS1:=Lib.hid h1
 clear h1
 go_enter Tryz.func9,Tryz.ntmps9
 go_wp2_with (first
  | (go_at_call 11;refine (known34 w2 (HL.out.keep H2.out)).mono ?_;rintro e w9 ⟨rfl,hb9⟩;have H9:=Lib.hid (Below.step H2.out hb9);clear hb9)
  | (go_at_call 12;refine (small12 A cap l w1 (HA.out.1.keep H1.out) HA.out.2).mono ?_;rw[HS1.out];rintro e w2 ⟨rfl,hb2⟩;have H2:=Lib.hid (Below.step H1.out hb2);clear hb2)
  | (go_at_call 11;refine (known34 w HL.out).mono ?_;rintro e w1 ⟨rfl,hb1⟩;have H1:=Lib.hid hb1;clear hb1))
 go_ret
 exact⟨rfl,H9.out⟩
theorem law9_small2 (A:Option Addr) (cap:Nat) (l:List Opn) (B:Option Addr) (cap2:Nat) (l2:List Opn) (w:World) (hs:Sl w cO A l) (hc:l.length≤cap) (hm:cap≤9223372036854775807) (hs2:Sl w cO B l2) (hc2:l2.length≤cap2) (hm2:cap2≤9223372036854775807) (hL:Laid w) (h1:smallL l=true) (h2:smallL l2=false) :
  Calls Tryz.prog 9 #[.slice A l.length cap,.slice B l2.length cap2] w fun e w'=>e=.returned (.bool true)∧Below w.heap.size w w':=by
 have HL:=Lib.hid hL
 have HA:=Lib.hid (And.intro hs (show l.length≤9223372036854775807 by omega))
 have HB:=Lib.hid (And.intro hs2 (show l2.length≤9223372036854775807 by omega))
 clear hL hs hs2
 have HS1:=Lib.hid h1
 have HS2:=Lib.hid h2
 clear h1 h2
 go_enter Tryz.func9,Tryz.ntmps9
 go_wp2_with (first
  | (go_at_call 11;refine (known34 w3 (HL.out.keep H3.out)).mono ?_;rintro e w9 ⟨rfl,hb9⟩;have H9:=Lib.hid (Below.step H3.out hb9);clear hb9)
  | (go_at_call 12;refine (small12 B cap2 l2 w2 (HB.out.1.keep H2.out) HB.out.2).mono ?_;rw[HS2.out];rintro e w3 ⟨rfl,hb3⟩;have H3:=Lib.hid (Below.step H2.out hb3);clear hb3)
  | (go_at_call 12;refine (small12 A cap l w1 (HA.out.1.keep H1.out) HA.out.2).mono ?_;rw[HS1.out];rintro e w2 ⟨rfl,hb2⟩;have H2:=Lib.hid (Below.step H1.out hb2);clear hb2)
  | (go_at_call 11;refine (known34 w HL.out).mono ?_;rintro e w1 ⟨rfl,hb1⟩;have H1:=Lib.hid hb1;clear hb1))
 go_ret
 exact⟨rfl,H9.out⟩
end
theorem clo_start {w W7 w8 W10:World} {b kc nx x5:Nat} {s0:Tk} {F F2:List Nat} {r:Rt} (ht:TkB w b s0 F W7) (hr:RfAt F s0 r W7) (hk:Kp [] F w W7) (hnF:nx∉F) (hn8:Row w8 nx (cT r) 60) (hT8:TkAt kc s0 F2 w8) (hF8:∀ j∈F2,W7.heap.size≤j∧j<w8.heap.size) (hb8:Below W7.heap.size W7 w8) (hx5:w8.heap.size=x5) (hrx:Row W10 x5 (cT r) 60) (hb10:Below w8.heap.size w8 W10) :
  RunI w b s0 F r r w x5 W10∧CloI w kc s0 F2 r nx F x5 W10:=by
 have hb:=Below.step hb8 hb10
 have hlt:∀ k∈F,k<x5:=fun k hk=>by have:=ht.lt k hk;have:=hb8.size;omega
 have hr2:RfAt (F++[x5]) s0 r W10:=(hr.new (F++[x5]) (fun k hk=>by
  rcases List.mem_append.1 hk with hk|hk
  ·exact Or.inl hk
  ·rw[List.mem_singleton.1 hk];exact Or.inr (by have:=hb8.size;omega))).keep hb
 have hwz:=hk.size
 have hz:=hb8.size
 exact⟨⟨ht.keep hb,hr2,hk.trans (Kp.of_below hb),fun h=>by have:=hlt _ h;omega,by omega,hrx⟩,
  ⟨⟨hT8.keep hb10,ht.inv,(ht.keep hb).bel,fun j hj=>by have:=(hF8 j hj).1;omega,fun j hj=>Nat.lt_of_lt_of_le (hF8 j hj).2 hb10.size⟩,hr2,fun j hj=>⟨fun h=>by have:=ht.lt j h;have:=(hF8 j hj).1;omega,by have:=(hF8 j hj).2;omega⟩,hn8.keep hb10,hnF,by have:=hn8.lt;omega⟩⟩
theorem small12n (A:Option Addr) (c:Nat) (l:List Opn) (w:World) (hl:Sl w cO A l) (hn:l.length≤9223372036854775807) (n:Nat) (e:l.length=n) :
  Calls Tryz.prog 12 #[.slice A n c] w fun e w'=>e=.returned (.bool (smallL l))∧Below w.heap.size w w':=by
 subst e
 exact small12 A c l w hl hn
section
set_option maxRecDepth 100000
set_option maxHeartbeats 3200000
theorem law9_cons (A:Option Addr) (cap:Nat) (l:List Opn) (B:Option Addr) (cap2:Nat) (l2:List Opn) (w:World) (hs:Sl w cO A l) (hc:l.length≤cap) (hm:cap≤9223372036854775807) (hs2:Sl w cO B l2) (hc2:l2.length≤cap2) (hm2:cap2≤9223372036854775807) (hL:Laid w) (h1:smallL l=true) (h2:smallL l2=true) (hne:l2≠[]) :
  Calls Tryz.prog 9 #[.slice A l.length cap,.slice B l2.length cap2] w fun e w'=>e=.returned (.bool true)∧Below w.heap.size w w':=by
 obtain⟨ad,rfl, -⟩:=hs2 hne
 have HL:=Lib.hid hL
 have HA:=Lib.hid (And.intro hs (show l.length≤9223372036854775807 by omega))
 have HB:=Lib.hid (And.intro hs2 (show l2.length≤9223372036854775807 by omega))
 clear hL hs hs2
 have HS1:=Lib.hid h1
 have HS2:=Lib.hid h2
 have HM:=Lib.hid (small_mem h1)
 have HM2:=Lib.hid (small_mem h2)
 have HNE:=Lib.hid hne
 obtain⟨s0,hs0⟩:∃ s0,runT (Tk.new 3) l=s0:=⟨_,rfl⟩
 have HRT:=Lib.hid hs0
 have HA0:=Lib.hid (show AskE s0 by rw[← hs0];exact ask_run 3 l)
 obtain⟨n,hn⟩:∃ n,l2.length=n:=⟨_,rfl⟩
 have HNN:=Lib.hid hn
 have hn60:n≤60:=by rw[← hn];exact HM2.out.1
 rw[hn] at hc2 ⊢
 clear h1 h2 hne hs0 hn
 go_enter Tryz.func9,Tryz.ntmps9
 go_wp2_with (first
  | (go_at_call 27;refine (clone27 b s0 F W7 H7.out.1.tk H7.out.1.inv.a100 H7.out.1.inv.k100).mono ?_;rintro e w8 ⟨kc,F2,rfl,hT8,hF8,hb8⟩;have hn8:=H7.out.2.2.1.keep hb8;have ln:=Row.okw hn8 (cT_length r);have n1:=ln.1;have n2:rdA w8 ⟨nx,0,none⟩ 4=vT r:=ln.2;obtain⟨x5,W9,W10,hx5,hW9,rokx,hW10,hrx,hb10,hxl⟩:=row_made (ds:=cT r) (t:=60) w8 (cT_length zT);rw[show w8.alloc (.cells (cT zT).toArray 60)=w8.alloc (.cells (aT zT) 60) from rfl] at hW9;rw[show W9.setRow x5 (cT r).toArray=W9.setRow x5 (aT r) from rfl] at hW10;have HC:=Lib.hid (clo_start H7.out.1 H7.out.2.1 H7.out.2.2.2.1 H7.out.2.2.2.2 hn8 hT8 hF8 hb8 hx5 hrx hb10);clear hT8 hF8 hb8 hn8 ln hrx hb10)
  | (go_at_call 26;refine (run26 3 (by decide) (by decide) w A cap l w3 HL.out H3.out (HA.out.1.keep H3.out) HM.out.2 HM.out.1).mono ?_;rw[HRT.out];rintro e w5 ⟨b,r,F,rfl,ht5,hr5,hk5⟩;obtain⟨nx,W6,W7,hnx,hW6,rokn,hW7,hrn,hb7,hnl⟩:=row_made (ds:=cT r) (t:=60) w5 (cT_length zT);rw[show w5.alloc (.cells (cT zT).toArray 60)=w5.alloc (.cells (aT zT) 60) from rfl] at hW6;rw[show W6.setRow nx (cT r).toArray=W6.setRow nx (aT r) from rfl] at hW7;have H7:=Lib.hid (And.intro (ht5.keep hb7) (And.intro (hr5.keep hb7) (And.intro hrn (And.intro (((Kp.of_below H3.out).trans hk5).trans (Kp.of_below hb7)) (show nx∉F from fun h=>by have:=ht5.lt nx h;omega)))));clear ht5 hr5 hk5 hb7 hrn)
  | (go_at_call 12;refine (small12n (some ad) cap2 l2 w2 (HB.out.1.keep H2.out) HB.out.2 n HNN.out).mono ?_;rw[HS2.out];rintro e w3 ⟨rfl,hb3⟩;have H3:=Lib.hid (Below.step H2.out hb3);clear hb3)
  | (go_at_call 12;refine (small12 A cap l w1 (HA.out.1.keep H1.out) HA.out.2).mono ?_;rw[HS1.out];rintro e w2 ⟨rfl,hb2⟩;have H2:=Lib.hid (Below.step H1.out hb2);clear hb2)
  | (go_at_call 11;refine (known34 w HL.out).mono ?_;rintro e w1 ⟨rfl,hb1⟩;have H1:=Lib.hid hb1;clear hb1))
 go_loopw [7,10] (fun v i wr=>∃ (vb:Bool) (k:Nat) (s:Tk) (F:List Nat) (rr:Rt),v=.bool vb∧i=.int .i64 k∧k≤n∧s=runT s0 (l2.take k)∧RunI w b s F rr rr w x5 wr∧CloI w kc s0 F2 r nx F x5 wr) (fun _ i _=>n+1 - (intOf i).toNat)
 case atStart=>exact⟨_,0,_,_,_,rfl,rfl,Nat.zero_le _,rfl,HC.out.1,HC.out.2⟩
 case round =>
  obtain⟨vb,k,s,F,rr,rfl,rfl,hk,hsr,hI,hC⟩:=hrel
  have HI:=Lib.hid (And.intro hI hC)
  clear hI hC
  by_cases hlt:k<n
  ·have hlt1:(k:Int)<(n:Int):=by omega
   have hkl2:k<l2.length:=by rw[HNN.out];exact hlt
   obtain⟨a1,e1,hat⟩:=Sl.at_ cO_length (HB.out.1.keep' HI.out.1.kp) hkl2
   cases e1
   obtain⟨p,hp⟩:∃ p,l2[k]=p:=⟨_,rfl⟩
   have HPP:=Lib.hid hp
   rw[hp] at hat
   have HAT:=Lib.hid hat
   have HZ:=Lib.hid (show p.cmd.text.size≤200∧p.cmd.name.size≤100 by rw[← hp];exact HM2.out.2 _ (List.getElem_mem hkl2))
   have HKL:=Lib.hid hsr.symm
   clear hat hp hsr
   go_wp2
   refine AnyO.wp_anyI (by kernel_rfl) (by kernel_rfl) (AnyO.InvG (σ:=Rt×List Nat) (fun σ=>AnyO.pvL [some (.pointer (some ⟨b,0,none⟩)),some (vT rr),some (.slice (some ad) n cap2),some (.int .i64 (k:Int)),some (.pointer (some (ad.add (k * 41)))),some (vO p),some (.tuple #[vT σ.1,.bool true]),some (.tuple #[vT σ.1,.bool true]),some (vT σ.1),some (.bool true),none,some (.bool true)]) (fun σ D u=>CloW w b (stepT s p) rr x5 kc s0 F2 r nx wr σ (D 6) (D 10) u)) (AnyO.InvG.start (g:=(rr,[])) (below_drew _)) ?_ ?_
   ·intro i hi
    have hi2:i=1∨i=5∨i=6∨i=10∨i=0∨i=2∨i=3∨i=4∨i=7∨i=8∨i=9∨i=11:=by simp only[List.size_toArray,List.length_cons,List.length_nil] at hi;omega
    clear hi
    rcases hi2 with rfl|rfl|rfl|rfl|rfl|rfl|rfl|rfl|rfl|rfl|rfl|rfl
    ·refine AnyO.I rfl [] ?_;rintro D vs u σ Q h0 hC hp ac hb K hK
     have s9:=AnyO.sz (v:=.pointer (some ⟨x5,0,none⟩)) 9 hb
     have hf6:=AnyO.fls (hC.out 6) h0 (show AnyO.pre _ 6=[0,1,5] from by kernel_rfl) (by decide)
     have hst:=Q.out.2
     rw[show D 6=false from hf6] at hst
     have lk:=(HI.out.1.keep hst).ld
     have rr1:=lk.1
     have rr2:=lk.2
     clear hst hf6 lk
     go_simp;exact hK _ _ (AnyO.InvG.step (g:=σ) Q.out.1 rfl Q.out.2)
    ·refine AnyO.I rfl [4] ?_;rintro D vs u σ Q h0 hC hp ac hb K hK
     have s46:_=_:=AnyO.sv 46 4 hb hp Q
     have hf6:=AnyO.fls (hC.out 6) h0 (show AnyO.pre _ 6=[0,1,5] from by kernel_rfl) (by decide)
     have hst:=Q.out.2
     rw[show D 6=false from hf6] at hst
     have hat:=HAT.out.keep hst
     have rr1:=hat.opv.1
     have rr2:=hat.opv.2
     clear hst hf6 hat
     go_simp;exact hK _ _ (AnyO.InvG.step (g:=σ) Q.out.1 rfl Q.out.2)
    ·refine AnyO.I rfl [0,1,5] ?_;rintro D vs u σ Q h0 hC hp ac hb K hK
     have s42:_=_:=AnyO.sv 42 0 hb hp Q
     have s43:_=_:=AnyO.sv 43 1 hb hp Q
     have s47:_=_:=AnyO.sv 47 5 hb hp Q
     have hf7:=AnyO.fls (hC.out 7) h0 (show AnyO.pre _ 7=[6] from by kernel_rfl) (by decide)
     have hf8:=AnyO.fls (hC.out 8) hf7 (show AnyO.pre _ 8=[7] from by kernel_rfl) (by decide)
     have hf10:=AnyO.fls (hC.out 10) hf8 (show AnyO.pre _ 10=[8,6,0,1,2,3,4,5,6,7,8] from by kernel_rfl) (by decide)
     go_simp
     have hst:=Q.out.2
     rw[show D 6=false from h0] at hst
     go_at_call 33
     have HU:=HI.out.1.keep hst
     have HV:=HI.out.2.keep hst
     refine (do33 w b s F rr p u HL.out HU.tb [x5] (fun k hk=>by rw[List.mem_singleton.1 hk];exact HU.row.lt) HU.rf HZ.out).mono ?_
     rintro e w2 ⟨r',F',rfl,ht',hr',hk'⟩
     refine hK _ _ (AnyO.InvG.ghost (g:=σ) (r',F') Q.out.1 ?_ rfl ?_)
     ·intro j hj hq
      rcases j with _|_|_|_|_|_|_|_|_|_|_|_|j
      all_goals first|exact hq|exact absurd (show D 6=true from hj) (by rw[h0];decide)|exact absurd (show D 7=true from hj) (by rw[hf7];decide)|exact absurd (show D 8=true from hj) (by rw[hf8];decide)|exact absurd (show D 10=true from hj) (by rw[hf10];decide)
     rw[show AnyO.addD D 6 6=true from rfl,show AnyO.addD D 6 10=D 10 from rfl,hf10]
     exact⟨HU.turn ht' hr' hk',HV.turn hk' ht'.bel⟩
    ·refine AnyO.I rfl [8,6,0,1,2,3,4,5,6,7,8] ?_;rintro D vs u σ Q h0 hC hp ac hb K hK
     have s9:=AnyO.sz (v:=.pointer (some ⟨x5,0,none⟩)) 9 hb
     have s49:_=_:=AnyO.sv 49 8 hb hp Q
     have hp6:D 6=true:=hp.out 6 (by decide)
     have hst:=Q.out.2
     rw[show D 6=true from hp6,show D 10=false from h0] at hst
     have SS:=RunI.st hst.1 (Nat.le_refl _)
     have ro:=SS.1
     have RP:=Lib.hid (And.intro SS.2 (hst.2.st σ.1 SS.2.tb.bel))
     clear hst SS
     go_simp
     exact hK undef _ (AnyO.InvG.step (g:=σ) Q.out.1 trivial (by rw[show AnyO.addD D 10 6=D 6 from rfl,hp6,show AnyO.addD D 10 10=true from rfl];exact RP.out))
    all_goals
     refine AnyO.J rfl ?_;rintro D vs u σ Q h0 hC hp ac hb K hK
     try have s5:ac.tmps[5]?.getD undef=.pointer (some ⟨b,0,none⟩):=by rw[hb.out];kernel_rfl
     try have s1:ac.tmps[1]?.getD undef=.slice (some ad) n cap2:=by rw[hb.out];kernel_rfl
     try have s10:ac.tmps[10]?.getD undef=.int .i64 (k:Int):=by rw[hb.out];kernel_rfl
     try have s44:_=_:=AnyO.sv 44 2 hb hp Q
     try have s45:_=_:=AnyO.sv 45 3 hb hp Q
     try have s48:_=_:=AnyO.sv 48 6 hb hp Q
     try have s41:_=_:=AnyO.sv 41 7 hb hp Q
     try have s50:_=_:=AnyO.sv 50 9 hb hp Q
     have hkl:(k:Int)<(n:Int):=by omega
     go_simp
     exact hK _ _ (AnyO.InvG.step (g:=σ) Q.out.1 rfl Q.out.2)
   ·intro D vs u hI hD
    obtain⟨σ,hP,hW⟩:=hI
    have e0:_=_:=hP 0 (hD 0 (by decide))
    have e1:_=_:=hP 1 (hD 1 (by decide))
    have e2:_=_:=hP 2 (hD 2 (by decide))
    have e3:_=_:=hP 3 (hD 3 (by decide))
    have e4:_=_:=hP 4 (hD 4 (by decide))
    have e5:_=_:=hP 5 (hD 5 (by decide))
    have e6:_=_:=hP 6 (hD 6 (by decide))
    have e7:_=_:=hP 7 (hD 7 (by decide))
    have e8:_=_:=hP 8 (hD 8 (by decide))
    have e9:_=_:=hP 9 (hD 9 (by decide))
    have e11:_=_:=hP 11 (hD 11 (by decide))
    have hst:=hW
    rw[show D 6=true from hD 6 (by decide),show D 10=true from hD 10 (by decide)] at hst
    have HST:=Lib.hid (show RunI w b (stepT s p) σ.2 σ.1 σ.1 w x5 u∧CloI w kc s0 F2 r nx σ.2 x5 u from hst)
    clear hst
    have HW:=Lib.hid hW
    clear hW hP hD
    rw[puts_range [some 42,some 43,some 44,some 45,some 46,some 47,some 48,some 41,some 49,some 50,none,some 7] (by kernel_rfl)]
    simp only[putL,Nat.reduceAdd,e0,e1,e2,e3,e4,e5,e6,e7,e8,e9,e11]
    clear e0 e1 e2 e3 e4 e5 e6 e7 e8 e9 e11
    go_simp
    go_wp2
    go_roundw
    case rel=>exact⟨_,k+1,stepT s p,σ.2,σ.1,rfl,by go_num,hlt,by rw[runT_snoc _ _ _ hkl2,HKL.out,HPP.out],HST.out.1,HST.out.2⟩
    case measure=>simp[intOf] <;> omega
  ·have hlt1:¬ (k:Int)<(n:Int):=by omega
   have HA1:=Lib.hid (show AskE s by rw[hsr];exact ask_runT HA0.out _)
   obtain⟨qe,hqe⟩:∃ qe,eqT s0 s=qe:=⟨_,rfl⟩
   have HQE:=Lib.hid hqe
   clear hqe hsr
   go_wp2
   refine AnyO.wp_anyI (by kernel_rfl) (by kernel_rfl) (AnyO.InvG (σ:=Unit) (fun σ=>AnyO.pvL [some (.pointer (some ⟨kc,0,none⟩)),some (vT r),some (.bool true),some (.bool true),some (.pointer (some ⟨b,0,none⟩)),some (vT rr),some (.bool true),some (.bool true),some (.bool true),some (.pointer (some ⟨kc,0,none⟩)),some (.pointer (some ⟨b,0,none⟩)),some (.bool qe),some (vT r),some (vT rr),some (.bool qe),some (.bool true),some (.bool true),some (.bool true),some (.pointer (some ⟨b,0,none⟩)),some (.bool false),some (.bool true),some (.bool true),some (.bool true)]) (fun _ _ u=>Below wr.heap.size wr u)) (AnyO.InvG.start (g:=()) (below_drew _)) ?_ ?_
   ·intro i hi
    have hi2:i=1∨i=2∨i=4∨i=5∨i=6∨i=9∨i=10∨i=11∨i=12∨i=13∨i=14∨i=15∨i=18∨i=19∨i=20∨i=0∨i=3∨i=7∨i=8∨i=16∨i=17∨i=21∨i=22:=by simp only[List.size_toArray,List.length_cons,List.length_nil] at hi;omega
    clear hi
    rcases hi2 with rfl|rfl|rfl|rfl|rfl|rfl|rfl|rfl|rfl|rfl|rfl|rfl|rfl|rfl|rfl|rfl|rfl|rfl|rfl|rfl|rfl|rfl|rfl
    ·refine AnyO.I rfl [] ?_;rintro D vs u σ Q h0 hC hp ac hb K hK
     have s6:=AnyO.sz (v:=.pointer (some ⟨nx,0,none⟩)) 6 hb
     have lk:=Row.okw (HI.out.2.row.keep Q.out.2) (cT_length r)
     have rr1:=lk.1
     have rr2:rdA u ⟨nx,0,none⟩ 4=vT r:=lk.2
     clear lk
     go_simp;exact hK _ _ (AnyO.InvG.step (g:=σ) Q.out.1 rfl Q.out.2)
    ·refine AnyO.I rfl [0,1] ?_;rintro D vs u σ Q h0 hC hp ac hb K hK
     have s53:_=_:=AnyO.sv 53 0 hb hp Q
     have s54:_=_:=AnyO.sv 54 1 hb hp Q
     go_simp
     go_at_call 31
     refine (view31 w kc s0 F2 (F++[x5]) r u (HI.out.2.tb.keep Q.out.2) (HI.out.2.rf.keep Q.out.2) HA0.out).mono ?_
     rintro e w2 ⟨rfl,hb2⟩
     exact hK _ _ (AnyO.InvG.step (g:=σ) Q.out.1 rfl (Below.step Q.out.2 hb2))
    ·refine AnyO.StepI.mk rfl [3] (by kernel_rfl) ?_;rintro D vs u ⟨σ,hP,hW⟩ h0 hC hp ac hb K hK
     have s5:ac.tmps[5]?.getD undef=.pointer (some ⟨b,0,none⟩):=by rw[hb];kernel_rfl
     have s56:=AnyO.slot 56 hb (by kernel_rfl) (hP 3 (hp 3 (by decide)))
     rw[if_pos (AnyO.wanted_some (g:=3) (t:=56) (want:=true) rfl rfl s56)]
     clear hb hp
     clear hC h0;have HPW:=Lib.hid (And.intro hP hW);clear hP hW;go_simp;exact hK _ _ (AnyO.InvG.step (g:=σ) HPW.out.1 rfl HPW.out.2)
    ·refine AnyO.StepI.mk rfl [3] (by kernel_rfl) ?_;rintro D vs u ⟨σ,hP,hW⟩ h0 hC hp ac hb K hK
     have s9:ac.tmps[9]?.getD undef=.pointer (some ⟨x5,0,none⟩):=by rw[hb];kernel_rfl
     have s56:=AnyO.slot 56 hb (by kernel_rfl) (hP 3 (hp 3 (by decide)))
     rw[if_pos (AnyO.wanted_some (g:=3) (t:=56) (want:=true) rfl rfl s56)]
     clear hb hp
     have lk:=(HI.out.1.keep hW).ld
     have rr1:=lk.1
     have rr2:=lk.2
     clear lk
     clear hC h0;have HPW:=Lib.hid (And.intro hP hW);clear hP hW;go_simp;exact hK _ _ (AnyO.InvG.step (g:=σ) HPW.out.1 rfl HPW.out.2)
    ·refine AnyO.StepI.mk rfl [4,5,3,3] (by kernel_rfl) ?_;rintro D vs u ⟨σ,hP,hW⟩ h0 hC hp ac hb K hK
     have s57:=AnyO.slot 57 hb (by kernel_rfl) (hP 4 (hp 4 (by decide)))
     have s58:=AnyO.slot 58 hb (by kernel_rfl) (hP 5 (hp 5 (by decide)))
     have s56:=AnyO.slot 56 hb (by kernel_rfl) (hP 3 (hp 3 (by decide)))
     rw[if_pos (AnyO.wanted_some (g:=3) (t:=56) (want:=true) rfl rfl s56)]
     clear hb hp
     clear hC h0;have HPW:=Lib.hid (And.intro hP hW);clear hP hW;go_simp;obtain⟨hP,hW⟩:=HPW.out
     go_at_call 31
     refine (view31 w b s F (F++[x5]) rr u (HI.out.1.tb.keep hW) (HI.out.1.rf.keep hW) HA1.out).mono ?_
     rintro e w2 ⟨rfl,hb2⟩
     exact hK _ _ (AnyO.InvG.step (g:=σ) hP rfl (Below.step hW hb2))
    ·refine AnyO.StepI.mk rfl [8] (by kernel_rfl) ?_;rintro D vs u ⟨σ,hP,hW⟩ h0 hC hp ac hb K hK
     have s8:ac.tmps[8]?.getD undef=.pointer (some ⟨kc,0,none⟩):=by rw[hb];kernel_rfl
     have s61:=AnyO.slot 61 hb (by kernel_rfl) (hP 8 (hp 8 (by decide)))
     rw[if_pos (AnyO.wanted_some (g:=8) (t:=61) (want:=true) rfl rfl s61)]
     clear hb hp
     clear hC h0;have HPW:=Lib.hid (And.intro hP hW);clear hP hW;go_simp;exact hK _ _ (AnyO.InvG.step (g:=σ) HPW.out.1 rfl HPW.out.2)
    ·refine AnyO.StepI.mk rfl [8] (by kernel_rfl) ?_;rintro D vs u ⟨σ,hP,hW⟩ h0 hC hp ac hb K hK
     have s5:ac.tmps[5]?.getD undef=.pointer (some ⟨b,0,none⟩):=by rw[hb];kernel_rfl
     have s61:=AnyO.slot 61 hb (by kernel_rfl) (hP 8 (hp 8 (by decide)))
     rw[if_pos (AnyO.wanted_some (g:=8) (t:=61) (want:=true) rfl rfl s61)]
     clear hb hp
     clear hC h0;have HPW:=Lib.hid (And.intro hP hW);clear hP hW;go_simp;exact hK _ _ (AnyO.InvG.step (g:=σ) HPW.out.1 rfl HPW.out.2)
    ·refine AnyO.StepI.mk rfl [9,10,8,8] (by kernel_rfl) ?_;rintro D vs u ⟨σ,hP,hW⟩ h0 hC hp ac hb K hK
     have s62:=AnyO.slot 62 hb (by kernel_rfl) (hP 9 (hp 9 (by decide)))
     have s63:=AnyO.slot 63 hb (by kernel_rfl) (hP 10 (hp 10 (by decide)))
     have s61:=AnyO.slot 61 hb (by kernel_rfl) (hP 8 (hp 8 (by decide)))
     rw[if_pos (AnyO.wanted_some (g:=8) (t:=61) (want:=true) rfl rfl s61)]
     clear hb hp
     clear hC h0;have HPW:=Lib.hid (And.intro hP hW);clear hP hW;go_simp;obtain⟨hP,hW⟩:=HPW.out
     go_at_call 29
     refine (equal29 kc b s0 s F2 F u (HI.out.2.tb.keep hW).tk (HI.out.1.tb.keep hW).tk HI.out.2.tb.inv.a100 HI.out.2.tb.inv.k100).mono ?_
     rw[HQE.out]
     rintro e w2 ⟨rfl,hb2⟩
     exact hK _ _ (AnyO.InvG.step (g:=σ) hP rfl (Below.step hW hb2))
    ·refine AnyO.StepI.mk rfl [8] (by kernel_rfl) ?_;rintro D vs u ⟨σ,hP,hW⟩ h0 hC hp ac hb K hK
     have s6:ac.tmps[6]?.getD undef=.pointer (some ⟨nx,0,none⟩):=by rw[hb];kernel_rfl
     have s61:=AnyO.slot 61 hb (by kernel_rfl) (hP 8 (hp 8 (by decide)))
     rw[if_pos (AnyO.wanted_some (g:=8) (t:=61) (want:=true) rfl rfl s61)]
     clear hb hp
     have lk:=Row.okw (HI.out.2.row.keep hW) (cT_length r)
     have rr1:=lk.1
     have rr2:rdA u ⟨nx,0,none⟩ 4=vT r:=lk.2
     clear lk
     clear hC h0;have HPW:=Lib.hid (And.intro hP hW);clear hP hW;go_simp;exact hK _ _ (AnyO.InvG.step (g:=σ) HPW.out.1 rfl HPW.out.2)
    ·refine AnyO.StepI.mk rfl [8] (by kernel_rfl) ?_;rintro D vs u ⟨σ,hP,hW⟩ h0 hC hp ac hb K hK
     have s9:ac.tmps[9]?.getD undef=.pointer (some ⟨x5,0,none⟩):=by rw[hb];kernel_rfl
     have s61:=AnyO.slot 61 hb (by kernel_rfl) (hP 8 (hp 8 (by decide)))
     rw[if_pos (AnyO.wanted_some (g:=8) (t:=61) (want:=true) rfl rfl s61)]
     clear hb hp
     have lk:=(HI.out.1.keep hW).ld
     have rr1:=lk.1
     have rr2:=lk.2
     clear lk
     clear hC h0;have HPW:=Lib.hid (And.intro hP hW);clear hP hW;go_simp;exact hK _ _ (AnyO.InvG.step (g:=σ) HPW.out.1 rfl HPW.out.2)
    ·refine AnyO.StepI.mk rfl [12,13,11,8] (by kernel_rfl) ?_;rintro D vs u ⟨σ,hP,hW⟩ h0 hC hp ac hb K hK
     have s65:=AnyO.slot 65 hb (by kernel_rfl) (hP 12 (hp 12 (by decide)))
     have s66:=AnyO.slot 66 hb (by kernel_rfl) (hP 13 (hp 13 (by decide)))
     have s61:=AnyO.slot 61 hb (by kernel_rfl) (hP 8 (hp 8 (by decide)))
     rw[if_pos (AnyO.wanted_some (g:=8) (t:=61) (want:=true) rfl rfl s61)]
     clear hb hp
     clear hC h0;have HPW:=Lib.hid (And.intro hP hW);clear hP hW;go_simp;obtain⟨hP,hW⟩:=HPW.out
     go_at_call 34
     refine (refSame34 (F++[x5]) (F++[x5]) s0 s r rr u (HI.out.2.rf.keep hW) (HI.out.1.rf.keep hW) HI.out.2.tb.inv.a100 HI.out.2.tb.inv.k100 HI.out.1.tb.inv.a100 HI.out.1.tb.inv.k100).mono ?_
     rw[HQE.out]
     rintro e w2 ⟨rfl,hb2⟩
     exact hK _ _ (AnyO.InvG.step (g:=σ) hP rfl (Below.step hW hb2))
    ·refine AnyO.StepI.mk rfl [11,14,8] (by kernel_rfl) ?_;rintro D vs u ⟨σ,hP,hW⟩ h0 hC hp ac hb K hK
     have s64:=AnyO.slot 64 hb (by kernel_rfl) (hP 11 (hp 11 (by decide)))
     have s67:=AnyO.slot 67 hb (by kernel_rfl) (hP 14 (hp 14 (by decide)))
     have s61:=AnyO.slot 61 hb (by kernel_rfl) (hP 8 (hp 8 (by decide)))
     rw[if_pos (AnyO.wanted_some (g:=8) (t:=61) (want:=true) rfl rfl s61)]
     clear hb hp
     clear hC h0;have HPW:=Lib.hid (And.intro hP hW);clear hP hW;go_simp;exact hK _ _ (AnyO.InvG.step (g:=σ) HPW.out.1 rfl HPW.out.2)
    ·refine AnyO.StepI.mk rfl [17] (by kernel_rfl) ?_;rintro D vs u ⟨σ,hP,hW⟩ h0 hC hp ac hb K hK
     have s5:ac.tmps[5]?.getD undef=.pointer (some ⟨b,0,none⟩):=by rw[hb];kernel_rfl
     have s70:=AnyO.slot 70 hb (by kernel_rfl) (hP 17 (hp 17 (by decide)))
     rw[if_pos (AnyO.wanted_some (g:=17) (t:=70) (want:=true) rfl rfl s70)]
     clear hb hp
     clear hC h0;have HPW:=Lib.hid (And.intro hP hW);clear hP hW;go_simp;exact hK _ _ (AnyO.InvG.step (g:=σ) HPW.out.1 rfl HPW.out.2)
    ·refine AnyO.StepI.mk rfl [18,17,17] (by kernel_rfl) ?_;rintro D vs u ⟨σ,hP,hW⟩ h0 hC hp ac hb K hK
     have s71:=AnyO.slot 71 hb (by kernel_rfl) (hP 18 (hp 18 (by decide)))
     have s70:=AnyO.slot 70 hb (by kernel_rfl) (hP 17 (hp 17 (by decide)))
     rw[if_pos (AnyO.wanted_some (g:=17) (t:=70) (want:=true) rfl rfl s70)]
     clear hb hp
     clear hC h0;have HPW:=Lib.hid (And.intro hP hW);clear hP hW;go_simp;obtain⟨hP,hW⟩:=HPW.out
     go_at_call 29
     refine (equal29_np2 b u).mono ?_
     rintro e w2 ⟨rfl,hb2⟩
     exact hK _ _ (AnyO.InvG.step (g:=σ) hP rfl (Below.step hW hb2))
    ·refine AnyO.StepI.mk rfl [19,17] (by kernel_rfl) ?_;rintro D vs u ⟨σ,hP,hW⟩ h0 hC hp ac hb K hK
     have s72:=AnyO.slot 72 hb (by kernel_rfl) (hP 19 (hp 19 (by decide)))
     have s70:=AnyO.slot 70 hb (by kernel_rfl) (hP 17 (hp 17 (by decide)))
     rw[if_pos (AnyO.wanted_some (g:=17) (t:=70) (want:=true) rfl rfl s70)]
     clear hb hp
     clear hC h0;have HPW:=Lib.hid (And.intro hP hW);clear hP hW;go_simp;exact hK _ _ (AnyO.InvG.step (g:=σ) HPW.out.1 rfl HPW.out.2)
    all_goals
     refine AnyO.J rfl ?_;rintro D vs u σ Q h0 hC hp ac hb K hK
     try have s8:ac.tmps[8]?.getD undef=.pointer (some ⟨kc,0,none⟩):=by rw[hb.out];kernel_rfl
     try have s55:_=_:=AnyO.sv 55 2 hb hp Q
     try have s56:_=_:=AnyO.sv 56 3 hb hp Q
     try have s59:_=_:=AnyO.sv 59 6 hb hp Q
     try have s60:_=_:=AnyO.sv 60 7 hb hp Q
     try have s61:_=_:=AnyO.sv 61 8 hb hp Q
     try have s68:_=_:=AnyO.sv 68 15 hb hp Q
     try have s69:_=_:=AnyO.sv 69 16 hb hp Q
     try have s70:_=_:=AnyO.sv 70 17 hb hp Q
     try have s73:_=_:=AnyO.sv 73 20 hb hp Q
     try have s74:_=_:=AnyO.sv 74 21 hb hp Q
     go_simp
     exact hK _ _ (AnyO.InvG.step (g:=σ) Q.out.1 rfl Q.out.2)
   ·intro D vs u hI hD
    obtain⟨σ,hP,hW⟩:=hI
    have e0:_=_:=hP 0 (hD 0 (by decide))
    have e1:_=_:=hP 1 (hD 1 (by decide))
    have e2:_=_:=hP 2 (hD 2 (by decide))
    have e3:_=_:=hP 3 (hD 3 (by decide))
    have e4:_=_:=hP 4 (hD 4 (by decide))
    have e5:_=_:=hP 5 (hD 5 (by decide))
    have e6:_=_:=hP 6 (hD 6 (by decide))
    have e7:_=_:=hP 7 (hD 7 (by decide))
    have e8:_=_:=hP 8 (hD 8 (by decide))
    have e9:_=_:=hP 9 (hD 9 (by decide))
    have e10:_=_:=hP 10 (hD 10 (by decide))
    have e11:_=_:=hP 11 (hD 11 (by decide))
    have e12:_=_:=hP 12 (hD 12 (by decide))
    have e13:_=_:=hP 13 (hD 13 (by decide))
    have e14:_=_:=hP 14 (hD 14 (by decide))
    have e15:_=_:=hP 15 (hD 15 (by decide))
    have e16:_=_:=hP 16 (hD 16 (by decide))
    have e17:_=_:=hP 17 (hD 17 (by decide))
    have e18:_=_:=hP 18 (hD 18 (by decide))
    have e19:_=_:=hP 19 (hD 19 (by decide))
    have e20:_=_:=hP 20 (hD 20 (by decide))
    have e21:_=_:=hP 21 (hD 21 (by decide))
    have e22:_=_:=hP 22 (hD 22 (by decide))
    have HST:=Lib.hid hW
    have HW:=Lib.hid hW
    clear hW hP hD
    rw[puts_range [some 53,some 54,some 55,some 56,some 57,some 58,some 59,some 60,some 61,some 62,some 63,some 64,some 65,some 66,some 67,some 68,some 69,some 70,some 71,some 72,some 73,some 74,some 4] (by kernel_rfl)]
    simp only[putL,Nat.reduceAdd,e0,e1,e2,e3,e4,e5,e6,e7,e8,e9,e10,e11,e12,e13,e14,e15,e16,e17,e18,e19,e20,e21,e22]
    clear e0 e1 e2 e3 e4 e5 e6 e7 e8 e9 e10 e11 e12 e13 e14 e15 e16 e17 e18 e19 e20 e21 e22
    go_simp
    go_wp2
    go_ret
    exact⟨rfl,(HI.out.1.tb.keep HST.out).bel⟩
theorem law9_nil (A:Option Addr) (cap:Nat) (l:List Opn) (B:Option Addr) (cap2:Nat) (l2:List Opn) (w:World) (hs:Sl w cO A l) (hc:l.length≤cap) (hm:cap≤9223372036854775807) (hs2:Sl w cO B l2) (hc2:l2.length≤cap2) (hm2:cap2≤9223372036854775807) (hL:Laid w) (h1:smallL l=true) (h2:smallL l2=true) (hne:l2=[]) :
  Calls Tryz.prog 9 #[.slice A l.length cap,.slice B l2.length cap2] w fun e w'=>e=.returned (.bool true)∧Below w.heap.size w w':=by
 have HL:=Lib.hid hL
 have HA:=Lib.hid (And.intro hs (show l.length≤9223372036854775807 by omega))
 have HB:=Lib.hid (And.intro hs2 (show l2.length≤9223372036854775807 by omega))
 clear hL hs hs2
 have HS1:=Lib.hid h1
 have HS2:=Lib.hid h2
 have HM:=Lib.hid (small_mem h1)
 have HM2:=Lib.hid (small_mem h2)
 have HNE:=Lib.hid hne
 obtain⟨s0,hs0⟩:∃ s0,runT (Tk.new 3) l=s0:=⟨_,rfl⟩
 have HRT:=Lib.hid hs0
 have HA0:=Lib.hid (show AskE s0 by rw[← hs0];exact ask_run 3 l)
 obtain⟨n,hn⟩:∃ n,l2.length=n:=⟨_,rfl⟩
 have HNN:=Lib.hid hn
 have hn60:n≤60:=by rw[← hn];exact HM2.out.1
 rw[hn] at hc2 ⊢
 clear h1 h2 hne hs0 hn
 go_enter Tryz.func9,Tryz.ntmps9
 go_wp2_with (first
  | (go_at_call 27;refine (clone27 b s0 F W7 H7.out.1.tk H7.out.1.inv.a100 H7.out.1.inv.k100).mono ?_;rintro e w8 ⟨kc,F2,rfl,hT8,hF8,hb8⟩;have hn8:=H7.out.2.2.1.keep hb8;have ln:=Row.okw hn8 (cT_length r);have n1:=ln.1;have n2:rdA w8 ⟨nx,0,none⟩ 4=vT r:=ln.2;obtain⟨x5,W9,W10,hx5,hW9,rokx,hW10,hrx,hb10,hxl⟩:=row_made (ds:=cT r) (t:=60) w8 (cT_length zT);rw[show w8.alloc (.cells (cT zT).toArray 60)=w8.alloc (.cells (aT zT) 60) from rfl] at hW9;rw[show W9.setRow x5 (cT r).toArray=W9.setRow x5 (aT r) from rfl] at hW10;have HC:=Lib.hid (clo_start H7.out.1 H7.out.2.1 H7.out.2.2.2.1 H7.out.2.2.2.2 hn8 hT8 hF8 hb8 hx5 hrx hb10);clear hT8 hF8 hb8 hn8 ln hrx hb10)
  | (go_at_call 26;refine (run26 3 (by decide) (by decide) w A cap l w3 HL.out H3.out (HA.out.1.keep H3.out) HM.out.2 HM.out.1).mono ?_;rw[HRT.out];rintro e w5 ⟨b,r,F,rfl,ht5,hr5,hk5⟩;obtain⟨nx,W6,W7,hnx,hW6,rokn,hW7,hrn,hb7,hnl⟩:=row_made (ds:=cT r) (t:=60) w5 (cT_length zT);rw[show w5.alloc (.cells (cT zT).toArray 60)=w5.alloc (.cells (aT zT) 60) from rfl] at hW6;rw[show W6.setRow nx (cT r).toArray=W6.setRow nx (aT r) from rfl] at hW7;have H7:=Lib.hid (And.intro (ht5.keep hb7) (And.intro (hr5.keep hb7) (And.intro hrn (And.intro (((Kp.of_below H3.out).trans hk5).trans (Kp.of_below hb7)) (show nx∉F from fun h=>by have:=ht5.lt nx h;omega)))));clear ht5 hr5 hk5 hb7 hrn)
  | (go_at_call 12;refine (small12n B cap2 l2 w2 (HB.out.1.keep H2.out) HB.out.2 n HNN.out).mono ?_;rw[HS2.out];rintro e w3 ⟨rfl,hb3⟩;have H3:=Lib.hid (Below.step H2.out hb3);clear hb3)
  | (go_at_call 12;refine (small12 A cap l w1 (HA.out.1.keep H1.out) HA.out.2).mono ?_;rw[HS1.out];rintro e w2 ⟨rfl,hb2⟩;have H2:=Lib.hid (Below.step H1.out hb2);clear hb2)
  | (go_at_call 11;refine (known34 w HL.out).mono ?_;rintro e w1 ⟨rfl,hb1⟩;have H1:=Lib.hid hb1;clear hb1))
 go_loopw [7,10] (fun v i wr=>∃ (vb:Bool) (k:Nat) (s:Tk) (F:List Nat) (rr:Rt),v=.bool vb∧i=.int .i64 k∧k≤n∧s=runT s0 (l2.take k)∧RunI w b s F rr rr w x5 wr∧CloI w kc s0 F2 r nx F x5 wr) (fun _ i _=>n+1 - (intOf i).toNat)
 case atStart=>exact⟨_,0,_,_,_,rfl,rfl,Nat.zero_le _,rfl,HC.out.1,HC.out.2⟩
 case round =>
  obtain⟨vb,k,s,F,rr,rfl,rfl,hk,hsr,hI,hC⟩:=hrel
  have HI:=Lib.hid (And.intro hI hC)
  clear hI hC
  by_cases hlt:k<n
  ·exfalso
   have:=HNN.out
   rw[HNE.out] at this
   simp at this
   omega
  ·have hlt1:¬ (k:Int)<(n:Int):=by omega
   have HA1:=Lib.hid (show AskE s by rw[hsr];exact ask_runT HA0.out _)
   obtain⟨qe,hqe⟩:∃ qe,eqT s0 s=qe:=⟨_,rfl⟩
   have HQE:=Lib.hid hqe
   clear hqe hsr
   go_wp2
   refine AnyO.wp_anyI (by kernel_rfl) (by kernel_rfl) (AnyO.InvG (σ:=Unit) (fun σ=>AnyO.pvL [some (.pointer (some ⟨kc,0,none⟩)),some (vT r),some (.bool true),some (.bool true),some (.pointer (some ⟨b,0,none⟩)),some (vT rr),some (.bool true),some (.bool true),some (.bool true),some (.pointer (some ⟨kc,0,none⟩)),some (.pointer (some ⟨b,0,none⟩)),some (.bool qe),some (vT r),some (vT rr),some (.bool qe),some (.bool true),some (.bool true),some (.bool true),some (.pointer (some ⟨b,0,none⟩)),some (.bool false),some (.bool true),some (.bool true),some (.bool true)]) (fun _ _ u=>Below wr.heap.size wr u)) (AnyO.InvG.start (g:=()) (below_drew _)) ?_ ?_
   ·intro i hi
    have hi2:i=1∨i=2∨i=4∨i=5∨i=6∨i=9∨i=10∨i=11∨i=12∨i=13∨i=14∨i=15∨i=18∨i=19∨i=20∨i=0∨i=3∨i=7∨i=8∨i=16∨i=17∨i=21∨i=22:=by simp only[List.size_toArray,List.length_cons,List.length_nil] at hi;omega
    clear hi
    rcases hi2 with rfl|rfl|rfl|rfl|rfl|rfl|rfl|rfl|rfl|rfl|rfl|rfl|rfl|rfl|rfl|rfl|rfl|rfl|rfl|rfl|rfl|rfl|rfl
    ·refine AnyO.I rfl [] ?_;rintro D vs u σ Q h0 hC hp ac hb K hK
     have s6:=AnyO.sz (v:=.pointer (some ⟨nx,0,none⟩)) 6 hb
     have lk:=Row.okw (HI.out.2.row.keep Q.out.2) (cT_length r)
     have rr1:=lk.1
     have rr2:rdA u ⟨nx,0,none⟩ 4=vT r:=lk.2
     clear lk
     go_simp;exact hK _ _ (AnyO.InvG.step (g:=σ) Q.out.1 rfl Q.out.2)
    ·refine AnyO.I rfl [0,1] ?_;rintro D vs u σ Q h0 hC hp ac hb K hK
     have s53:_=_:=AnyO.sv 53 0 hb hp Q
     have s54:_=_:=AnyO.sv 54 1 hb hp Q
     go_simp
     go_at_call 31
     refine (view31 w kc s0 F2 (F++[x5]) r u (HI.out.2.tb.keep Q.out.2) (HI.out.2.rf.keep Q.out.2) HA0.out).mono ?_
     rintro e w2 ⟨rfl,hb2⟩
     exact hK _ _ (AnyO.InvG.step (g:=σ) Q.out.1 rfl (Below.step Q.out.2 hb2))
    ·refine AnyO.StepI.mk rfl [3] (by kernel_rfl) ?_;rintro D vs u ⟨σ,hP,hW⟩ h0 hC hp ac hb K hK
     have s5:ac.tmps[5]?.getD undef=.pointer (some ⟨b,0,none⟩):=by rw[hb];kernel_rfl
     have s56:=AnyO.slot 56 hb (by kernel_rfl) (hP 3 (hp 3 (by decide)))
     rw[if_pos (AnyO.wanted_some (g:=3) (t:=56) (want:=true) rfl rfl s56)]
     clear hb hp
     clear hC h0;have HPW:=Lib.hid (And.intro hP hW);clear hP hW;go_simp;exact hK _ _ (AnyO.InvG.step (g:=σ) HPW.out.1 rfl HPW.out.2)
    ·refine AnyO.StepI.mk rfl [3] (by kernel_rfl) ?_;rintro D vs u ⟨σ,hP,hW⟩ h0 hC hp ac hb K hK
     have s9:ac.tmps[9]?.getD undef=.pointer (some ⟨x5,0,none⟩):=by rw[hb];kernel_rfl
     have s56:=AnyO.slot 56 hb (by kernel_rfl) (hP 3 (hp 3 (by decide)))
     rw[if_pos (AnyO.wanted_some (g:=3) (t:=56) (want:=true) rfl rfl s56)]
     clear hb hp
     have lk:=(HI.out.1.keep hW).ld
     have rr1:=lk.1
     have rr2:=lk.2
     clear lk
     clear hC h0;have HPW:=Lib.hid (And.intro hP hW);clear hP hW;go_simp;exact hK _ _ (AnyO.InvG.step (g:=σ) HPW.out.1 rfl HPW.out.2)
    ·refine AnyO.StepI.mk rfl [4,5,3,3] (by kernel_rfl) ?_;rintro D vs u ⟨σ,hP,hW⟩ h0 hC hp ac hb K hK
     have s57:=AnyO.slot 57 hb (by kernel_rfl) (hP 4 (hp 4 (by decide)))
     have s58:=AnyO.slot 58 hb (by kernel_rfl) (hP 5 (hp 5 (by decide)))
     have s56:=AnyO.slot 56 hb (by kernel_rfl) (hP 3 (hp 3 (by decide)))
     rw[if_pos (AnyO.wanted_some (g:=3) (t:=56) (want:=true) rfl rfl s56)]
     clear hb hp
     clear hC h0;have HPW:=Lib.hid (And.intro hP hW);clear hP hW;go_simp;obtain⟨hP,hW⟩:=HPW.out
     go_at_call 31
     refine (view31 w b s F (F++[x5]) rr u (HI.out.1.tb.keep hW) (HI.out.1.rf.keep hW) HA1.out).mono ?_
     rintro e w2 ⟨rfl,hb2⟩
     exact hK _ _ (AnyO.InvG.step (g:=σ) hP rfl (Below.step hW hb2))
    ·refine AnyO.StepI.mk rfl [8] (by kernel_rfl) ?_;rintro D vs u ⟨σ,hP,hW⟩ h0 hC hp ac hb K hK
     have s8:ac.tmps[8]?.getD undef=.pointer (some ⟨kc,0,none⟩):=by rw[hb];kernel_rfl
     have s61:=AnyO.slot 61 hb (by kernel_rfl) (hP 8 (hp 8 (by decide)))
     rw[if_pos (AnyO.wanted_some (g:=8) (t:=61) (want:=true) rfl rfl s61)]
     clear hb hp
     clear hC h0;have HPW:=Lib.hid (And.intro hP hW);clear hP hW;go_simp;exact hK _ _ (AnyO.InvG.step (g:=σ) HPW.out.1 rfl HPW.out.2)
    ·refine AnyO.StepI.mk rfl [8] (by kernel_rfl) ?_;rintro D vs u ⟨σ,hP,hW⟩ h0 hC hp ac hb K hK
     have s5:ac.tmps[5]?.getD undef=.pointer (some ⟨b,0,none⟩):=by rw[hb];kernel_rfl
     have s61:=AnyO.slot 61 hb (by kernel_rfl) (hP 8 (hp 8 (by decide)))
     rw[if_pos (AnyO.wanted_some (g:=8) (t:=61) (want:=true) rfl rfl s61)]
     clear hb hp
     clear hC h0;have HPW:=Lib.hid (And.intro hP hW);clear hP hW;go_simp;exact hK _ _ (AnyO.InvG.step (g:=σ) HPW.out.1 rfl HPW.out.2)
    ·refine AnyO.StepI.mk rfl [9,10,8,8] (by kernel_rfl) ?_;rintro D vs u ⟨σ,hP,hW⟩ h0 hC hp ac hb K hK
     have s62:=AnyO.slot 62 hb (by kernel_rfl) (hP 9 (hp 9 (by decide)))
     have s63:=AnyO.slot 63 hb (by kernel_rfl) (hP 10 (hp 10 (by decide)))
     have s61:=AnyO.slot 61 hb (by kernel_rfl) (hP 8 (hp 8 (by decide)))
     rw[if_pos (AnyO.wanted_some (g:=8) (t:=61) (want:=true) rfl rfl s61)]
     clear hb hp
     clear hC h0;have HPW:=Lib.hid (And.intro hP hW);clear hP hW;go_simp;obtain⟨hP,hW⟩:=HPW.out
     go_at_call 29
     refine (equal29 kc b s0 s F2 F u (HI.out.2.tb.keep hW).tk (HI.out.1.tb.keep hW).tk HI.out.2.tb.inv.a100 HI.out.2.tb.inv.k100).mono ?_
     rw[HQE.out]
     rintro e w2 ⟨rfl,hb2⟩
     exact hK _ _ (AnyO.InvG.step (g:=σ) hP rfl (Below.step hW hb2))
    ·refine AnyO.StepI.mk rfl [8] (by kernel_rfl) ?_;rintro D vs u ⟨σ,hP,hW⟩ h0 hC hp ac hb K hK
     have s6:ac.tmps[6]?.getD undef=.pointer (some ⟨nx,0,none⟩):=by rw[hb];kernel_rfl
     have s61:=AnyO.slot 61 hb (by kernel_rfl) (hP 8 (hp 8 (by decide)))
     rw[if_pos (AnyO.wanted_some (g:=8) (t:=61) (want:=true) rfl rfl s61)]
     clear hb hp
     have lk:=Row.okw (HI.out.2.row.keep hW) (cT_length r)
     have rr1:=lk.1
     have rr2:rdA u ⟨nx,0,none⟩ 4=vT r:=lk.2
     clear lk
     clear hC h0;have HPW:=Lib.hid (And.intro hP hW);clear hP hW;go_simp;exact hK _ _ (AnyO.InvG.step (g:=σ) HPW.out.1 rfl HPW.out.2)
    ·refine AnyO.StepI.mk rfl [8] (by kernel_rfl) ?_;rintro D vs u ⟨σ,hP,hW⟩ h0 hC hp ac hb K hK
     have s9:ac.tmps[9]?.getD undef=.pointer (some ⟨x5,0,none⟩):=by rw[hb];kernel_rfl
     have s61:=AnyO.slot 61 hb (by kernel_rfl) (hP 8 (hp 8 (by decide)))
     rw[if_pos (AnyO.wanted_some (g:=8) (t:=61) (want:=true) rfl rfl s61)]
     clear hb hp
     have lk:=(HI.out.1.keep hW).ld
     have rr1:=lk.1
     have rr2:=lk.2
     clear lk
     clear hC h0;have HPW:=Lib.hid (And.intro hP hW);clear hP hW;go_simp;exact hK _ _ (AnyO.InvG.step (g:=σ) HPW.out.1 rfl HPW.out.2)
    ·refine AnyO.StepI.mk rfl [12,13,11,8] (by kernel_rfl) ?_;rintro D vs u ⟨σ,hP,hW⟩ h0 hC hp ac hb K hK
     have s65:=AnyO.slot 65 hb (by kernel_rfl) (hP 12 (hp 12 (by decide)))
     have s66:=AnyO.slot 66 hb (by kernel_rfl) (hP 13 (hp 13 (by decide)))
     have s61:=AnyO.slot 61 hb (by kernel_rfl) (hP 8 (hp 8 (by decide)))
     rw[if_pos (AnyO.wanted_some (g:=8) (t:=61) (want:=true) rfl rfl s61)]
     clear hb hp
     clear hC h0;have HPW:=Lib.hid (And.intro hP hW);clear hP hW;go_simp;obtain⟨hP,hW⟩:=HPW.out
     go_at_call 34
     refine (refSame34 (F++[x5]) (F++[x5]) s0 s r rr u (HI.out.2.rf.keep hW) (HI.out.1.rf.keep hW) HI.out.2.tb.inv.a100 HI.out.2.tb.inv.k100 HI.out.1.tb.inv.a100 HI.out.1.tb.inv.k100).mono ?_
     rw[HQE.out]
     rintro e w2 ⟨rfl,hb2⟩
     exact hK _ _ (AnyO.InvG.step (g:=σ) hP rfl (Below.step hW hb2))
    ·refine AnyO.StepI.mk rfl [11,14,8] (by kernel_rfl) ?_;rintro D vs u ⟨σ,hP,hW⟩ h0 hC hp ac hb K hK
     have s64:=AnyO.slot 64 hb (by kernel_rfl) (hP 11 (hp 11 (by decide)))
     have s67:=AnyO.slot 67 hb (by kernel_rfl) (hP 14 (hp 14 (by decide)))
     have s61:=AnyO.slot 61 hb (by kernel_rfl) (hP 8 (hp 8 (by decide)))
     rw[if_pos (AnyO.wanted_some (g:=8) (t:=61) (want:=true) rfl rfl s61)]
     clear hb hp
     clear hC h0;have HPW:=Lib.hid (And.intro hP hW);clear hP hW;go_simp;exact hK _ _ (AnyO.InvG.step (g:=σ) HPW.out.1 rfl HPW.out.2)
    ·refine AnyO.StepI.mk rfl [17] (by kernel_rfl) ?_;rintro D vs u ⟨σ,hP,hW⟩ h0 hC hp ac hb K hK
     have s5:ac.tmps[5]?.getD undef=.pointer (some ⟨b,0,none⟩):=by rw[hb];kernel_rfl
     have s70:=AnyO.slot 70 hb (by kernel_rfl) (hP 17 (hp 17 (by decide)))
     rw[if_pos (AnyO.wanted_some (g:=17) (t:=70) (want:=true) rfl rfl s70)]
     clear hb hp
     clear hC h0;have HPW:=Lib.hid (And.intro hP hW);clear hP hW;go_simp;exact hK _ _ (AnyO.InvG.step (g:=σ) HPW.out.1 rfl HPW.out.2)
    ·refine AnyO.StepI.mk rfl [18,17,17] (by kernel_rfl) ?_;rintro D vs u ⟨σ,hP,hW⟩ h0 hC hp ac hb K hK
     have s71:=AnyO.slot 71 hb (by kernel_rfl) (hP 18 (hp 18 (by decide)))
     have s70:=AnyO.slot 70 hb (by kernel_rfl) (hP 17 (hp 17 (by decide)))
     rw[if_pos (AnyO.wanted_some (g:=17) (t:=70) (want:=true) rfl rfl s70)]
     clear hb hp
     clear hC h0;have HPW:=Lib.hid (And.intro hP hW);clear hP hW;go_simp;obtain⟨hP,hW⟩:=HPW.out
     go_at_call 29
     refine (equal29_np2 b u).mono ?_
     rintro e w2 ⟨rfl,hb2⟩
     exact hK _ _ (AnyO.InvG.step (g:=σ) hP rfl (Below.step hW hb2))
    ·refine AnyO.StepI.mk rfl [19,17] (by kernel_rfl) ?_;rintro D vs u ⟨σ,hP,hW⟩ h0 hC hp ac hb K hK
     have s72:=AnyO.slot 72 hb (by kernel_rfl) (hP 19 (hp 19 (by decide)))
     have s70:=AnyO.slot 70 hb (by kernel_rfl) (hP 17 (hp 17 (by decide)))
     rw[if_pos (AnyO.wanted_some (g:=17) (t:=70) (want:=true) rfl rfl s70)]
     clear hb hp
     clear hC h0;have HPW:=Lib.hid (And.intro hP hW);clear hP hW;go_simp;exact hK _ _ (AnyO.InvG.step (g:=σ) HPW.out.1 rfl HPW.out.2)
    all_goals
     refine AnyO.J rfl ?_;rintro D vs u σ Q h0 hC hp ac hb K hK
     try have s8:ac.tmps[8]?.getD undef=.pointer (some ⟨kc,0,none⟩):=by rw[hb.out];kernel_rfl
     try have s55:_=_:=AnyO.sv 55 2 hb hp Q
     try have s56:_=_:=AnyO.sv 56 3 hb hp Q
     try have s59:_=_:=AnyO.sv 59 6 hb hp Q
     try have s60:_=_:=AnyO.sv 60 7 hb hp Q
     try have s61:_=_:=AnyO.sv 61 8 hb hp Q
     try have s68:_=_:=AnyO.sv 68 15 hb hp Q
     try have s69:_=_:=AnyO.sv 69 16 hb hp Q
     try have s70:_=_:=AnyO.sv 70 17 hb hp Q
     try have s73:_=_:=AnyO.sv 73 20 hb hp Q
     try have s74:_=_:=AnyO.sv 74 21 hb hp Q
     go_simp
     exact hK _ _ (AnyO.InvG.step (g:=σ) Q.out.1 rfl Q.out.2)
   ·intro D vs u hI hD
    obtain⟨σ,hP,hW⟩:=hI
    have e0:_=_:=hP 0 (hD 0 (by decide))
    have e1:_=_:=hP 1 (hD 1 (by decide))
    have e2:_=_:=hP 2 (hD 2 (by decide))
    have e3:_=_:=hP 3 (hD 3 (by decide))
    have e4:_=_:=hP 4 (hD 4 (by decide))
    have e5:_=_:=hP 5 (hD 5 (by decide))
    have e6:_=_:=hP 6 (hD 6 (by decide))
    have e7:_=_:=hP 7 (hD 7 (by decide))
    have e8:_=_:=hP 8 (hD 8 (by decide))
    have e9:_=_:=hP 9 (hD 9 (by decide))
    have e10:_=_:=hP 10 (hD 10 (by decide))
    have e11:_=_:=hP 11 (hD 11 (by decide))
    have e12:_=_:=hP 12 (hD 12 (by decide))
    have e13:_=_:=hP 13 (hD 13 (by decide))
    have e14:_=_:=hP 14 (hD 14 (by decide))
    have e15:_=_:=hP 15 (hD 15 (by decide))
    have e16:_=_:=hP 16 (hD 16 (by decide))
    have e17:_=_:=hP 17 (hD 17 (by decide))
    have e18:_=_:=hP 18 (hD 18 (by decide))
    have e19:_=_:=hP 19 (hD 19 (by decide))
    have e20:_=_:=hP 20 (hD 20 (by decide))
    have e21:_=_:=hP 21 (hD 21 (by decide))
    have e22:_=_:=hP 22 (hD 22 (by decide))
    have HST:=Lib.hid hW
    have HW:=Lib.hid hW
    clear hW hP hD
    rw[puts_range [some 53,some 54,some 55,some 56,some 57,some 58,some 59,some 60,some 61,some 62,some 63,some 64,some 65,some 66,some 67,some 68,some 69,some 70,some 71,some 72,some 73,some 74,some 4] (by kernel_rfl)]
    simp only[putL,Nat.reduceAdd,e0,e1,e2,e3,e4,e5,e6,e7,e8,e9,e10,e11,e12,e13,e14,e15,e16,e17,e18,e19,e20,e21,e22]
    clear e0 e1 e2 e3 e4 e5 e6 e7 e8 e9 e10 e11 e12 e13 e14 e15 e16 e17 e18 e19 e20 e21 e22
    go_simp
    go_wp2
    go_ret
    exact⟨rfl,(HI.out.1.tb.keep HST.out).bel⟩
end
theorem law9 (A:Option Addr) (cap:Nat) (l:List Opn) (B:Option Addr) (cap2:Nat) (l2:List Opn) (w:World) (hs:Sl w cO A l) (hi:∀ x∈l,x.ints) (hc:l.length≤cap) (hm:cap≤9223372036854775807) (hs2:Sl w cO B l2) (hi2:∀ x∈l2,x.ints) (hc2:l2.length≤cap2) (hm2:cap2≤9223372036854775807) (hL:Laid w) :
  Calls Tryz.prog 9 #[.slice A l.length cap,.slice B l2.length cap2] w fun e w'=>e=.returned (.bool true)∧Below w.heap.size w w':=by
 have _:=hi
 have _:=hi2
 cases h1:smallL l with
 | false=>exact law9_small1 A cap l B cap2 l2 w hs hc hm hs2 hc2 hm2 hL h1
 | true =>
  cases h2:smallL l2 with
  | false=>exact law9_small2 A cap l B cap2 l2 w hs hc hm hs2 hc2 hm2 hL h1 h2
  | true =>
   by_cases hne:l2=[]
   ·exact law9_nil A cap l B cap2 l2 w hs hc hm hs2 hc2 hm2 hL h1 h2 hne
   ·exact law9_cons A cap l B cap2 l2 w hs hc hm hs2 hc2 hm2 hL h1 h2 hne
end Go.Proofs.YtgojaelkdpabkaaGreatDoor
