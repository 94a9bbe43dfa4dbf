/- bulletinlaw34.run: what it leaves of a taker and of the reference. -/
import Derived.Test.YtgojaelkdpabkaaGreatDoorMDo2
import Derived.Test.YtgojaelkdpabkaaGreatDoorMDo3
import Derived.Test.YtgojaelkdpabkaaGreatDoorMDo4
import Derived.Test.YtgojaelkdpabkaaGreatDoorMSml
namespace Go.Proofs.YtgojaelkdpabkaaGreatDoor
open Go.RowKit
theorem do33 (w0:World) (b:Nat) (s:Tk) (F:List Nat) (r:Rt) (p:Opn) (w:World) (hL:Laid w0) (ht:TkB w0 b s F w) (X:List Nat) (hX:∀ k∈X,k<w.heap.size) (hr:RfAt (F++X) s r w) (hs:p.cmd.text.size≤200∧p.cmd.name.size≤100) :
  Calls Tryz.prog 33 #[.pointer (some ⟨b,0,none⟩),vT r,vO p] w (DoP w0 b (stepT s p) F X w):=by
 unfold stepT
 by_cases h0:p.kind=0
 ·rw[if_pos h0]
  exact do_hear w0 b s F r p w hL ht X hX hr hs h0
 rw[if_neg h0]
 by_cases h1:p.kind=1
 ·rw[if_pos h1]
  exact do_answer w0 b s F r p w hL ht X hX hr hs h1
 rw[if_neg h1]
 by_cases h2:p.kind=2
 ·rw[if_pos h2]
  exact do_accepted w0 b s F r p w hL ht X hX hr hs h2
 rw[if_neg h2]
 by_cases h3:p.kind=3
 ·rw[if_pos h3]
  exact do_cancel w0 b s F r p w hL ht X hX hr hs h3
 rw[if_neg h3]
 by_cases h4:p.kind=4
 ·rw[if_pos h4]
  exact do_forget w0 b s F r p w hL ht X hX hr hs h4
 rw[if_neg h4]
 by_cases h5:p.kind=5
 ·rw[if_pos h5]
  exact do_open w0 b s F r p w hL ht X hX hr hs h5
 rw[if_neg h5]
 by_cases h6:p.kind=6
 ·rw[if_pos h6]
  exact do_drop w0 b s F r p w hL ht X hX hr hs h6
 rw[if_neg h6]
 exact do_other w0 b s F r p w hL ht X hX hr hs h0 h1 h2 h3 h4 h5 h6
theorem results_tct {P:Program} {fn:Func} {tmps:Array Value} {w:World} {a p q:Tmp} {t:TypeId} {ad:Addr} {v x y:Value} (hres:fn.results=#[.tmp p,.cell a t,.tmp q]) (h3:tmps[p]?.getD undef=x) (h1:tmps[a]?.getD undef=.pointer (some ad)) (h2:(loadVar t ad).run P w=.ok v w) (h4:tmps[q]?.getD undef=y) :
  (results fn tmps).run P w=.ok (.tuple #[x,v,y]) w:=by
 simp[results,hres,h1,h2,h3,h4,asAddr]
def runT (s:Tk) (l:List Opn):Tk:=l.foldl stepT s
theorem runT_snoc (s:Tk) (l:List Opn) (k:Nat) (h:k<l.length):runT s (l.take (k+1))=stepT (runT s (l.take k)) l[k]:=by
 unfold runT
 rw[List.take_succ_eq_append_getElem h,List.foldl_append]
 rfl
structure RunI (w0:World) (b:Nat) (s:Tk) (F:List Nat) (r rr:Rt) (w:World) (r5:Nat) (u:World):Prop where
 tb:TkB w0 b s F u
 rf:RfAt (F++[r5]) s r u
 kp:Kp [] F w u
 nr:r5∉F
 le:w.heap.size≤r5
 row:Row u r5 (cT rr) 60
section
variable {w0 w u u' : World} {b r5 : Nat} {s s1 : Tk} {F F1 : List Nat} {r r1 rr : Rt}
theorem RunI.keep (h:RunI w0 b s F r rr w r5 u) (hb:Below u.heap.size u u'):RunI w0 b s F r rr w r5 u':=⟨h.tb.keep hb,h.rf.keep hb,h.kp.trans (Kp.of_below hb),h.nr,h.le,h.row.keep hb⟩
theorem RunI.turn (h:RunI w0 b s F r rr w r5 u) (h1:TkB w0 b s1 F1 u') (h2:RfAt (F1++[r5]) s1 r1 u') (hk:Kp F F1 u u'):RunI w0 b s1 F1 r1 rr w r5 u':=by
 obtain⟨a1,a2⟩:=hk.out r5 h.row.lt h.nr
 exact⟨h1,h2,h.kp.trans hk,a1,h.le,h.row.same a2⟩
theorem RunI.st (h:RunI w0 b s F r rr w r5 u) (hw:w0.heap.size≤w.heap.size):rowOk u r5 4=true∧RunI w0 b s F r r w r5 (u.setRow r5 (aT r)):=by
 have ho:One r5 u (u.setRow r5 (aT r)):=One.setRow _ _
 have hle:=h.le
 have ht:=h.tb
 have hs:∀ k∈F,(u.setRow r5 (aT r)).heap[k]? = u.heap[k]?:=fun k hk=>ho.out k (ht.lt k hk) (fun e=>h.nr (e▸hk))
 refine⟨h.row.rowOk (cT_length rr),⟨(by obtain⟨va,vk,h2⟩:=ht.tk;exact⟨va,vk,h2.same hs⟩),ht.inv,?_,ht.low,fun k hk=>Nat.lt_of_lt_of_le (ht.lt k hk) ho.size⟩,?_,?_,h.nr,h.le,h.row.setRow (cT r)⟩
 ·exact Below.trans ht.bel (ho.below (by omega) ht.bel.size)
 ·exact h.rf.same ho.size (fun k hk hn=>ho.out k hk (fun e=>hn (by rw[e];exact List.mem_append_right _ (List.mem_singleton.2 rfl))))
 ·exact⟨ho.os.trans h.kp.os,ho.tape.trans h.kp.tape,ho.output.trans h.kp.output,Nat.le_trans h.kp.size ho.size,fun k hk hF=>by
   obtain⟨h1,h2⟩:=h.kp.out k hk hF
   exact⟨h1,(ho.out k (Nat.lt_of_lt_of_le hk h.kp.size) (by omega)).trans h2⟩⟩
theorem RunI.ld (h:RunI w0 b s F r rr w r5 u):okA u ⟨r5,0,none⟩ 4=true∧rdA u ⟨r5,0,none⟩ 4=vT rr:=Row.okw h.row (cT_length rr)
end
def RunW (w0:World) (b:Nat) (s1:Tk) (r:Rt) (w:World) (r5:Nat) (W0:World) (σ:Rt×List Nat):Bool→Bool→World→Prop
 | false,_,u=>Below W0.heap.size W0 u
 | true,false,u=>RunI w0 b s1 σ.2 σ.1 r w r5 u
 | true,true,u=>RunI w0 b s1 σ.2 σ.1 σ.1 w r5 u
def RunP (w0:World) (s:Tk) (w:World) (e:Ending) (w':World):Prop :=
 ∃ (b:Nat) (r:Rt) (F:List Nat),e=.returned (.tuple #[.pointer (some ⟨b,0,none⟩),vT r,.bool true])∧TkB w0 b s F w'∧RfAt F s r w'∧Kp [] F w w'
theorem At.opv {w:World} {ad:Addr} {p:Opn} (h:At w ad (cO p)):okA w ad 41=true∧rdA w ad 41=vO p:=by
 have h1:=h.ok
 have h2:=h.rd
 rw[cO_length] at h1 h2
 exact⟨h1,h2⟩
theorem Sl.keep' {α:Type} {w u:World} {enc:α→List Value} {A:Option Addr} {xs:List α} {F:List Nat} (h:Sl w enc A xs) (hk:Kp [] F w u):Sl u enc A xs:=by
 have h1:SlF [] w enc (A,xs.length,xs.length) xs:=⟨rfl,Nat.le_refl _,h,fun _ _ _ hm=>by cases hm⟩
 exact (h1.kp hk).2.2.1
theorem RunI.mk0 {w0 w W1 w2 w3:World} {r5:Nat} {n0:Int} {rN:Rt} (h0:Below w0.heap.size w0 w∧w0.heap.size≤w.heap.size) (h1:Below w.heap.size w W1) (hle:w.heap.size≤r5) (hr:Row w3 r5 (cT zT) 60) (hn:1≤n0∧n0≤64) (ht:TkAt W1.heap.size (Tk.new n0) [W1.heap.size] w2) (hb3:Below w2.heap.size w2 w3) (hb:Below W1.heap.size W1 w3) (hrN:(⟨n0,false,(none,0,0),(none,0,0)⟩:Rt)=rN) (hlt:r5<W1.heap.size:=by omega):RunI w0 W1.heap.size (Tk.new n0) [W1.heap.size] rN zT w r5 w3:=by
 refine⟨TkB.new (Below.step h0.1 h1) hn.1 hn.2 (ht.keep hb3) hb,?_,⟨(Below.step h1 hb).os,(Below.step h1 hb).tape,(Below.step h1 hb).output,(Below.step h1 hb).size,fun k hk _=>⟨fun hm=>?_,(Below.step h1 hb).block k hk⟩⟩,fun hm=>?_,hle,hr⟩
 ·rw[← hrN]
  exact⟨rfl,rfl,SlF.nil _ _ _,SlF.nil _ _ _⟩
 ·have:=List.mem_singleton.1 hm
  have:=h1.size
  omega
 ·have:=List.mem_singleton.1 hm
  omega
section
set_option maxRecDepth 100000
set_option maxHeartbeats 3200000
theorem run26_cons (n0:Int) (h1:1≤n0) (h2:n0≤64) (w0:World) (A:Option Addr) (cap:Nat) (l:List Opn) (w:World) (hL:Laid w0) (hb:Below w0.heap.size w0 w) (hs:Sl w cO A l) (hi:∀ o∈l,o.cmd.text.size≤200∧o.cmd.name.size≤100) (hl:l.length≤60) (hne:l≠[]) :
  Calls Tryz.prog 26 #[.int .i64 n0,.slice A l.length cap] w (RunP w0 (runT (Tk.new n0) l) w):=by
 obtain⟨ad,rfl, -⟩:=hs hne
 have HW1:=Lib.hid (And.intro h1 h2)
 have HL:=Lib.hid hL
 have HB0:=Lib.hid (And.intro hb hb.size)
 have HSL:=Lib.hid (And.intro hs (And.intro hi hne))
 obtain⟨n,hn⟩:∃ n,l.length=n:=⟨_,rfl⟩
 have HNN:=Lib.hid hn
 rw[hn] at hl ⊢
 obtain⟨r5,hr5⟩:∃ r5,w.heap.size=r5:=⟨_,rfl⟩
 obtain⟨W1,hW1⟩:∃ W1,w.alloc (.cells (aT zT) 60)=W1:=⟨_,rfl⟩
 have hbw:Below w.heap.size w W1:=by rw[← hW1];exact below_alloc _ _
 have hrow:Row W1 r5 (cT zT) 60:=by rw[← hW1,← hr5];exact Row.new w (cT zT) _
 have HR5:=Lib.hid (And.intro hbw (And.intro hrow (show w.heap.size≤r5 by omega)))
 clear h1 h2 hL hb hs hi hne hn hbw hrow
 go_enter Tryz.func26,Tryz.ntmps26
 go_wp2_with (first
  | (go_at_call 46;go_loud (refine (refNew46_ok n0 HW1.out.1 HW1.out.2 w2).mono ?_;rintro e w3 ⟨rfl,hb3⟩;obtain⟨rN,hrN⟩:∃ rN:Rt,(⟨n0,false,(none,0,0),(none,0,0)⟩:Rt)=rN:=⟨_,rfl⟩;have hst:=RunI.mk0 HB0.out HR5.out.1 HR5.out.2.2 (HR5.out.2.1.keep (Below.step H2.out.2 hb3)) HW1.out H2.out.1 hb3 (Below.step H2.out.2 hb3) hrN HR5.out.2.1.lt;rw[H2b.out] at hst;rw[hrN];obtain⟨ro3,h4⟩:=hst.st HB0.out.2;obtain⟨W4,hW4⟩:∃ W4,w3.setRow r5 (aT rN)=W4:=⟨_,rfl⟩;rw[hW4] at h4;have H4:=Lib.hid h4;clear hb3 hst h4 hrN))
  | (go_at_call 13;refine (new13_ok n0 HW1.out.1 HW1.out.2 W1).mono ?_;rintro e w2 ⟨rfl,hT2,hb2⟩;obtain⟨b,hb⟩:∃ b,W1.heap.size=b:=⟨_,rfl⟩;rw[hb];have H2:=Lib.hid (And.intro hT2 hb2);have H2b:=Lib.hid hb;clear hT2 hb2 hb))
 go_loopw [4,6,9] (fun vp v i wr=>∃ (vb:Bool) (k:Nat) (s:Tk) (F:List Nat) (r:Rt),vp=.pointer (some ⟨b,0,none⟩)∧v=.bool vb∧i=.int .i64 k∧k≤n∧s=runT (Tk.new n0) (l.take k)∧RunI w0 b s F r r w r5 wr) (fun _ _ i _=>n+1 - (intOf i).toNat)
 case atStart=>exact⟨_,0,_,_,_,rfl,rfl,rfl,Nat.zero_le _,rfl,H4.out⟩
 case round =>
  obtain⟨vb,k,s,F,r,rfl,rfl,rfl,hk,hsr,hI⟩:=hrel
  have HI:=Lib.hid hI
  clear hI
  by_cases hlt:k<n
  ·have hlt1:(k:Int)<(n:Int):=by omega
   have hkl2:k<l.length:=by rw[HNN.out];exact hlt
   obtain⟨a1,e1,hat⟩:=Sl.at_ cO_length (HSL.out.1.keep' HI.out.kp) hkl2
   cases e1
   obtain⟨p,hp⟩:∃ p,l[k]=p:=⟨_,rfl⟩
   have HPP:=Lib.hid hp
   rw[hp] at hat
   have HAT:=Lib.hid hat
   have HZ:=Lib.hid (show p.cmd.text.size≤200∧p.cmd.name.size≤100 by rw[← hp];exact HSL.out.2.1 _ (List.getElem_mem hkl2))
   have HKL:=Lib.hid (And.intro hsr.symm (show True∧True from ⟨trivial,trivial⟩))
   clear hat hp hsr
   go_wp2
   refine AnyO.wp_anyI (by kernel_rfl) (by kernel_rfl) (AnyO.InvG (σ:=Rt×List Nat) (fun σ=>AnyO.pvL [some (.pointer (some ⟨b,0,none⟩)),some (vT r),some (.slice (some ad) n cap),some (.int .i64 (k:Int)),some (.pointer (some (ad.add (k * 41)))),some (vO p),some (.tuple #[vT σ.1,.bool true]),some (.tuple #[vT σ.1,.bool true]),some (vT σ.1),some (.bool true),none,some (.bool true)]) (fun σ D u=>RunW w0 b (stepT s p) r w r5 wr σ (D 6) (D 10) u)) (AnyO.InvG.start (g:=(r,[])) (below_drew _)) ?_ ?_
   ·intro i hi
    have hi2:i=0∨i=1∨i=2∨i=3∨i=4∨i=5∨i=6∨i=7∨i=8∨i=9∨i=10∨i=11:=by simp only[List.size_toArray,List.length_cons,List.length_nil] at hi;omega
    clear hi
    rcases hi2 with rfl|rfl|rfl|rfl|rfl|rfl|rfl|rfl|rfl|rfl|rfl|rfl
    ·refine AnyO.I rfl [] ?_;rintro D vs u σ Q h0 hC hp ac hb K hK
     have s4:=AnyO.sz (v:=.pointer (some ⟨b,0,none⟩)) 4 hb
     go_simp;exact hK _ _ (AnyO.InvG.step (g:=σ) Q.out.1 rfl Q.out.2)
    ·refine AnyO.I rfl [] ?_;rintro D vs u σ Q h0 hC hp ac hb K hK
     have s5:=AnyO.sz (v:=.pointer (some ⟨r5,0,none⟩)) 5 hb
     have hf6:=AnyO.fls (hC.out 6) h0 (show AnyO.pre _ 6=[0,1,5] from by kernel_rfl) (by decide)
     have hst:=Q.out.2
     rw[show D 6=false from hf6] at hst
     have lk:=(HI.out.keep hst).ld
     have rr1:=lk.1
     have rr2:=lk.2
     clear hst hf6 lk
     go_simp;exact hK _ _ (AnyO.InvG.step (g:=σ) Q.out.1 rfl Q.out.2)
    ·refine AnyO.I rfl [] ?_;rintro D vs u σ Q h0 hC hp ac hb K hK
     have s1:=AnyO.sz (v:=.slice (some ad) n cap) 1 hb
     go_simp;exact hK _ _ (AnyO.InvG.step (g:=σ) Q.out.1 rfl Q.out.2)
    ·refine AnyO.I rfl [] ?_;rintro D vs u σ Q h0 hC hp ac hb K hK
     have s9:=AnyO.sz (v:=.int .i64 (k:Int)) 9 hb
     go_simp;exact hK _ _ (AnyO.InvG.step (g:=σ) Q.out.1 rfl Q.out.2)
    ·refine AnyO.I rfl [2,3] ?_;rintro D vs u σ Q h0 hC hp ac hb K hK
     have s44:_=_:=AnyO.sv 44 2 hb hp Q
     have s45:_=_:=AnyO.sv 45 3 hb hp Q
     have hkl:(k:Int)<(n:Int):=by omega
     go_simp;exact hK _ _ (AnyO.InvG.step (g:=σ) Q.out.1 rfl Q.out.2)
    ·refine AnyO.I rfl [4] ?_;rintro D vs u σ Q h0 hC hp ac hb K hK
     have s46:_=_:=AnyO.sv 46 4 hb hp Q
     have hf6:=AnyO.fls (hC.out 6) h0 (show AnyO.pre _ 6=[0,1,5] from by kernel_rfl) (by decide)
     have hst:=Q.out.2
     rw[show D 6=false from hf6] at hst
     have hat:=HAT.out.keep hst
     have rr1:=hat.opv.1
     have rr2:=hat.opv.2
     clear hst hf6 hat
     go_simp;exact hK _ _ (AnyO.InvG.step (g:=σ) Q.out.1 rfl Q.out.2)
    ·refine AnyO.I rfl [0,1,5] ?_;rintro D vs u σ Q h0 hC hp ac hb K hK
     have s42:_=_:=AnyO.sv 42 0 hb hp Q
     have s43:_=_:=AnyO.sv 43 1 hb hp Q
     have s47:_=_:=AnyO.sv 47 5 hb hp Q
     have hf7:=AnyO.fls (hC.out 7) h0 (show AnyO.pre _ 7=[6] from by kernel_rfl) (by decide)
     have hf8:=AnyO.fls (hC.out 8) hf7 (show AnyO.pre _ 8=[7] from by kernel_rfl) (by decide)
     have hf10:=AnyO.fls (hC.out 10) hf8 (show AnyO.pre _ 10=[8,6,0,1,2,3,4,5,6,7,8] from by kernel_rfl) (by decide)
     go_simp
     have hst:=Q.out.2
     rw[show D 6=false from h0] at hst
     go_at_call 33
     have HU:=HI.out.keep hst
     refine (do33 w0 b s F r p u HL.out HU.tb [r5] (fun k hk=>by rw[List.mem_singleton.1 hk];exact HU.row.lt) HU.rf HZ.out).mono ?_
     rintro e w2 ⟨r',F',rfl,ht',hr',hk'⟩
     refine hK _ _ (AnyO.InvG.ghost (g:=σ) (r',F') Q.out.1 ?_ rfl ?_)
     ·intro j hj hq
      rcases j with _|_|_|_|_|_|_|_|_|_|_|_|j
      ·exact hq
      ·exact hq
      ·exact hq
      ·exact hq
      ·exact hq
      ·exact hq
      ·exact absurd (show D 6=true from hj) (by rw[h0];decide)
      ·exact absurd (show D 7=true from hj) (by rw[hf7];decide)
      ·exact absurd (show D 8=true from hj) (by rw[hf8];decide)
      ·exact hq
      ·exact absurd (show D 10=true from hj) (by rw[hf10];decide)
      ·exact hq
      ·exact hq
     rw[show AnyO.addD D 6 6=true from rfl,show AnyO.addD D 6 10=D 10 from rfl,hf10]
     exact HU.turn ht' hr' hk'
    ·refine AnyO.I rfl [6] ?_;rintro D vs u σ Q h0 hC hp ac hb K hK
     have s48:_=_:=AnyO.sv 48 6 hb hp Q
     go_simp;exact hK _ _ (AnyO.InvG.step (g:=σ) Q.out.1 rfl Q.out.2)
    ·refine AnyO.I rfl [7] ?_;rintro D vs u σ Q h0 hC hp ac hb K hK
     have s41:_=_:=AnyO.sv 41 7 hb hp Q
     go_simp;exact hK _ _ (AnyO.InvG.step (g:=σ) Q.out.1 rfl Q.out.2)
    ·refine AnyO.I rfl [7] ?_;rintro D vs u σ Q h0 hC hp ac hb K hK
     have s41:_=_:=AnyO.sv 41 7 hb hp Q
     go_simp;exact hK _ _ (AnyO.InvG.step (g:=σ) Q.out.1 rfl Q.out.2)
    ·refine AnyO.I rfl [8,6,0,1,2,3,4,5,6,7,8] ?_;rintro D vs u σ Q h0 hC hp ac hb K hK
     have s5:=AnyO.sz (v:=.pointer (some ⟨r5,0,none⟩)) 5 hb
     have s49:_=_:=AnyO.sv 49 8 hb hp Q
     have hp6:D 6=true:=hp.out 6 (by decide)
     have hst:=Q.out.2
     rw[show D 6=true from hp6,show D 10=false from h0] at hst
     have SS:=RunI.st hst HB0.out.2
     have ro:=SS.1
     have RP:=Lib.hid SS.2
     clear hst SS
     go_simp
     exact hK undef _ (AnyO.InvG.step (g:=σ) Q.out.1 trivial (by rw[show AnyO.addD D 10 6=D 6 from rfl,hp6,show AnyO.addD D 10 10=true from rfl];exact RP.out))
    ·refine AnyO.I rfl [9,10,0,1,2,3,4,5,6,7,8,9,10] ?_;rintro D vs u σ Q h0 hC hp ac hb K hK
     have s50:_=_:=AnyO.sv 50 9 hb hp Q
     go_simp;exact hK _ _ (AnyO.InvG.step (g:=σ) Q.out.1 rfl Q.out.2)
   ·intro D vs u hI hD
    obtain⟨σ,hP,hW⟩:=hI
    have e0:_=_:=hP 0 (hD 0 (by decide))
    have e1:_=_:=hP 1 (hD 1 (by decide))
    have e2:_=_:=hP 2 (hD 2 (by decide))
    have e3:_=_:=hP 3 (hD 3 (by decide))
    have e4:_=_:=hP 4 (hD 4 (by decide))
    have e5:_=_:=hP 5 (hD 5 (by decide))
    have e6:_=_:=hP 6 (hD 6 (by decide))
    have e7:_=_:=hP 7 (hD 7 (by decide))
    have e8:_=_:=hP 8 (hD 8 (by decide))
    have e9:_=_:=hP 9 (hD 9 (by decide))
    have e11:_=_:=hP 11 (hD 11 (by decide))
    have hst:=hW
    rw[show D 6=true from hD 6 (by decide),show D 10=true from hD 10 (by decide)] at hst
    have HST:=Lib.hid (show RunI w0 b (stepT s p) σ.2 σ.1 σ.1 w r5 u from hst)
    clear hst
    have HW:=Lib.hid hW
    clear hW hP hD
    rw[puts_range [some 42,some 43,some 44,some 45,some 46,some 47,some 48,some 41,some 49,some 50,none,some 6] (by kernel_rfl)]
    simp only[putL,Nat.reduceAdd,e0,e1,e2,e3,e4,e5,e6,e7,e8,e9,e11]
    clear e0 e1 e2 e3 e4 e5 e6 e7 e8 e9 e11
    go_simp
    go_wp2
    go_roundw
    case rel=>exact⟨_,k+1,stepT s p,σ.2,σ.1,rfl,rfl,by go_num,hlt,by rw[runT_snoc _ _ _ hkl2,HKL.out.1,HPP.out],HST.out⟩
    case measure=>simp[intOf] <;> omega
  ·have hlt1:¬ (k:Int)<(n:Int):=by omega
   obtain rfl:k=n:=by omega
   have hsr2:s=runT (Tk.new n0) l:=by rw[hsr,← HNN.out,List.take_length]
   have HSR:=Lib.hid hsr2
   clear hsr hsr2
   go_wp2
   refine AnyO.wp_anyI (by kernel_rfl) (by kernel_rfl) (AnyO.InvG (σ:=Unit) (fun σ=>AnyO.pvL [some (.pointer (some ⟨b,0,none⟩)),some (vT r),some (.pointer (some ⟨b,0,none⟩)),none,some (Value.bool true)]) (fun _ D u=>(D 3=false→Below wr.heap.size wr u)∧(D 3=true→RunI w0 b s F r r w r5 u))) (AnyO.InvG.start (g:=()) (⟨fun _=>below_drew _,fun h=>(nomatch h)⟩)) ?_ ?_
   ·intro i hi
    have hi2:i=0∨i=1∨i=2∨i=3∨i=4:=by simp only[List.size_toArray,List.length_cons,List.length_nil] at hi;omega
    clear hi
    rcases hi2 with rfl|rfl|rfl|rfl|rfl
    ·refine AnyO.I rfl [] ?_;rintro D vs u σ Q h0 hC hp ac hb K hK
     have s4:=AnyO.sz (v:=.pointer (some ⟨b,0,none⟩)) 4 hb
     go_simp;exact hK _ _ (AnyO.InvG.step (g:=σ) Q.out.1 rfl Q.out.2)
    ·refine AnyO.I rfl [] ?_;rintro D vs u σ Q h0 hC hp ac hb K hK
     have s5:=AnyO.sz (v:=.pointer (some ⟨r5,0,none⟩)) 5 hb
     have hf3:=AnyO.fls (hC.out 3) h0 (show AnyO.pre _ 3=[1,2,0,1,2] from by kernel_rfl) (by decide)
     have hst:=Q.out.2.1 hf3
     have lk:=(HI.out.keep hst).ld
     have rr1:=lk.1
     have rr2:=lk.2
     clear hst hf3 lk
     go_simp;exact hK _ _ (AnyO.InvG.step (g:=σ) Q.out.1 rfl Q.out.2)
    ·refine AnyO.I rfl [0,0] ?_;rintro D vs u σ Q h0 hC hp ac hb K hK
     have s54:_=_:=AnyO.sv 54 0 hb hp Q
     go_simp;exact hK _ _ (AnyO.InvG.step (g:=σ) Q.out.1 rfl Q.out.2)
    ·refine AnyO.I rfl [1,2,0,1,2] ?_;rintro D vs u σ Q h0 hC hp ac hb K hK
     have s5:=AnyO.sz (v:=.pointer (some ⟨r5,0,none⟩)) 5 hb
     have s55:_=_:=AnyO.sv 55 1 hb hp Q
     have hst:=Q.out.2.1 h0
     have SS:=(HI.out.keep hst).st HB0.out.2
     have ro:=SS.1
     have RP:=Lib.hid SS.2
     clear hst SS
     go_simp
     exact hK undef _ (AnyO.InvG.step (g:=σ) Q.out.1 trivial ⟨fun h=>(nomatch h),fun _=>RP.out⟩)
    ·refine AnyO.I rfl [3,0,1,2,3] ?_;rintro D vs u σ Q h0 hC hp ac hb K hK
     go_simp;exact hK _ _ (AnyO.InvG.step (g:=σ) Q.out.1 rfl Q.out.2)
   ·intro D vs u hI hD
    obtain⟨σ,hP,hW⟩:=hI
    have e0:_=_:=hP 0 (hD 0 (by decide))
    have e1:_=_:=hP 1 (hD 1 (by decide))
    have e2:_=_:=hP 2 (hD 2 (by decide))
    have e4:_=_:=hP 4 (hD 4 (by decide))
    have HST:=Lib.hid (hW.2 (hD 3 (by decide)))
    have hld:=load_T (hW.2 (hD 3 (by decide))).row
    have HW:=Lib.hid hW
    clear hW hP hD
    rw[puts_range [some 54,some 55,some 4,none,some 6] (by kernel_rfl)]
    simp only[putL,Nat.reduceAdd,e0,e1,e2,e4]
    clear e0 e1 e2 e4
    have HL2:=Lib.hid hld
    clear hld
    go_simp
    go_wp2
    exact bodyPost_ret (v:=.tuple #[.pointer (some ⟨b,0,none⟩),vT r,.bool true]) (results_tct (ad:=⟨r5,0,none⟩) rfl rfl rfl HL2.out rfl) rfl (by rw[← HSR.out];exact⟨b,r,F,rfl,HST.out.tb,HST.out.rf.sub (fun k hk=>List.mem_append_left _ hk),HST.out.kp⟩)
theorem run26_nil (n0:Int) (h1:1≤n0) (h2:n0≤64) (w0:World) (A:Option Addr) (cap:Nat) (l:List Opn) (w:World) (hL:Laid w0) (hb:Below w0.heap.size w0 w) (hs:Sl w cO A l) (hi:∀ o∈l,o.cmd.text.size≤200∧o.cmd.name.size≤100) (hl:l.length≤60) (hne:l=[]) :
  Calls Tryz.prog 26 #[.int .i64 n0,.slice A l.length cap] w (RunP w0 (runT (Tk.new n0) l) w):=by
 have HW1:=Lib.hid (And.intro h1 h2)
 have HL:=Lib.hid hL
 have HB0:=Lib.hid (And.intro hb hb.size)
 have HSL:=Lib.hid (And.intro hs (And.intro hi hne))
 obtain⟨n,hn⟩:∃ n,l.length=n:=⟨_,rfl⟩
 have HNN:=Lib.hid hn
 rw[hn] at hl ⊢
 obtain⟨r5,hr5⟩:∃ r5,w.heap.size=r5:=⟨_,rfl⟩
 obtain⟨W1,hW1⟩:∃ W1,w.alloc (.cells (aT zT) 60)=W1:=⟨_,rfl⟩
 have hbw:Below w.heap.size w W1:=by rw[← hW1];exact below_alloc _ _
 have hrow:Row W1 r5 (cT zT) 60:=by rw[← hW1,← hr5];exact Row.new w (cT zT) _
 have HR5:=Lib.hid (And.intro hbw (And.intro hrow (show w.heap.size≤r5 by omega)))
 clear h1 h2 hL hb hs hi hne hn hbw hrow
 go_enter Tryz.func26,Tryz.ntmps26
 go_wp2_with (first
  | (go_at_call 46;go_loud (refine (refNew46_ok n0 HW1.out.1 HW1.out.2 w2).mono ?_;rintro e w3 ⟨rfl,hb3⟩;obtain⟨rN,hrN⟩:∃ rN:Rt,(⟨n0,false,(none,0,0),(none,0,0)⟩:Rt)=rN:=⟨_,rfl⟩;have hst:=RunI.mk0 HB0.out HR5.out.1 HR5.out.2.2 (HR5.out.2.1.keep (Below.step H2.out.2 hb3)) HW1.out H2.out.1 hb3 (Below.step H2.out.2 hb3) hrN HR5.out.2.1.lt;rw[H2b.out] at hst;rw[hrN];obtain⟨ro3,h4⟩:=hst.st HB0.out.2;obtain⟨W4,hW4⟩:∃ W4,w3.setRow r5 (aT rN)=W4:=⟨_,rfl⟩;rw[hW4] at h4;have H4:=Lib.hid h4;clear hb3 hst h4 hrN))
  | (go_at_call 13;refine (new13_ok n0 HW1.out.1 HW1.out.2 W1).mono ?_;rintro e w2 ⟨rfl,hT2,hb2⟩;obtain⟨b,hb⟩:∃ b,W1.heap.size=b:=⟨_,rfl⟩;rw[hb];have H2:=Lib.hid (And.intro hT2 hb2);have H2b:=Lib.hid hb;clear hT2 hb2 hb))
 go_loopw [4,6,9] (fun vp v i wr=>∃ (vb:Bool) (k:Nat) (s:Tk) (F:List Nat) (r:Rt),vp=.pointer (some ⟨b,0,none⟩)∧v=.bool vb∧i=.int .i64 k∧k≤n∧s=runT (Tk.new n0) (l.take k)∧RunI w0 b s F r r w r5 wr) (fun _ _ i _=>n+1 - (intOf i).toNat)
 case atStart=>exact⟨_,0,_,_,_,rfl,rfl,rfl,Nat.zero_le _,rfl,H4.out⟩
 case round =>
  obtain⟨vb,k,s,F,r,rfl,rfl,rfl,hk,hsr,hI⟩:=hrel
  have HI:=Lib.hid hI
  clear hI
  by_cases hlt:k<n
  ·exfalso
   have:=HNN.out
   rw[HSL.out.2.2] at this
   simp at this
   omega
  ·have hlt1:¬ (k:Int)<(n:Int):=by omega
   obtain rfl:k=n:=by omega
   have hsr2:s=runT (Tk.new n0) l:=by rw[hsr,← HNN.out,List.take_length]
   have HSR:=Lib.hid hsr2
   clear hsr hsr2
   go_wp2
   refine AnyO.wp_anyI (by kernel_rfl) (by kernel_rfl) (AnyO.InvG (σ:=Unit) (fun σ=>AnyO.pvL [some (.pointer (some ⟨b,0,none⟩)),some (vT r),some (.pointer (some ⟨b,0,none⟩)),none,some (Value.bool true)]) (fun _ D u=>(D 3=false→Below wr.heap.size wr u)∧(D 3=true→RunI w0 b s F r r w r5 u))) (AnyO.InvG.start (g:=()) (⟨fun _=>below_drew _,fun h=>(nomatch h)⟩)) ?_ ?_
   ·intro i hi
    have hi2:i=0∨i=1∨i=2∨i=3∨i=4:=by simp only[List.size_toArray,List.length_cons,List.length_nil] at hi;omega
    clear hi
    rcases hi2 with rfl|rfl|rfl|rfl|rfl
    ·refine AnyO.I rfl [] ?_;rintro D vs u σ Q h0 hC hp ac hb K hK
     have s4:=AnyO.sz (v:=.pointer (some ⟨b,0,none⟩)) 4 hb
     go_simp;exact hK _ _ (AnyO.InvG.step (g:=σ) Q.out.1 rfl Q.out.2)
    ·refine AnyO.I rfl [] ?_;rintro D vs u σ Q h0 hC hp ac hb K hK
     have s5:=AnyO.sz (v:=.pointer (some ⟨r5,0,none⟩)) 5 hb
     have hf3:=AnyO.fls (hC.out 3) h0 (show AnyO.pre _ 3=[1,2,0,1,2] from by kernel_rfl) (by decide)
     have hst:=Q.out.2.1 hf3
     have lk:=(HI.out.keep hst).ld
     have rr1:=lk.1
     have rr2:=lk.2
     clear hst hf3 lk
     go_simp;exact hK _ _ (AnyO.InvG.step (g:=σ) Q.out.1 rfl Q.out.2)
    ·refine AnyO.I rfl [0,0] ?_;rintro D vs u σ Q h0 hC hp ac hb K hK
     have s54:_=_:=AnyO.sv 54 0 hb hp Q
     go_simp;exact hK _ _ (AnyO.InvG.step (g:=σ) Q.out.1 rfl Q.out.2)
    ·refine AnyO.I rfl [1,2,0,1,2] ?_;rintro D vs u σ Q h0 hC hp ac hb K hK
     have s5:=AnyO.sz (v:=.pointer (some ⟨r5,0,none⟩)) 5 hb
     have s55:_=_:=AnyO.sv 55 1 hb hp Q
     have hst:=Q.out.2.1 h0
     have SS:=(HI.out.keep hst).st HB0.out.2
     have ro:=SS.1
     have RP:=Lib.hid SS.2
     clear hst SS
     go_simp
     exact hK undef _ (AnyO.InvG.step (g:=σ) Q.out.1 trivial ⟨fun h=>(nomatch h),fun _=>RP.out⟩)
    ·refine AnyO.I rfl [3,0,1,2,3] ?_;rintro D vs u σ Q h0 hC hp ac hb K hK
     go_simp;exact hK _ _ (AnyO.InvG.step (g:=σ) Q.out.1 rfl Q.out.2)
   ·intro D vs u hI hD
    obtain⟨σ,hP,hW⟩:=hI
    have e0:_=_:=hP 0 (hD 0 (by decide))
    have e1:_=_:=hP 1 (hD 1 (by decide))
    have e2:_=_:=hP 2 (hD 2 (by decide))
    have e4:_=_:=hP 4 (hD 4 (by decide))
    have HST:=Lib.hid (hW.2 (hD 3 (by decide)))
    have hld:=load_T (hW.2 (hD 3 (by decide))).row
    have HW:=Lib.hid hW
    clear hW hP hD
    rw[puts_range [some 54,some 55,some 4,none,some 6] (by kernel_rfl)]
    simp only[putL,Nat.reduceAdd,e0,e1,e2,e4]
    clear e0 e1 e2 e4
    have HL2:=Lib.hid hld
    clear hld
    go_simp
    go_wp2
    exact bodyPost_ret (v:=.tuple #[.pointer (some ⟨b,0,none⟩),vT r,.bool true]) (results_tct (ad:=⟨r5,0,none⟩) rfl rfl rfl HL2.out rfl) rfl (by rw[← HSR.out];exact⟨b,r,F,rfl,HST.out.tb,HST.out.rf.sub (fun k hk=>List.mem_append_left _ hk),HST.out.kp⟩)
end
theorem run26 (n0:Int) (h1:1≤n0) (h2:n0≤64) (w0:World) (A:Option Addr) (cap:Nat) (l:List Opn) (w:World) (hL:Laid w0) (hb:Below w0.heap.size w0 w) (hs:Sl w cO A l) (hi:∀ o∈l,o.cmd.text.size≤200∧o.cmd.name.size≤100) (hl:l.length≤60) :
  Calls Tryz.prog 26 #[.int .i64 n0,.slice A l.length cap] w (RunP w0 (runT (Tk.new n0) l) w):=by
 by_cases hne:l=[]
 ·exact run26_nil n0 h1 h2 w0 A cap l w hL hb hs hi hl hne
 ·exact run26_cons n0 h1 h2 w0 A cap l w hL hb hs hi hl hne
end Go.Proofs.YtgojaelkdpabkaaGreatDoor
