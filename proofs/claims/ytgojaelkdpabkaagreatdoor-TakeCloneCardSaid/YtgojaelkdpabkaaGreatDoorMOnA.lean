/- The reference's only: the fields that belong to a verb. Check and the reference's only: plain laws. -/
import Derived.Test.YtgojaelkdpabkaaGreatDoorMPlA
import Derived.Test.YtgojaelkdpabkaaGreatDoorMAnyG
namespace Go.Proofs.YtgojaelkdpabkaaGreatDoor
section
open Go.RowKit
@[go_sem] theorem run_stR_2 (w:World) (g:Nat) (x:Id):(stA 29 (.pointer (some ⟨g,2,none⟩)) (vI x)).run Tryz.prog w=if stOk w g 2 32=true then .ok () (stD w g 2 (cI x)) else (stB 29 (.pointer (some ⟨g,2,none⟩)) (vI x)).run Tryz.prog w:=by
 split
 ·rename_i h
  exact run_stA_off w 29 g 2 (cI x) 32 h size29 (cI_length x) (cI_one x)
 ·rfl
theorem cC_hiset (c:Cm) (k:Nat) (v:Value):(cC c).set (34+k) v=.int .i64 c.verb :: .string c.name :: (cI c.id++[Value.int .i64 c.size,.int .i64 c.from_,.int .i64 c.count,.int .i64 c.code,.string c.text].set k v):=by
 unfold cC
 rw[show 34+k=(32+k)+1+1 by omega,List.set_cons_succ,List.set_cons_succ,List.set_append_right _ _ (by rw[cI_length];omega),cI_length,show 32+k - 32=k by omega]
theorem cC_set1 (c:Cm) (s:ByteArray):(cC c).set 1 (.string s)=cC { c with name:=s }:=rfl
theorem cC_set34 (c:Cm) (n:Int):(cC c).set 34 (.int .i64 n)=cC { c with size:=n }:=cC_hiset c 0 _
theorem cC_set35 (c:Cm) (n:Int):(cC c).set 35 (.int .i64 n)=cC { c with from_:=n }:=cC_hiset c 1 _
theorem cC_set36 (c:Cm) (n:Int):(cC c).set 36 (.int .i64 n)=cC { c with count:=n }:=cC_hiset c 2 _
theorem cC_set37 (c:Cm) (n:Int):(cC c).set 37 (.int .i64 n)=cC { c with code:=n }:=cC_hiset c 3 _
theorem cC_set38 (c:Cm) (s:ByteArray):(cC c).set 38 (.string s)=cC { c with text:=s }:=cC_hiset c 4 _
theorem cC_setid (c:Cm) (x:Id):(cC c).take 2++cI x++(cC c).drop (2+(cI x).length)=cC { c with id:=x }:=by
 unfold cC
 rw[cI_length,show 2+32=32+1+1 by omega,List.drop_succ_cons,List.drop_succ_cons,List.drop_left' (cI_length _)]
 rfl
theorem ld_row31 (c:Cm) {w:World} {b:Nat} (h:Row w b (cC c) 35):(loadVar 35 ⟨b,0,none⟩).run Tryz.prog w=.ok (vC c) w :=
 run_loadVar_at _ ⟨b,0,none⟩ 35 (cC c) _ (h.at_ (k:=0) (n:=39) (by rw[List.drop_zero,List.take_of_length_le (by rw[cC_length];exact Nat.le_refl _)])) Tryz.underlying35 rfl (by rw[cC_length];exact size35)
structure OI (b r g:Nat) (c o:Cm) (w W:World):Prop where
 box:Row W b (cC c) 35
 res:Row W r (cC zC) 35
 out:Row W g (cC o) 35
 bel:Below b w W
 lt1:b<r
 lt2:r<g
section
variable {b r g : Nat} {c o o' : Cm} {w W W' : World}
theorem OI.set (h:OI b r g c o w W) (k:Nat) (v:Value) (e:(cC o).set k v=cC o'):OI b r g c o' w (W.setCell ⟨g,k,none⟩ v) :=
 have h1:=h.lt1
 have h2:=h.lt2
 ⟨h.box.same (heap_set_other W g k v b (by omega)),h.res.same (heap_set_other W g k v r (by omega)),e▸h.out.set k v,Below.trans h.bel ((One.set k v).below (by omega) (Nat.le_of_lt h.box.lt)),h1,h2⟩
theorem OI.stI (h:OI b r g c o w W) (x:Id):OI b r g c { o with id:=x } w (stD W g 2 (cI x)) :=
 have h1:=h.lt1
 have h2:=h.lt2
 ⟨h.box.same (heap_stD_other W g 2 _ b (by omega)),h.res.same (heap_stD_other W g 2 _ r (by omega)),cC_setid o x▸h.out.stD 2 (cI x) (by rw[cI_length,cC_length];omega),Below.trans h.bel ((One.stD 2 _).below (by omega) (Nat.le_of_lt h.box.lt)),h1,h2⟩
theorem OI.keep (h:OI b r g c o w W) (hb:Below W.heap.size W W'):OI b r g c o w W' :=
 ⟨h.box.keep hb,h.res.keep hb,h.out.keep hb,Below.trans h.bel (hb.mono (Nat.le_of_lt h.box.lt)),h.lt1,h.lt2⟩
theorem OI.ok (h:OI b r g c o w W):okA W ⟨g,0,none⟩ 39=true∧rdA W ⟨g,0,none⟩ 39=vC o∧rowOk W r 39=true∧Row (W.setRow r (aC o)) r (cC o) 35∧Below b w (W.setRow r (aC o)) :=
 ⟨(h.out.okw (cC_length o)).1,(h.out.okw (cC_length o)).2,Row.rowOk' h.res (cC_length zC),Row.setRow h.res (cC o),Below.trans h.bel ((One.setRow r _).below (Nat.le_of_lt h.lt1) (Nat.le_of_lt h.box.lt))⟩
end
def onlyC (c:Cm):Cm :=
 ⟨c.verb,if c.verb=1 then c.name else ⟨#[]⟩,if c.verb=1 then zI else if c.verb<10 then c.id else zI,if c.verb=2 then c.size else 0,if c.verb=3∨c.verb=7 then c.from_ else 0,if c.verb=1 then c.count else 0,if c.verb=6 then c.code else 0,if c.verb=7∨c.verb=10 then c.text else ⟨#[]⟩⟩
def OnlyP (c:Cm) (w:World):Ending→World→Prop:=fun e w'=>e=.returned (vC (onlyC c))∧Below w.heap.size w w'
theorem only_hd (c:Cm) (n:Int) {b:Nat} {w:World} (hb:w.heap.size=b) (hv:c.verb=n):∃ W3,(((w.alloc (.cells (aC c) 35)).alloc (.cells (aC zC) 35)).alloc (.cells (aC ⟨n,⟨#[]⟩,zI,0,0,0,0,⟨#[]⟩⟩) 35))=W3∧OI b (b+1) (b+1+1) c ⟨n,⟨#[]⟩,zI,0,0,0,0,⟨#[]⟩⟩ w W3∧((w.alloc (.cells (aC c) 35)).alloc (.cells (aC zC) 35)).cell? ⟨b,0,none⟩=some (.int .i64 n):=by
 have R1:Row ((w.alloc (.cells (aC c) 35)).alloc (.cells (aC zC) 35)) b (cC c) 35:=by
  rw[← hb]
  exact (Row.new w (cC c) 35).keep (below_alloc _ _)
 have R2:Row ((w.alloc (.cells (aC c) 35)).alloc (.cells (aC zC) 35)) (b+1) (cC zC) 35:=by
  have h:=Row.new (w.alloc (.cells (aC c) 35)) (cC zC) 35
  rwa[show (w.alloc (.cells (aC c) 35)).heap.size=b+1 by rw[← hb];simp] at h
 have R3:Row (((w.alloc (.cells (aC c) 35)).alloc (.cells (aC zC) 35)).alloc (.cells (aC ⟨n,⟨#[]⟩,zI,0,0,0,0,⟨#[]⟩⟩) 35)) (b+1+1) (cC ⟨n,⟨#[]⟩,zI,0,0,0,0,⟨#[]⟩⟩) 35:=by
  have h:=Row.new ((w.alloc (.cells (aC c) 35)).alloc (.cells (aC zC) 35)) (cC ⟨n,⟨#[]⟩,zI,0,0,0,0,⟨#[]⟩⟩) 35
  rwa[show ((w.alloc (.cells (aC c) 35)).alloc (.cells (aC zC) 35)).heap.size=b+1+1 by rw[← hb];simp] at h
 exact⟨_,rfl,⟨R1.keep (below_alloc _ _),R2.keep (below_alloc _ _),R3,by rw[← hb];exact Below.step (Below.step (below_alloc w _) (below_alloc _ _)) (below_alloc _ _),by omega,by omega⟩,by rw[← hv];exact R1.cell 0⟩
section
set_option maxRecDepth 100000
set_option maxHeartbeats 3200000
theorem only50_1 (c:Cm) (hv:c.verb=1) (w:World):Calls Tryz.prog 81 #[vC c] w (OnlyP c w):=by
 obtain⟨b,hb⟩:∃ b,w.heap.size=b:=⟨_,rfl⟩
 have HO:Hid (onlyC c=⟨1,c.name,zI,0,0,c.count,0,⟨#[]⟩⟩):=Lib.hid (by unfold onlyC;rw[hv];rfl)
 obtain⟨W3,hW3,O3,k0⟩:=only_hd c 1 hb hv
 have HV:=Lib.hid hv
 clear hv
 have v3:W3.cell? ⟨b,0,none⟩=some (.int .i64 1):=by rw[← HV.out];exact O3.box.cell 0
 have HI:=Lib.hid O3
 clear O3
 go_enter Tryz.func81,Tryz.ntmps81
 go_wp2
 obtain⟨r,hr⟩:∃ r,r=b+1:=⟨_,rfl⟩
 rw[← hr] at HI ⊢
 obtain⟨g,hg⟩:∃ g,g=r+1:=⟨_,rfl⟩
 rw[← hg] at HI ⊢
 clear hr hg v3
 obtain⟨fo,hfo⟩:∃ fo:Bool→Bool→Cm,fo=fun d1 d2=>⟨1,(bif d1 then c.name else ⟨#[]⟩),zI,0,0,(bif d2 then c.count else 0),0,⟨#[]⟩⟩:=⟨_,rfl⟩
 have HFO:=Lib.hid (And.intro (show fo false false=⟨1,(⟨#[]⟩),zI,0,0,0,0,⟨#[]⟩⟩ by rw[hfo];rfl) (show fo true true=⟨1,c.name,zI,0,0,c.count,0,⟨#[]⟩⟩ by rw[hfo];rfl))
 refine AnyO.wp_anyI (by kernel_rfl) (by kernel_rfl) (AnyO.InvG (σ:=Unit) (fun σ=>AnyO.pvL [some (.pointer (some ⟨b,1,none⟩)),some (.string c.name),some (.pointer (some ⟨b,36,none⟩)),some (.int .i64 c.count),some (.pointer (some ⟨g,1,none⟩)),none,some (.pointer (some ⟨g,36,none⟩)),none]) (fun _ D u=>OI b r g c (fo (D 5) (D 7)) w u)) (AnyO.InvG.start (g:=()) (by show OI b r g c (fo false false) w _;rw[HFO.out.1];exact HI.out.keep (below_drew _))) ?_ ?_
 ·intro i hi
  have hi2:i=5∨i=7∨i=0∨i=1∨i=2∨i=3∨i=4∨i=6:=by simp only[List.size_toArray,List.length_cons,List.length_nil] at hi;omega
  clear hi
  rcases hi2 with rfl|rfl|rfl|rfl|rfl|rfl|rfl|rfl
  ·refine AnyO.I rfl [4,1,0,1] ?_;rintro D vs u σ Q h0 hC hp ac hb K hK
   have s14:_=_:=AnyO.sv 14 4 hb hp Q
   have s11:_=_:=AnyO.sv 11 1 hb hp Q
   have r1:=Q.out.2.out.cell 1
   have r2:=Q.out.2.out.fz 1
   go_simp;have hW:=Q.out.2
   refine hK undef _ (AnyO.InvG.step (g:=σ) Q.out.1 trivial ?_)
   show OI b r g c (fo true (D 7)) w _
   rw[h0] at hW
   exact hW.set 1 _ (by rw[hfo];exact cC_set1 _ _)
  ·refine AnyO.I rfl [6,3,5,0,1,2,3,4,5] ?_;rintro D vs u σ Q h0 hC hp ac hb K hK
   have s15:_=_:=AnyO.sv 15 6 hb hp Q
   have s13:_=_:=AnyO.sv 13 3 hb hp Q
   have r1:=(Q.out.2.out.cell 36).trans (cC_at (aC_36 _))
   have r2:=Q.out.2.out.fz 36
   go_simp;have hW:=Q.out.2
   refine hK undef _ (AnyO.InvG.step (g:=σ) Q.out.1 trivial ?_)
   show OI b r g c (fo (D 5) true) w _
   rw[h0] at hW
   exact hW.set 36 _ (by rw[hfo];exact cC_set36 _ _)
  all_goals
   refine AnyO.J rfl ?_;rintro D vs u σ Q h0 hC hp ac hb K hK
   try have s1:ac.tmps[1]?.getD undef=.pointer (some ⟨b,0,none⟩):=by rw[hb.out];kernel_rfl
   try have s10:_=_:=AnyO.sv 10 0 hb hp Q
   try have s12:_=_:=AnyO.sv 12 2 hb hp Q
   try have s3:ac.tmps[3]?.getD undef=.pointer (some ⟨g,0,none⟩):=by rw[hb.out];kernel_rfl
   have rr_0:u.cell? ⟨b,1,none⟩=some (.string c.name):=Q.out.2.box.cell 1
   have rr_1:u.cell? ⟨b,36,none⟩=some (.int .i64 c.count):=(Q.out.2.box.cell 36).trans (cC_at (aC_36 c))
   go_simp
   exact hK _ _ (AnyO.InvG.step (g:=σ) Q.out.1 rfl Q.out.2)
 ·intro D vs u hI hD
  obtain⟨σ,hP,hW⟩:=hI
  have e0:_=_:=hP 0 (hD 0 (by decide))
  have e1:_=_:=hP 1 (hD 1 (by decide))
  have e2:_=_:=hP 2 (hD 2 (by decide))
  have e3:_=_:=hP 3 (hD 3 (by decide))
  have e4:_=_:=hP 4 (hD 4 (by decide))
  have e6:_=_:=hP 6 (hD 6 (by decide))
  rw[hD 5 (by decide),hD 7 (by decide),HFO.out.2] at hW
  have HW:=Lib.hid hW
  clear hW hP hD
  rw[puts_range [some 10,some 11,some 12,some 13,some 14,none,some 15,none] (by kernel_rfl)]
  simp only[putL,Nat.reduceAdd,e0,e1,e2,e3,e4,e6]
  clear e0 e1 e2 e3 e4 e6
  obtain⟨ok,rd,rk,hrr,hbl⟩:=HW.out.ok
  have HF:=Lib.hid (And.intro hrr hbl)
  have v9:u.cell? ⟨b,0,none⟩=some (.int .i64 1):=by rw[← HV.out];exact HW.out.box.cell 0
  clear hrr hbl
  go_simp
  go_wp2
  exact bodyPost_ret (v:=vC ⟨1,c.name,zI,0,0,c.count,0,⟨#[]⟩⟩) (results_c1 (ad:=⟨r,0,none⟩) rfl rfl (ld_row31 _ HF.out.1)) rfl ⟨by rw[HO.out],by rw[hb];exact HF.out.2⟩
theorem only50_2 (c:Cm) (hv:c.verb=2) (w:World):Calls Tryz.prog 81 #[vC c] w (OnlyP c w):=by
 obtain⟨b,hb⟩:∃ b,w.heap.size=b:=⟨_,rfl⟩
 have HO:Hid (onlyC c=⟨2,⟨#[]⟩,c.id,c.size,0,0,0,⟨#[]⟩⟩):=Lib.hid (by unfold onlyC;rw[hv];rfl)
 obtain⟨W3,hW3,O3,k0⟩:=only_hd c 2 hb hv
 have HV:=Lib.hid hv
 clear hv
 have v3:W3.cell? ⟨b,0,none⟩=some (.int .i64 2):=by rw[← HV.out];exact O3.box.cell 0
 obtain⟨x3,y3⟩:=O3.box.idC
 have st3:stOk W3 (b+1+1) 2 32=true:=O3.out.ok _ 2 32 (by rw[cC_length];omega)
 have O4:OI b (b+1) (b+1+1) c ⟨2,⟨#[]⟩,c.id,0,0,0,0,⟨#[]⟩⟩ w (stD W3 (b+1+1) 2 (cI c.id)):=O3.stI c.id
 obtain⟨W4,hW4⟩:∃ W4,stD W3 (b+1+1) 2 (cI c.id)=W4:=⟨_,rfl⟩
 rw[hW4] at O4
 have v4:W4.cell? ⟨b,0,none⟩=some (.int .i64 2):=by rw[← HV.out];exact O4.box.cell 0
 have l4:W4.cell? ⟨b,34,none⟩=some (.int .i64 c.size):=(O4.box.cell 34).trans (cC_at (aC_34 c))
 have g4:W4.cell? ⟨b+1+1,34,none⟩=some (.int .i64 0):=(O4.out.cell 34).trans (cC_at (aC_34 _))
 have f4:=O4.out.fz 34
 have O5:OI b (b+1) (b+1+1) c ⟨2,⟨#[]⟩,c.id,c.size,0,0,0,⟨#[]⟩⟩ w (W4.setCell ⟨b+1+1,34,none⟩ (.int .i64 c.size)):=O4.set 34 _ (cC_set34 _ _)
 obtain⟨W5,hW5⟩:∃ W5,W4.setCell ⟨b+1+1,34,none⟩ (.int .i64 c.size)=W5:=⟨_,rfl⟩
 rw[hW5] at O5
 have v5:W5.cell? ⟨b,0,none⟩=some (.int .i64 2):=by rw[← HV.out];exact O5.box.cell 0
 obtain⟨ok,rd,rk,hr,hbl⟩:=O5.ok
 have HF:=Lib.hid (And.intro hr hbl)
 clear hr hbl O3 O4 O5
 go_enter Tryz.func81,Tryz.ntmps81
 go_wp2
 exact bodyPost_ret (v:=vC ⟨2,⟨#[]⟩,c.id,c.size,0,0,0,⟨#[]⟩⟩) (results_c1 (ad:=⟨b+1,0,none⟩) rfl rfl (ld_row31 _ HF.out.1)) rfl ⟨by rw[HO.out],by rw[hb];exact HF.out.2⟩
theorem only50_3 (c:Cm) (hv:c.verb=3) (w:World):Calls Tryz.prog 81 #[vC c] w (OnlyP c w):=by
 obtain⟨b,hb⟩:∃ b,w.heap.size=b:=⟨_,rfl⟩
 have HO:Hid (onlyC c=⟨3,⟨#[]⟩,c.id,0,c.from_,0,0,⟨#[]⟩⟩):=Lib.hid (by unfold onlyC;rw[hv];rfl)
 obtain⟨W3,hW3,O3,k0⟩:=only_hd c 3 hb hv
 have HV:=Lib.hid hv
 clear hv
 have v3:W3.cell? ⟨b,0,none⟩=some (.int .i64 3):=by rw[← HV.out];exact O3.box.cell 0
 obtain⟨x3,y3⟩:=O3.box.idC
 have st3:stOk W3 (b+1+1) 2 32=true:=O3.out.ok _ 2 32 (by rw[cC_length];omega)
 have O4:OI b (b+1) (b+1+1) c ⟨3,⟨#[]⟩,c.id,0,0,0,0,⟨#[]⟩⟩ w (stD W3 (b+1+1) 2 (cI c.id)):=O3.stI c.id
 obtain⟨W4,hW4⟩:∃ W4,stD W3 (b+1+1) 2 (cI c.id)=W4:=⟨_,rfl⟩
 rw[hW4] at O4
 have v4:W4.cell? ⟨b,0,none⟩=some (.int .i64 3):=by rw[← HV.out];exact O4.box.cell 0
 have l4:W4.cell? ⟨b,35,none⟩=some (.int .i64 c.from_):=(O4.box.cell 35).trans (cC_at (aC_35 c))
 have g4:W4.cell? ⟨b+1+1,35,none⟩=some (.int .i64 0):=(O4.out.cell 35).trans (cC_at (aC_35 _))
 have f4:=O4.out.fz 35
 have O5:OI b (b+1) (b+1+1) c ⟨3,⟨#[]⟩,c.id,0,c.from_,0,0,⟨#[]⟩⟩ w (W4.setCell ⟨b+1+1,35,none⟩ (.int .i64 c.from_)):=O4.set 35 _ (cC_set35 _ _)
 obtain⟨W5,hW5⟩:∃ W5,W4.setCell ⟨b+1+1,35,none⟩ (.int .i64 c.from_)=W5:=⟨_,rfl⟩
 rw[hW5] at O5
 have v5:W5.cell? ⟨b,0,none⟩=some (.int .i64 3):=by rw[← HV.out];exact O5.box.cell 0
 obtain⟨ok,rd,rk,hr,hbl⟩:=O5.ok
 have HF:=Lib.hid (And.intro hr hbl)
 clear hr hbl O3 O4 O5
 go_enter Tryz.func81,Tryz.ntmps81
 go_wp2
 exact bodyPost_ret (v:=vC ⟨3,⟨#[]⟩,c.id,0,c.from_,0,0,⟨#[]⟩⟩) (results_c1 (ad:=⟨b+1,0,none⟩) rfl rfl (ld_row31 _ HF.out.1)) rfl ⟨by rw[HO.out],by rw[hb];exact HF.out.2⟩
theorem only50_4 (c:Cm) (hv:c.verb=4) (w:World):Calls Tryz.prog 81 #[vC c] w (OnlyP c w):=by
 obtain⟨b,hb⟩:∃ b,w.heap.size=b:=⟨_,rfl⟩
 have HO:Hid (onlyC c=⟨4,⟨#[]⟩,c.id,0,0,0,0,⟨#[]⟩⟩):=Lib.hid (by unfold onlyC;rw[hv];rfl)
 obtain⟨W3,hW3,O3,k0⟩:=only_hd c 4 hb hv
 have HV:=Lib.hid hv
 clear hv
 have v3:W3.cell? ⟨b,0,none⟩=some (.int .i64 4):=by rw[← HV.out];exact O3.box.cell 0
 obtain⟨x3,y3⟩:=O3.box.idC
 have st3:stOk W3 (b+1+1) 2 32=true:=O3.out.ok _ 2 32 (by rw[cC_length];omega)
 have O4:OI b (b+1) (b+1+1) c ⟨4,⟨#[]⟩,c.id,0,0,0,0,⟨#[]⟩⟩ w (stD W3 (b+1+1) 2 (cI c.id)):=O3.stI c.id
 obtain⟨W4,hW4⟩:∃ W4,stD W3 (b+1+1) 2 (cI c.id)=W4:=⟨_,rfl⟩
 rw[hW4] at O4
 have v4:W4.cell? ⟨b,0,none⟩=some (.int .i64 4):=by rw[← HV.out];exact O4.box.cell 0
 obtain⟨ok,rd,rk,hr,hbl⟩:=O4.ok
 have HF:=Lib.hid (And.intro hr hbl)
 clear hr hbl O3 O4
 go_enter Tryz.func81,Tryz.ntmps81
 go_wp2
 exact bodyPost_ret (v:=vC ⟨4,⟨#[]⟩,c.id,0,0,0,0,⟨#[]⟩⟩) (results_c1 (ad:=⟨b+1,0,none⟩) rfl rfl (ld_row31 _ HF.out.1)) rfl ⟨by rw[HO.out],by rw[hb];exact HF.out.2⟩
theorem only50_5 (c:Cm) (hv:c.verb=5) (w:World):Calls Tryz.prog 81 #[vC c] w (OnlyP c w):=by
 obtain⟨b,hb⟩:∃ b,w.heap.size=b:=⟨_,rfl⟩
 have HO:Hid (onlyC c=⟨5,⟨#[]⟩,c.id,0,0,0,0,⟨#[]⟩⟩):=Lib.hid (by unfold onlyC;rw[hv];rfl)
 obtain⟨W3,hW3,O3,k0⟩:=only_hd c 5 hb hv
 have HV:=Lib.hid hv
 clear hv
 have v3:W3.cell? ⟨b,0,none⟩=some (.int .i64 5):=by rw[← HV.out];exact O3.box.cell 0
 obtain⟨x3,y3⟩:=O3.box.idC
 have st3:stOk W3 (b+1+1) 2 32=true:=O3.out.ok _ 2 32 (by rw[cC_length];omega)
 have O4:OI b (b+1) (b+1+1) c ⟨5,⟨#[]⟩,c.id,0,0,0,0,⟨#[]⟩⟩ w (stD W3 (b+1+1) 2 (cI c.id)):=O3.stI c.id
 obtain⟨W4,hW4⟩:∃ W4,stD W3 (b+1+1) 2 (cI c.id)=W4:=⟨_,rfl⟩
 rw[hW4] at O4
 have v4:W4.cell? ⟨b,0,none⟩=some (.int .i64 5):=by rw[← HV.out];exact O4.box.cell 0
 obtain⟨ok,rd,rk,hr,hbl⟩:=O4.ok
 have HF:=Lib.hid (And.intro hr hbl)
 clear hr hbl O3 O4
 go_enter Tryz.func81,Tryz.ntmps81
 go_wp2
 exact bodyPost_ret (v:=vC ⟨5,⟨#[]⟩,c.id,0,0,0,0,⟨#[]⟩⟩) (results_c1 (ad:=⟨b+1,0,none⟩) rfl rfl (ld_row31 _ HF.out.1)) rfl ⟨by rw[HO.out],by rw[hb];exact HF.out.2⟩
theorem only50_6 (c:Cm) (hv:c.verb=6) (w:World):Calls Tryz.prog 81 #[vC c] w (OnlyP c w):=by
 obtain⟨b,hb⟩:∃ b,w.heap.size=b:=⟨_,rfl⟩
 have HO:Hid (onlyC c=⟨6,⟨#[]⟩,c.id,0,0,0,c.code,⟨#[]⟩⟩):=Lib.hid (by unfold onlyC;rw[hv];rfl)
 obtain⟨W3,hW3,O3,k0⟩:=only_hd c 6 hb hv
 have HV:=Lib.hid hv
 clear hv
 have v3:W3.cell? ⟨b,0,none⟩=some (.int .i64 6):=by rw[← HV.out];exact O3.box.cell 0
 obtain⟨x3,y3⟩:=O3.box.idC
 have st3:stOk W3 (b+1+1) 2 32=true:=O3.out.ok _ 2 32 (by rw[cC_length];omega)
 have O4:OI b (b+1) (b+1+1) c ⟨6,⟨#[]⟩,c.id,0,0,0,0,⟨#[]⟩⟩ w (stD W3 (b+1+1) 2 (cI c.id)):=O3.stI c.id
 obtain⟨W4,hW4⟩:∃ W4,stD W3 (b+1+1) 2 (cI c.id)=W4:=⟨_,rfl⟩
 rw[hW4] at O4
 have v4:W4.cell? ⟨b,0,none⟩=some (.int .i64 6):=by rw[← HV.out];exact O4.box.cell 0
 have l4:W4.cell? ⟨b,37,none⟩=some (.int .i64 c.code):=(O4.box.cell 37).trans (cC_at (aC_37 c))
 have g4:W4.cell? ⟨b+1+1,37,none⟩=some (.int .i64 0):=(O4.out.cell 37).trans (cC_at (aC_37 _))
 have f4:=O4.out.fz 37
 have O5:OI b (b+1) (b+1+1) c ⟨6,⟨#[]⟩,c.id,0,0,0,c.code,⟨#[]⟩⟩ w (W4.setCell ⟨b+1+1,37,none⟩ (.int .i64 c.code)):=O4.set 37 _ (cC_set37 _ _)
 obtain⟨W5,hW5⟩:∃ W5,W4.setCell ⟨b+1+1,37,none⟩ (.int .i64 c.code)=W5:=⟨_,rfl⟩
 rw[hW5] at O5
 have v5:W5.cell? ⟨b,0,none⟩=some (.int .i64 6):=by rw[← HV.out];exact O5.box.cell 0
 obtain⟨ok,rd,rk,hr,hbl⟩:=O5.ok
 have HF:=Lib.hid (And.intro hr hbl)
 clear hr hbl O3 O4 O5
 go_enter Tryz.func81,Tryz.ntmps81
 go_wp2
 exact bodyPost_ret (v:=vC ⟨6,⟨#[]⟩,c.id,0,0,0,c.code,⟨#[]⟩⟩) (results_c1 (ad:=⟨b+1,0,none⟩) rfl rfl (ld_row31 _ HF.out.1)) rfl ⟨by rw[HO.out],by rw[hb];exact HF.out.2⟩
theorem only50_7 (c:Cm) (hv:c.verb=7) (w:World):Calls Tryz.prog 81 #[vC c] w (OnlyP c w):=by
 obtain⟨b,hb⟩:∃ b,w.heap.size=b:=⟨_,rfl⟩
 have HO:Hid (onlyC c=⟨7,⟨#[]⟩,c.id,0,c.from_,0,0,c.text⟩):=Lib.hid (by unfold onlyC;rw[hv];rfl)
 obtain⟨W3,hW3,O3,k0⟩:=only_hd c 7 hb hv
 have HV:=Lib.hid hv
 clear hv
 have v3:W3.cell? ⟨b,0,none⟩=some (.int .i64 7):=by rw[← HV.out];exact O3.box.cell 0
 obtain⟨x3,y3⟩:=O3.box.idC
 have st3:stOk W3 (b+1+1) 2 32=true:=O3.out.ok _ 2 32 (by rw[cC_length];omega)
 have O4:OI b (b+1) (b+1+1) c ⟨7,⟨#[]⟩,c.id,0,0,0,0,⟨#[]⟩⟩ w (stD W3 (b+1+1) 2 (cI c.id)):=O3.stI c.id
 obtain⟨W4,hW4⟩:∃ W4,stD W3 (b+1+1) 2 (cI c.id)=W4:=⟨_,rfl⟩
 rw[hW4] at O4
 have v4:W4.cell? ⟨b,0,none⟩=some (.int .i64 7):=by rw[← HV.out];exact O4.box.cell 0
 have HI:=Lib.hid O4
 clear O3 O4
 go_enter Tryz.func81,Tryz.ntmps81
 go_wp2
 obtain⟨r,hr⟩:∃ r,r=b+1:=⟨_,rfl⟩
 rw[← hr] at HI ⊢
 obtain⟨g,hg⟩:∃ g,g=r+1:=⟨_,rfl⟩
 rw[← hg] at HI ⊢
 clear hr hg v3 v4
 obtain⟨fo,hfo⟩:∃ fo:Bool→Bool→Cm,fo=fun d1 d2=>⟨7,⟨#[]⟩,c.id,0,(bif d1 then c.from_ else 0),0,0,(bif d2 then c.text else ⟨#[]⟩)⟩:=⟨_,rfl⟩
 have HFO:=Lib.hid (And.intro (show fo false false=⟨7,⟨#[]⟩,c.id,0,0,0,0,(⟨#[]⟩)⟩ by rw[hfo];rfl) (show fo true true=⟨7,⟨#[]⟩,c.id,0,c.from_,0,0,c.text⟩ by rw[hfo];rfl))
 refine AnyO.wp_anyI (by kernel_rfl) (by kernel_rfl) (AnyO.InvG (σ:=Unit) (fun σ=>AnyO.pvL [some (.pointer (some ⟨b,35,none⟩)),some (.int .i64 c.from_),some (.pointer (some ⟨b,38,none⟩)),some (.string c.text),some (.pointer (some ⟨g,35,none⟩)),none,some (.pointer (some ⟨g,38,none⟩)),none]) (fun _ D u=>OI b r g c (fo (D 5) (D 7)) w u)) (AnyO.InvG.start (g:=()) (by show OI b r g c (fo false false) w _;rw[HFO.out.1];exact HI.out.keep (below_drew _))) ?_ ?_
 ·intro i hi
  have hi2:i=5∨i=7∨i=0∨i=1∨i=2∨i=3∨i=4∨i=6:=by simp only[List.size_toArray,List.length_cons,List.length_nil] at hi;omega
  clear hi
  rcases hi2 with rfl|rfl|rfl|rfl|rfl|rfl|rfl|rfl
  ·refine AnyO.I rfl [4,1,0,1] ?_;rintro D vs u σ Q h0 hC hp ac hb K hK
   have s45:_=_:=AnyO.sv 45 4 hb hp Q
   have s42:_=_:=AnyO.sv 42 1 hb hp Q
   have r1:=(Q.out.2.out.cell 35).trans (cC_at (aC_35 _))
   have r2:=Q.out.2.out.fz 35
   go_simp;have hW:=Q.out.2
   refine hK undef _ (AnyO.InvG.step (g:=σ) Q.out.1 trivial ?_)
   show OI b r g c (fo true (D 7)) w _
   rw[h0] at hW
   exact hW.set 35 _ (by rw[hfo];exact cC_set35 _ _)
  ·refine AnyO.I rfl [6,3,5,0,1,2,3,4,5] ?_;rintro D vs u σ Q h0 hC hp ac hb K hK
   have s46:_=_:=AnyO.sv 46 6 hb hp Q
   have s44:_=_:=AnyO.sv 44 3 hb hp Q
   have r1:=(Q.out.2.out.cell 38).trans (cC_at (aC_38 _))
   have r2:=Q.out.2.out.fz 38
   go_simp;have hW:=Q.out.2
   refine hK undef _ (AnyO.InvG.step (g:=σ) Q.out.1 trivial ?_)
   show OI b r g c (fo (D 5) true) w _
   rw[h0] at hW
   exact hW.set 38 _ (by rw[hfo];exact cC_set38 _ _)
  all_goals
   refine AnyO.J rfl ?_;rintro D vs u σ Q h0 hC hp ac hb K hK
   try have s1:ac.tmps[1]?.getD undef=.pointer (some ⟨b,0,none⟩):=by rw[hb.out];kernel_rfl
   try have s41:_=_:=AnyO.sv 41 0 hb hp Q
   try have s43:_=_:=AnyO.sv 43 2 hb hp Q
   try have s3:ac.tmps[3]?.getD undef=.pointer (some ⟨g,0,none⟩):=by rw[hb.out];kernel_rfl
   have rr_0:u.cell? ⟨b,35,none⟩=some (.int .i64 c.from_):=(Q.out.2.box.cell 35).trans (cC_at (aC_35 c))
   have rr_1:u.cell? ⟨b,38,none⟩=some (.string c.text):=(Q.out.2.box.cell 38).trans (cC_at (aC_38 c))
   go_simp
   exact hK _ _ (AnyO.InvG.step (g:=σ) Q.out.1 rfl Q.out.2)
 ·intro D vs u hI hD
  obtain⟨σ,hP,hW⟩:=hI
  have e0:_=_:=hP 0 (hD 0 (by decide))
  have e1:_=_:=hP 1 (hD 1 (by decide))
  have e2:_=_:=hP 2 (hD 2 (by decide))
  have e3:_=_:=hP 3 (hD 3 (by decide))
  have e4:_=_:=hP 4 (hD 4 (by decide))
  have e6:_=_:=hP 6 (hD 6 (by decide))
  rw[hD 5 (by decide),hD 7 (by decide),HFO.out.2] at hW
  have HW:=Lib.hid hW
  clear hW hP hD
  rw[puts_range [some 41,some 42,some 43,some 44,some 45,none,some 46,none] (by kernel_rfl)]
  simp only[putL,Nat.reduceAdd,e0,e1,e2,e3,e4,e6]
  clear e0 e1 e2 e3 e4 e6
  obtain⟨ok,rd,rk,hrr,hbl⟩:=HW.out.ok
  have HF:=Lib.hid (And.intro hrr hbl)
  have v9:u.cell? ⟨b,0,none⟩=some (.int .i64 7):=by rw[← HV.out];exact HW.out.box.cell 0
  clear hrr hbl
  go_simp
  go_wp2
  exact bodyPost_ret (v:=vC ⟨7,⟨#[]⟩,c.id,0,c.from_,0,0,c.text⟩) (results_c1 (ad:=⟨r,0,none⟩) rfl rfl (ld_row31 _ HF.out.1)) rfl ⟨by rw[HO.out],by rw[hb];exact HF.out.2⟩
theorem only50_8 (c:Cm) (hv:c.verb=8) (w:World):Calls Tryz.prog 81 #[vC c] w (OnlyP c w):=by
 obtain⟨b,hb⟩:∃ b,w.heap.size=b:=⟨_,rfl⟩
 have HO:Hid (onlyC c=⟨8,⟨#[]⟩,c.id,0,0,0,0,⟨#[]⟩⟩):=Lib.hid (by unfold onlyC;rw[hv];rfl)
 obtain⟨W3,hW3,O3,k0⟩:=only_hd c 8 hb hv
 have HV:=Lib.hid hv
 clear hv
 have v3:W3.cell? ⟨b,0,none⟩=some (.int .i64 8):=by rw[← HV.out];exact O3.box.cell 0
 obtain⟨x3,y3⟩:=O3.box.idC
 have st3:stOk W3 (b+1+1) 2 32=true:=O3.out.ok _ 2 32 (by rw[cC_length];omega)
 have O4:OI b (b+1) (b+1+1) c ⟨8,⟨#[]⟩,c.id,0,0,0,0,⟨#[]⟩⟩ w (stD W3 (b+1+1) 2 (cI c.id)):=O3.stI c.id
 obtain⟨W4,hW4⟩:∃ W4,stD W3 (b+1+1) 2 (cI c.id)=W4:=⟨_,rfl⟩
 rw[hW4] at O4
 have v4:W4.cell? ⟨b,0,none⟩=some (.int .i64 8):=by rw[← HV.out];exact O4.box.cell 0
 obtain⟨ok,rd,rk,hr,hbl⟩:=O4.ok
 have HF:=Lib.hid (And.intro hr hbl)
 clear hr hbl O3 O4
 go_enter Tryz.func81,Tryz.ntmps81
 go_wp2
 exact bodyPost_ret (v:=vC ⟨8,⟨#[]⟩,c.id,0,0,0,0,⟨#[]⟩⟩) (results_c1 (ad:=⟨b+1,0,none⟩) rfl rfl (ld_row31 _ HF.out.1)) rfl ⟨by rw[HO.out],by rw[hb];exact HF.out.2⟩
theorem only50_9 (c:Cm) (hv:c.verb=9) (w:World):Calls Tryz.prog 81 #[vC c] w (OnlyP c w):=by
 obtain⟨b,hb⟩:∃ b,w.heap.size=b:=⟨_,rfl⟩
 have HO:Hid (onlyC c=⟨9,⟨#[]⟩,c.id,0,0,0,0,⟨#[]⟩⟩):=Lib.hid (by unfold onlyC;rw[hv];rfl)
 obtain⟨W3,hW3,O3,k0⟩:=only_hd c 9 hb hv
 have HV:=Lib.hid hv
 clear hv
 have v3:W3.cell? ⟨b,0,none⟩=some (.int .i64 9):=by rw[← HV.out];exact O3.box.cell 0
 obtain⟨x3,y3⟩:=O3.box.idC
 have st3:stOk W3 (b+1+1) 2 32=true:=O3.out.ok _ 2 32 (by rw[cC_length];omega)
 have O4:OI b (b+1) (b+1+1) c ⟨9,⟨#[]⟩,c.id,0,0,0,0,⟨#[]⟩⟩ w (stD W3 (b+1+1) 2 (cI c.id)):=O3.stI c.id
 obtain⟨W4,hW4⟩:∃ W4,stD W3 (b+1+1) 2 (cI c.id)=W4:=⟨_,rfl⟩
 rw[hW4] at O4
 have v4:W4.cell? ⟨b,0,none⟩=some (.int .i64 9):=by rw[← HV.out];exact O4.box.cell 0
 obtain⟨ok,rd,rk,hr,hbl⟩:=O4.ok
 have HF:=Lib.hid (And.intro hr hbl)
 clear hr hbl O3 O4
 go_enter Tryz.func81,Tryz.ntmps81
 go_wp2
 exact bodyPost_ret (v:=vC ⟨9,⟨#[]⟩,c.id,0,0,0,0,⟨#[]⟩⟩) (results_c1 (ad:=⟨b+1,0,none⟩) rfl rfl (ld_row31 _ HF.out.1)) rfl ⟨by rw[HO.out],by rw[hb];exact HF.out.2⟩
theorem only50_10 (c:Cm) (hv:c.verb=10) (w:World):Calls Tryz.prog 81 #[vC c] w (OnlyP c w):=by
 obtain⟨b,hb⟩:∃ b,w.heap.size=b:=⟨_,rfl⟩
 have HO:Hid (onlyC c=⟨10,⟨#[]⟩,zI,0,0,0,0,c.text⟩):=Lib.hid (by unfold onlyC;rw[hv];rfl)
 obtain⟨W3,hW3,O3,k0⟩:=only_hd c 10 hb hv
 have HV:=Lib.hid hv
 clear hv
 have v3:W3.cell? ⟨b,0,none⟩=some (.int .i64 10):=by rw[← HV.out];exact O3.box.cell 0
 have l3:W3.cell? ⟨b,38,none⟩=some (.string c.text):=(O3.box.cell 38).trans (cC_at (aC_38 c))
 have g3:W3.cell? ⟨b+1+1,38,none⟩=some (.string ⟨#[]⟩):=(O3.out.cell 38).trans (cC_at (aC_38 _))
 have f3:=O3.out.fz 38
 have O4:OI b (b+1) (b+1+1) c ⟨10,⟨#[]⟩,zI,0,0,0,0,c.text⟩ w (W3.setCell ⟨b+1+1,38,none⟩ (.string c.text)):=O3.set 38 _ (cC_set38 _ _)
 obtain⟨W4,hW4⟩:∃ W4,W3.setCell ⟨b+1+1,38,none⟩ (.string c.text)=W4:=⟨_,rfl⟩
 rw[hW4] at O4
 have v4:W4.cell? ⟨b,0,none⟩=some (.int .i64 10):=by rw[← HV.out];exact O4.box.cell 0
 obtain⟨ok,rd,rk,hr,hbl⟩:=O4.ok
 have HF:=Lib.hid (And.intro hr hbl)
 clear hr hbl O3 O4
 go_enter Tryz.func81,Tryz.ntmps81
 go_wp2
 exact bodyPost_ret (v:=vC ⟨10,⟨#[]⟩,zI,0,0,0,0,c.text⟩) (results_c1 (ad:=⟨b+1,0,none⟩) rfl rfl (ld_row31 _ HF.out.1)) rfl ⟨by rw[HO.out],by rw[hb];exact HF.out.2⟩
theorem only50_11 (c:Cm) (hv:c.verb=11) (w:World):Calls Tryz.prog 81 #[vC c] w (OnlyP c w):=by
 obtain⟨b,hb⟩:∃ b,w.heap.size=b:=⟨_,rfl⟩
 have HO:Hid (onlyC c=⟨11,⟨#[]⟩,zI,0,0,0,0,⟨#[]⟩⟩):=Lib.hid (by unfold onlyC;rw[hv];rfl)
 obtain⟨W3,hW3,O3,k0⟩:=only_hd c 11 hb hv
 have HV:=Lib.hid hv
 clear hv
 have v3:W3.cell? ⟨b,0,none⟩=some (.int .i64 11):=by rw[← HV.out];exact O3.box.cell 0
 obtain⟨ok,rd,rk,hr,hbl⟩:=O3.ok
 have HF:=Lib.hid (And.intro hr hbl)
 clear hr hbl O3
 go_enter Tryz.func81,Tryz.ntmps81
 go_wp2
 exact bodyPost_ret (v:=vC ⟨11,⟨#[]⟩,zI,0,0,0,0,⟨#[]⟩⟩) (results_c1 (ad:=⟨b+1,0,none⟩) rfl rfl (ld_row31 _ HF.out.1)) rfl ⟨by rw[HO.out],by rw[hb];exact HF.out.2⟩
end
theorem only50 (c:Cm) (h1:1≤c.verb) (h2:c.verb≤11) (w:World):Calls Tryz.prog 81 #[vC c] w (OnlyP c w):=by
 have h:c.verb=1∨c.verb=2∨c.verb=3∨c.verb=4∨c.verb=5∨c.verb=6∨c.verb=7∨c.verb=8∨c.verb=9∨c.verb=10∨c.verb=11:=by omega
 rcases h with h|h|h|h|h|h|h|h|h|h|h
 ·exact only50_1 c h w
 ·exact only50_2 c h w
 ·exact only50_3 c h w
 ·exact only50_4 c h w
 ·exact only50_5 c h w
 ·exact only50_6 c h w
 ·exact only50_7 c h w
 ·exact only50_8 c h w
 ·exact only50_9 c h w
 ·exact only50_10 c h w
 ·exact only50_11 c h w
end
section
open Go.RowKit
theorem extra_all:(flagsL.all fun fl=>[true,false].all fun b1=>[true,false].all fun b2=>[true,false].all fun b3=>[true,false].all fun b4=>[true,false].all fun b5=>[true,false].all fun b6=>[true,false].all fun b7 =>
  (bits BinOp.andNot .i64 (orL (psL b1 b2 b3 b4 b5 b6 b7)) fl != 0) == !(useB fl 1 b1 && useB fl 2 b2 && useB fl 4 b3 && useB fl 8 b4 && useB fl 16 b5 && useB fl 32 b6 && useB fl 64 b7))=true:=by decide +kernel
theorem extra_eq (fl:Int) (hf:fl∈flagsL) (b1 b2 b3 b4 b5 b6 b7:Bool):(bits BinOp.andNot .i64 (orL (psL b1 b2 b3 b4 b5 b6 b7)) fl != 0) = !(useB fl 1 b1 && useB fl 2 b2 && useB fl 4 b3 && useB fl 8 b4 && useB fl 16 b5 && useB fl 32 b6 && useB fl 64 b7):=by
 have h1:=all_bool _ (all_bool _ (all_bool _ (all_bool _ (all_bool _ (all_bool _ (all_bool _ (List.all_eq_true.1 extra_all fl hf) b1) b2) b3) b4) b5) b6) b7
 exact beq_iff_eq.1 h1
theorem isEd (s:ByteArray):s.toList.isEmpty=decide (s=⟨#[]⟩):=by
 rw[Bool.eq_iff_iff,decide_eq_true_eq]
 constructor
 ·exact empty_of s
 ·intro h;rw[h,isE];rfl
def usesC (c:Cm) (fl:Int):Bool:=useB fl 1 (!c.name.toList.isEmpty) && useB fl 2 (!decide (c.id=zI)) && useB fl 4 (c.size != 0) && useB fl 8 (c.from_ != 0) && useB fl 16 (c.count != 0) && useB fl 32 (c.code != 0) && useB fl 64 (!c.text.toList.isEmpty)
theorem only_uses1 (c:Cm) (hv:c.verb=1):usesC c 17=decide (c=onlyC c):=by
 obtain⟨v,nm,x,sz,fr,co,cd,t⟩:=c
 simp only at hv
 subst hv
 unfold usesC onlyC
 simp only[isEd]
 rw[Bool.eq_iff_iff]
 simp only[show ∀ b,useB 17 1 b=true from by decide,show ∀ b,useB 17 2 b = !b from by decide,show ∀ b,useB 17 4 b = !b from by decide,show ∀ b,useB 17 8 b = !b from by decide,show ∀ b,useB 17 16 b=true from by decide,show ∀ b,useB 17 32 b = !b from by decide,show ∀ b,useB 17 64 b = !b from by decide]
 simp[and_assoc]
theorem only_uses2 (c:Cm) (hv:c.verb=2):usesC c 6=decide (c=onlyC c):=by
 obtain⟨v,nm,x,sz,fr,co,cd,t⟩:=c
 simp only at hv
 subst hv
 unfold usesC onlyC
 simp only[isEd]
 rw[Bool.eq_iff_iff]
 simp only[show ∀ b,useB 6 1 b = !b from by decide,show ∀ b,useB 6 2 b=true from by decide,show ∀ b,useB 6 4 b=true from by decide,show ∀ b,useB 6 8 b = !b from by decide,show ∀ b,useB 6 16 b = !b from by decide,show ∀ b,useB 6 32 b = !b from by decide,show ∀ b,useB 6 64 b = !b from by decide]
 simp[and_assoc]
theorem only_uses3 (c:Cm) (hv:c.verb=3):usesC c 10=decide (c=onlyC c):=by
 obtain⟨v,nm,x,sz,fr,co,cd,t⟩:=c
 simp only at hv
 subst hv
 unfold usesC onlyC
 simp only[isEd]
 rw[Bool.eq_iff_iff]
 simp only[show ∀ b,useB 10 1 b = !b from by decide,show ∀ b,useB 10 2 b=true from by decide,show ∀ b,useB 10 4 b = !b from by decide,show ∀ b,useB 10 8 b=true from by decide,show ∀ b,useB 10 16 b = !b from by decide,show ∀ b,useB 10 32 b = !b from by decide,show ∀ b,useB 10 64 b = !b from by decide]
 simp[and_assoc]
theorem only_uses4 (c:Cm) (hv:c.verb=4):usesC c 2=decide (c=onlyC c):=by
 obtain⟨v,nm,x,sz,fr,co,cd,t⟩:=c
 simp only at hv
 subst hv
 unfold usesC onlyC
 simp only[isEd]
 rw[Bool.eq_iff_iff]
 simp only[show ∀ b,useB 2 1 b = !b from by decide,show ∀ b,useB 2 2 b=true from by decide,show ∀ b,useB 2 4 b = !b from by decide,show ∀ b,useB 2 8 b = !b from by decide,show ∀ b,useB 2 16 b = !b from by decide,show ∀ b,useB 2 32 b = !b from by decide,show ∀ b,useB 2 64 b = !b from by decide]
 simp[and_assoc]
theorem only_uses5 (c:Cm) (hv:c.verb=5):usesC c 2=decide (c=onlyC c):=by
 obtain⟨v,nm,x,sz,fr,co,cd,t⟩:=c
 simp only at hv
 subst hv
 unfold usesC onlyC
 simp only[isEd]
 rw[Bool.eq_iff_iff]
 simp only[show ∀ b,useB 2 1 b = !b from by decide,show ∀ b,useB 2 2 b=true from by decide,show ∀ b,useB 2 4 b = !b from by decide,show ∀ b,useB 2 8 b = !b from by decide,show ∀ b,useB 2 16 b = !b from by decide,show ∀ b,useB 2 32 b = !b from by decide,show ∀ b,useB 2 64 b = !b from by decide]
 simp[and_assoc]
theorem only_uses6 (c:Cm) (hv:c.verb=6):usesC c 34=decide (c=onlyC c):=by
 obtain⟨v,nm,x,sz,fr,co,cd,t⟩:=c
 simp only at hv
 subst hv
 unfold usesC onlyC
 simp only[isEd]
 rw[Bool.eq_iff_iff]
 simp only[show ∀ b,useB 34 1 b = !b from by decide,show ∀ b,useB 34 2 b=true from by decide,show ∀ b,useB 34 4 b = !b from by decide,show ∀ b,useB 34 8 b = !b from by decide,show ∀ b,useB 34 16 b = !b from by decide,show ∀ b,useB 34 32 b=true from by decide,show ∀ b,useB 34 64 b = !b from by decide]
 simp[and_assoc]
theorem only_uses7 (c:Cm) (hv:c.verb=7):usesC c 74=decide (c=onlyC c):=by
 obtain⟨v,nm,x,sz,fr,co,cd,t⟩:=c
 simp only at hv
 subst hv
 unfold usesC onlyC
 simp only[isEd]
 rw[Bool.eq_iff_iff]
 simp only[show ∀ b,useB 74 1 b = !b from by decide,show ∀ b,useB 74 2 b=true from by decide,show ∀ b,useB 74 4 b = !b from by decide,show ∀ b,useB 74 8 b=true from by decide,show ∀ b,useB 74 16 b = !b from by decide,show ∀ b,useB 74 32 b = !b from by decide,show ∀ b,useB 74 64 b=true from by decide]
 simp[and_assoc]
theorem only_uses8 (c:Cm) (hv:c.verb=8):usesC c 2=decide (c=onlyC c):=by
 obtain⟨v,nm,x,sz,fr,co,cd,t⟩:=c
 simp only at hv
 subst hv
 unfold usesC onlyC
 simp only[isEd]
 rw[Bool.eq_iff_iff]
 simp only[show ∀ b,useB 2 1 b = !b from by decide,show ∀ b,useB 2 2 b=true from by decide,show ∀ b,useB 2 4 b = !b from by decide,show ∀ b,useB 2 8 b = !b from by decide,show ∀ b,useB 2 16 b = !b from by decide,show ∀ b,useB 2 32 b = !b from by decide,show ∀ b,useB 2 64 b = !b from by decide]
 simp[and_assoc]
theorem only_uses9 (c:Cm) (hv:c.verb=9):usesC c 2=decide (c=onlyC c):=by
 obtain⟨v,nm,x,sz,fr,co,cd,t⟩:=c
 simp only at hv
 subst hv
 unfold usesC onlyC
 simp only[isEd]
 rw[Bool.eq_iff_iff]
 simp only[show ∀ b,useB 2 1 b = !b from by decide,show ∀ b,useB 2 2 b=true from by decide,show ∀ b,useB 2 4 b = !b from by decide,show ∀ b,useB 2 8 b = !b from by decide,show ∀ b,useB 2 16 b = !b from by decide,show ∀ b,useB 2 32 b = !b from by decide,show ∀ b,useB 2 64 b = !b from by decide]
 simp[and_assoc]
theorem only_uses10 (c:Cm) (hv:c.verb=10):usesC c 64=decide (c=onlyC c):=by
 obtain⟨v,nm,x,sz,fr,co,cd,t⟩:=c
 simp only at hv
 subst hv
 unfold usesC onlyC
 simp only[isEd]
 rw[Bool.eq_iff_iff]
 simp only[show ∀ b,useB 64 1 b = !b from by decide,show ∀ b,useB 64 2 b = !b from by decide,show ∀ b,useB 64 4 b = !b from by decide,show ∀ b,useB 64 8 b = !b from by decide,show ∀ b,useB 64 16 b = !b from by decide,show ∀ b,useB 64 32 b = !b from by decide,show ∀ b,useB 64 64 b=true from by decide]
 simp[and_assoc]
theorem only_uses11 (c:Cm) (hv:c.verb=11):usesC c 0=decide (c=onlyC c):=by
 obtain⟨v,nm,x,sz,fr,co,cd,t⟩:=c
 simp only at hv
 subst hv
 unfold usesC onlyC
 simp only[isEd]
 rw[Bool.eq_iff_iff]
 simp only[show ∀ b,useB 0 1 b = !b from by decide,show ∀ b,useB 0 2 b = !b from by decide,show ∀ b,useB 0 4 b = !b from by decide,show ∀ b,useB 0 8 b = !b from by decide,show ∀ b,useB 0 16 b = !b from by decide,show ∀ b,useB 0 32 b = !b from by decide,show ∀ b,useB 0 64 b = !b from by decide]
 simp[and_assoc]
theorem only_uses (c:Cm) (h1:1≤c.verb) (h2:c.verb≤11):usesC c (formC c).2.1=decide (c=onlyC c):=by
 have h:c.verb=1∨c.verb=2∨c.verb=3∨c.verb=4∨c.verb=5∨c.verb=6∨c.verb=7∨c.verb=8∨c.verb=9∨c.verb=10∨c.verb=11:=by omega
 rcases h with h|h|h|h|h|h|h|h|h|h|h
 ·rw[show (formC c).2.1=17 by unfold formC;rw[h];rfl];exact only_uses1 c h
 ·rw[show (formC c).2.1=6 by unfold formC;rw[h];rfl];exact only_uses2 c h
 ·rw[show (formC c).2.1=10 by unfold formC;rw[h];rfl];exact only_uses3 c h
 ·rw[show (formC c).2.1=2 by unfold formC;rw[h];rfl];exact only_uses4 c h
 ·rw[show (formC c).2.1=2 by unfold formC;rw[h];rfl];exact only_uses5 c h
 ·rw[show (formC c).2.1=34 by unfold formC;rw[h];rfl];exact only_uses6 c h
 ·rw[show (formC c).2.1=74 by unfold formC;rw[h];rfl];exact only_uses7 c h
 ·rw[show (formC c).2.1=2 by unfold formC;rw[h];rfl];exact only_uses8 c h
 ·rw[show (formC c).2.1=2 by unfold formC;rw[h];rfl];exact only_uses9 c h
 ·rw[show (formC c).2.1=64 by unfold formC;rw[h];rfl];exact only_uses10 c h
 ·rw[show (formC c).2.1=0 by unfold formC;rw[h];rfl];exact only_uses11 c h
def chkR (c:Cm) (fl most:Int):Int :=
 if bits BinOp.and .i64 fl 1 != 0 && !siteB (bl c.name) then 12
 else if bits BinOp.and .i64 fl 2 != 0 && decide (c.id=zI) then 1
 else if (rgs c).all (okR fl)=false then 2
 else if bits BinOp.and .i64 fl 64==0 then 0
 else if c.text.toList.isEmpty then 1
 else if most<c.text.size then 5
 else if crL c.text then 6 else 0
theorem form_flags (c:Cm) (h1:1≤c.verb) (h2:c.verb≤11):(formC c).2.1∈flagsL:=by
 obtain⟨k,hk⟩:∃ k:Nat,c.verb=(k:Int):=⟨c.verb.toNat,by omega⟩
 have hk12:k<formsL.length:=by show k<12;omega
 have hfc:formC c=formsL[k]:=by unfold formC;rw[hk,Int.toNat_natCast,List.getElem?_eq_getElem hk12];rfl
 have h3:formsL.all (fun x=>flagsL.contains x.2.1)=true:=by decide
 have h4:=List.all_eq_true.1 h3 _ (List.getElem_mem hk12)
 rw[hfc]
 simpa using h4
theorem chk_only (c:Cm) (h1:1≤c.verb) (h2:c.verb≤11):chk c=if c=onlyC c then chkR c (formC c).2.1 (formC c).2.2 else 3:=by
 have e:chk c=chkF c (formC c).2.1 (formC c).2.2:=by unfold chk;rw[if_neg (by omega)];rfl
 have hu:(bits BinOp.andNot .i64 (orL (psC c)) (formC c).2.1 != 0) = !decide (c=onlyC c):=by
  rw[← only_uses c h1 h2]
  exact extra_eq _ (form_flags c h1 h2) _ _ _ _ _ _ _
 rw[e]
 unfold chkF
 rw[hu]
 by_cases h:c=onlyC c
 ·rw[if_pos h,if_neg (by rw[decide_eq_true h];decide)]
  rfl
 ·rw[if_neg h,if_pos (by rw[decide_eq_false h];rfl)]
theorem hasB_cr (s:ByteArray):hasB s 13=crL s:=by
 unfold hasB crL
 exact (index_any 13 (bl s)).symm
theorem chk_v1 (c:Cm) (hv:c.verb=1) (ho:c=onlyC c):chk c=if siteB (bl c.name)=false then 12 else if c.count<1∨1000<c.count then 2 else 0:=by
 rw[chk_only c (by omega) (by omega),if_pos ho,show (formC c).2.1=17 by (unfold formC;rw[hv];rfl),show (formC c).2.2=0 by (unfold formC;rw[hv];rfl)]
 unfold chkR rgs
 simp only[List.all_cons,List.all_nil,okR,isEd,← hasB_cr,show bits BinOp.and .i64 17 1=1 from by decide,show bits BinOp.and .i64 17 2=0 from by decide,show bits BinOp.and .i64 17 4=0 from by decide,show bits BinOp.and .i64 17 8=0 from by decide,show bits BinOp.and .i64 17 16=16 from by decide,show bits BinOp.and .i64 17 32=0 from by decide,show bits BinOp.and .i64 17 64=0 from by decide]
 simp only[show ((0:Int) != 0)=false from rfl,show ((0:Int)==0)=true from rfl,show ((1:Int) != 0)=true from by decide,show ((16:Int)==0)=false from by decide,Bool.true_and,Bool.false_and,Bool.true_or,Bool.false_or,Bool.and_true,Bool.false_eq_true,if_false,if_true,Bool.not_eq_true',Bool.and_eq_false_iff,decide_eq_true_eq,decide_eq_false_iff_not,Int.not_le]
 repeat' split
 all_goals first|rfl|omega|(simp_all;done)|(simp_all;omega)
theorem chk_v2 (c:Cm) (hv:c.verb=2) (ho:c=onlyC c):chk c=if c.id=zI then 1 else if c.size<1∨65536<c.size then 2 else 0:=by
 rw[chk_only c (by omega) (by omega),if_pos ho,show (formC c).2.1=6 by (unfold formC;rw[hv];rfl),show (formC c).2.2=0 by (unfold formC;rw[hv];rfl)]
 unfold chkR rgs
 simp only[List.all_cons,List.all_nil,okR,isEd,← hasB_cr,show bits BinOp.and .i64 6 1=0 from by decide,show bits BinOp.and .i64 6 2=2 from by decide,show bits BinOp.and .i64 6 4=4 from by decide,show bits BinOp.and .i64 6 8=0 from by decide,show bits BinOp.and .i64 6 16=0 from by decide,show bits BinOp.and .i64 6 32=0 from by decide,show bits BinOp.and .i64 6 64=0 from by decide]
 simp only[show ((0:Int) != 0)=false from rfl,show ((0:Int)==0)=true from rfl,show ((2:Int) != 0)=true from by decide,show ((4:Int)==0)=false from by decide,Bool.true_and,Bool.false_and,Bool.true_or,Bool.false_or,Bool.and_true,Bool.false_eq_true,if_false,if_true,Bool.and_eq_false_iff,decide_eq_true_eq,decide_eq_false_iff_not,Int.not_le]
 repeat' split
 all_goals first|rfl|omega|(simp_all;done)|(simp_all;omega)
theorem chk_v3 (c:Cm) (hv:c.verb=3) (ho:c=onlyC c):chk c=if c.id=zI then 1 else if c.from_<0∨65536<c.from_ then 2 else 0:=by
 rw[chk_only c (by omega) (by omega),if_pos ho,show (formC c).2.1=10 by (unfold formC;rw[hv];rfl),show (formC c).2.2=0 by (unfold formC;rw[hv];rfl)]
 unfold chkR rgs
 simp only[List.all_cons,List.all_nil,okR,isEd,← hasB_cr,show bits BinOp.and .i64 10 1=0 from by decide,show bits BinOp.and .i64 10 2=2 from by decide,show bits BinOp.and .i64 10 4=0 from by decide,show bits BinOp.and .i64 10 8=8 from by decide,show bits BinOp.and .i64 10 16=0 from by decide,show bits BinOp.and .i64 10 32=0 from by decide,show bits BinOp.and .i64 10 64=0 from by decide]
 simp only[show ((0:Int) != 0)=false from rfl,show ((0:Int)==0)=true from rfl,show ((2:Int) != 0)=true from by decide,show ((8:Int)==0)=false from by decide,Bool.true_and,Bool.false_and,Bool.true_or,Bool.false_or,Bool.and_true,Bool.false_eq_true,if_false,if_true,Bool.and_eq_false_iff,decide_eq_true_eq,decide_eq_false_iff_not,Int.not_le]
 repeat' split
 all_goals first|rfl|omega|(simp_all;done)|(simp_all;omega)
theorem chk_v4 (c:Cm) (hv:c.verb=4) (ho:c=onlyC c):chk c=if c.id=zI then 1 else 0:=by
 rw[chk_only c (by omega) (by omega),if_pos ho,show (formC c).2.1=2 by (unfold formC;rw[hv];rfl),show (formC c).2.2=0 by (unfold formC;rw[hv];rfl)]
 unfold chkR rgs
 simp only[List.all_cons,List.all_nil,okR,isEd,← hasB_cr,show bits BinOp.and .i64 2 1=0 from by decide,show bits BinOp.and .i64 2 2=2 from by decide,show bits BinOp.and .i64 2 4=0 from by decide,show bits BinOp.and .i64 2 8=0 from by decide,show bits BinOp.and .i64 2 16=0 from by decide,show bits BinOp.and .i64 2 32=0 from by decide,show bits BinOp.and .i64 2 64=0 from by decide]
 simp only[show ((0:Int) != 0)=false from rfl,show ((0:Int)==0)=true from rfl,show ((2:Int) != 0)=true from by decide,Bool.true_and,Bool.false_and,Bool.true_or,Bool.and_true,Bool.true_eq_false,Bool.false_eq_true,if_false,if_true,decide_eq_true_eq]
 repeat' split
 all_goals first|rfl|omega|(simp_all;done)|(simp_all;omega)
theorem chk_v5 (c:Cm) (hv:c.verb=5) (ho:c=onlyC c):chk c=if c.id=zI then 1 else 0:=by
 rw[chk_only c (by omega) (by omega),if_pos ho,show (formC c).2.1=2 by (unfold formC;rw[hv];rfl),show (formC c).2.2=0 by (unfold formC;rw[hv];rfl)]
 unfold chkR rgs
 simp only[List.all_cons,List.all_nil,okR,isEd,← hasB_cr,show bits BinOp.and .i64 2 1=0 from by decide,show bits BinOp.and .i64 2 2=2 from by decide,show bits BinOp.and .i64 2 4=0 from by decide,show bits BinOp.and .i64 2 8=0 from by decide,show bits BinOp.and .i64 2 16=0 from by decide,show bits BinOp.and .i64 2 32=0 from by decide,show bits BinOp.and .i64 2 64=0 from by decide]
 simp only[show ((0:Int) != 0)=false from rfl,show ((0:Int)==0)=true from rfl,show ((2:Int) != 0)=true from by decide,Bool.true_and,Bool.false_and,Bool.true_or,Bool.and_true,Bool.true_eq_false,Bool.false_eq_true,if_false,if_true,decide_eq_true_eq]
 repeat' split
 all_goals first|rfl|omega|(simp_all;done)|(simp_all;omega)
theorem chk_v6 (c:Cm) (hv:c.verb=6) (ho:c=onlyC c):chk c=if c.id=zI then 1 else if c.code<1∨99<c.code then 2 else 0:=by
 rw[chk_only c (by omega) (by omega),if_pos ho,show (formC c).2.1=34 by (unfold formC;rw[hv];rfl),show (formC c).2.2=0 by (unfold formC;rw[hv];rfl)]
 unfold chkR rgs
 simp only[List.all_cons,List.all_nil,okR,isEd,← hasB_cr,show bits BinOp.and .i64 34 1=0 from by decide,show bits BinOp.and .i64 34 2=2 from by decide,show bits BinOp.and .i64 34 4=0 from by decide,show bits BinOp.and .i64 34 8=0 from by decide,show bits BinOp.and .i64 34 16=0 from by decide,show bits BinOp.and .i64 34 32=32 from by decide,show bits BinOp.and .i64 34 64=0 from by decide]
 simp only[show ((0:Int) != 0)=false from rfl,show ((0:Int)==0)=true from rfl,show ((2:Int) != 0)=true from by decide,show ((32:Int)==0)=false from by decide,Bool.true_and,Bool.false_and,Bool.true_or,Bool.false_or,Bool.and_true,Bool.false_eq_true,if_false,if_true,Bool.and_eq_false_iff,decide_eq_true_eq,decide_eq_false_iff_not,Int.not_le]
 repeat' split
 all_goals first|rfl|omega|(simp_all;done)|(simp_all;omega)
theorem chk_v7 (c:Cm) (hv:c.verb=7) (ho:c=onlyC c):chk c=if c.id=zI then 1 else if c.from_<0∨65536<c.from_ then 2 else if c.text=⟨#[]⟩ then 1 else if 4096<c.text.size then 5 else if hasB c.text 13=true then 6 else 0:=by
 rw[chk_only c (by omega) (by omega),if_pos ho,show (formC c).2.1=74 by (unfold formC;rw[hv];rfl),show (formC c).2.2=4096 by (unfold formC;rw[hv];rfl)]
 unfold chkR rgs
 simp only[List.all_cons,List.all_nil,okR,isEd,← hasB_cr,show bits BinOp.and .i64 74 1=0 from by decide,show bits BinOp.and .i64 74 2=2 from by decide,show bits BinOp.and .i64 74 4=0 from by decide,show bits BinOp.and .i64 74 8=8 from by decide,show bits BinOp.and .i64 74 16=0 from by decide,show bits BinOp.and .i64 74 32=0 from by decide,show bits BinOp.and .i64 74 64=64 from by decide]
 simp only[show ((0:Int) != 0)=false from rfl,show ((0:Int)==0)=true from rfl,show ((2:Int) != 0)=true from by decide,show ((8:Int)==0)=false from by decide,show ((64:Int)==0)=false from by decide,Bool.true_and,Bool.false_and,Bool.true_or,Bool.false_or,Bool.and_true,Bool.false_eq_true,if_false,Bool.and_eq_false_iff,decide_eq_true_eq,decide_eq_false_iff_not,Int.not_le]
 repeat' split
 all_goals first|rfl|omega|(simp_all;done)|(simp_all;omega)
theorem chk_v8 (c:Cm) (hv:c.verb=8) (ho:c=onlyC c):chk c=if c.id=zI then 1 else 0:=by
 rw[chk_only c (by omega) (by omega),if_pos ho,show (formC c).2.1=2 by (unfold formC;rw[hv];rfl),show (formC c).2.2=0 by (unfold formC;rw[hv];rfl)]
 unfold chkR rgs
 simp only[List.all_cons,List.all_nil,okR,isEd,← hasB_cr,show bits BinOp.and .i64 2 1=0 from by decide,show bits BinOp.and .i64 2 2=2 from by decide,show bits BinOp.and .i64 2 4=0 from by decide,show bits BinOp.and .i64 2 8=0 from by decide,show bits BinOp.and .i64 2 16=0 from by decide,show bits BinOp.and .i64 2 32=0 from by decide,show bits BinOp.and .i64 2 64=0 from by decide]
 simp only[show ((0:Int) != 0)=false from rfl,show ((0:Int)==0)=true from rfl,show ((2:Int) != 0)=true from by decide,Bool.true_and,Bool.false_and,Bool.true_or,Bool.and_true,Bool.true_eq_false,Bool.false_eq_true,if_false,if_true,decide_eq_true_eq]
 repeat' split
 all_goals first|rfl|omega|(simp_all;done)|(simp_all;omega)
theorem chk_v9 (c:Cm) (hv:c.verb=9) (ho:c=onlyC c):chk c=if c.id=zI then 1 else 0:=by
 rw[chk_only c (by omega) (by omega),if_pos ho,show (formC c).2.1=2 by (unfold formC;rw[hv];rfl),show (formC c).2.2=0 by (unfold formC;rw[hv];rfl)]
 unfold chkR rgs
 simp only[List.all_cons,List.all_nil,okR,isEd,← hasB_cr,show bits BinOp.and .i64 2 1=0 from by decide,show bits BinOp.and .i64 2 2=2 from by decide,show bits BinOp.and .i64 2 4=0 from by decide,show bits BinOp.and .i64 2 8=0 from by decide,show bits BinOp.and .i64 2 16=0 from by decide,show bits BinOp.and .i64 2 32=0 from by decide,show bits BinOp.and .i64 2 64=0 from by decide]
 simp only[show ((0:Int) != 0)=false from rfl,show ((0:Int)==0)=true from rfl,show ((2:Int) != 0)=true from by decide,Bool.true_and,Bool.false_and,Bool.true_or,Bool.and_true,Bool.true_eq_false,Bool.false_eq_true,if_false,if_true,decide_eq_true_eq]
 repeat' split
 all_goals first|rfl|omega|(simp_all;done)|(simp_all;omega)
theorem chk_v10 (c:Cm) (hv:c.verb=10) (ho:c=onlyC c):chk c=if c.text=⟨#[]⟩ then 1 else if 262144<c.text.size then 5 else if hasB c.text 13=true then 6 else 0:=by
 rw[chk_only c (by omega) (by omega),if_pos ho,show (formC c).2.1=64 by (unfold formC;rw[hv];rfl),show (formC c).2.2=262144 by (unfold formC;rw[hv];rfl)]
 unfold chkR rgs
 simp only[List.all_cons,List.all_nil,okR,isEd,← hasB_cr,show bits BinOp.and .i64 64 1=0 from by decide,show bits BinOp.and .i64 64 2=0 from by decide,show bits BinOp.and .i64 64 4=0 from by decide,show bits BinOp.and .i64 64 8=0 from by decide,show bits BinOp.and .i64 64 16=0 from by decide,show bits BinOp.and .i64 64 32=0 from by decide,show bits BinOp.and .i64 64 64=64 from by decide]
 simp only[show ((0:Int) != 0)=false from rfl,show ((0:Int)==0)=true from rfl,show ((64:Int)==0)=false from by decide,Bool.false_and,Bool.true_or,Bool.and_true,Bool.true_eq_false,Bool.false_eq_true,if_false,decide_eq_true_eq]
 repeat' split
 all_goals first|rfl|omega|(simp_all;done)|(simp_all;omega)
theorem chk_v11 (c:Cm) (hv:c.verb=11) (ho:c=onlyC c):chk c=0:=by
 rw[chk_only c (by omega) (by omega),if_pos ho,show (formC c).2.1=0 by (unfold formC;rw[hv];rfl),show (formC c).2.2=0 by (unfold formC;rw[hv];rfl)]
 unfold chkR rgs
 simp only[List.all_cons,List.all_nil,okR,isEd,← hasB_cr,show bits BinOp.and .i64 0 1=0 from by decide,show bits BinOp.and .i64 0 2=0 from by decide,show bits BinOp.and .i64 0 4=0 from by decide,show bits BinOp.and .i64 0 8=0 from by decide,show bits BinOp.and .i64 0 16=0 from by decide,show bits BinOp.and .i64 0 32=0 from by decide,show bits BinOp.and .i64 0 64=0 from by decide]
 simp only[show ((0:Int) != 0)=false from rfl,show ((0:Int)==0)=true from rfl,Bool.false_and,Bool.true_or,Bool.and_true,Bool.true_eq_false,Bool.false_eq_true,if_false,if_true,decide_eq_true_eq]
 repeat' split
 all_goals first|rfl|omega|(simp_all;done)|(simp_all;omega)
end
end Go.Proofs.YtgojaelkdpabkaaGreatDoor
