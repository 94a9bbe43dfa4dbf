/- Taker's Drop. One field of an active part stored; what the other functions read of a taker. How many bytes are kept of an article; the article that is being received. -/
import Derived.Test.YtgojaelkdpabkaaGreatDoorMKeep
namespace Go.Proofs.YtgojaelkdpabkaaGreatDoor
section
open Go.RowKit
def dropT (s:Tk):Tk×Int:=if s.opn=true then (⟨s.win,false,[],s.act.foldl keepP s.kept⟩,0) else (s,10)
theorem fold_len (xs:List Pt):∀ l:List Pt,l.length≤8→(xs.foldl keepP l).length≤8:=by
 induction xs with
 | nil=>intro l h;exact h
 | cons x r ih=>intro l h;exact ih _ (keepP_len l x h)
theorem fold_snoc (xs:List Pt) (j:Nat) (hj:j<xs.length) (l:List Pt):(xs.take (j+1)).foldl keepP l=keepP ((xs.take j).foldl keepP l) xs[j]:=by
 rw[List.take_succ_eq_append_getElem hj,List.foldl_append]
 rfl
theorem KpP.under {b:Nat} {s':Tk} {F F':List Nat} {va:SlV} {w w1 w2 w3:World} (h:Kp F F' w w1) (hb:Below w1.heap.size w1 w2) (hp:KpP b s' F' va w2 w3):KpP b s' F va w w3:=by
 obtain⟨F4,vk4,h1,h2⟩:=hp
 exact⟨F4,vk4,h1,(h.trans (Kp.of_below hb)).trans h2⟩
set_option maxRecDepth 100000 in
set_option maxHeartbeats 3200000 in
theorem drop18 (b:Nat) (s:Tk) (F:List Nat) (w:World) (h:TkAt b s F w) (hk8:s.kept.length≤8) (ha:s.act.length≤100):Calls Tryz.prog 18 #[.pointer (some ⟨b,0,none⟩)] w fun e w'=>e=.returned (.int .i64 (dropT s).2)∧∃ F',TkAt b (dropT s).1 F' w'∧Kp F F' w w':=by
 obtain⟨va,vk,h⟩:=h
 have c1:=h.c1
 have c2:=h.c2
 rw[h.la] at c2
 have HR:=Lib.hid h
 clear h
 cases ho:s.opn with
 | false =>
  rw[ho] at c1
  have HO:=Lib.hid ho
  clear ho
  have e:dropT s=(s,10):=by unfold dropT;rw[if_neg (by rw[HO.out];decide)]
  rw[e]
  go_enter Tryz.func18,Tryz.ntmps18
  go_wp2
  go_ret
  exact⟨rfl,F,⟨va,vk,HR.out⟩,Kp.refl _ _⟩
 | true =>
  rw[ho] at c1
  have HO:=Lib.hid ho
  clear ho
  have e:dropT s=(⟨s.win,false,[],s.act.foldl keepP s.kept⟩,0):=by unfold dropT;rw[if_pos HO.out]
  rw[e]
  clear e
  go_enter Tryz.func18,Tryz.ntmps18
  go_wp2
  go_loopw [19] (fun i wr=>∃ (j:Nat),i=.int .i64 j∧j≤s.act.length∧KpP b { s with kept:=(s.act.take j).foldl keepP s.kept } F va w wr) (fun i _=>s.act.length+1 - (intOf i).toNat)
  case atStart=>exact⟨0,rfl,Nat.zero_le _,F,vk,HR.out,Kp.refl _ _⟩
  case round =>
   obtain⟨j,rfl,hj,hKP⟩:=hrel
   obtain⟨F',vk',hT,hKp⟩:=hKP
   by_cases hlt:j<s.act.length
   ·have hlt1:(j:Int)<(s.act.length:Int):=by omega
    have hsl:Sl wr cA va.1 s.act:=Own.slOf hT.oa
    obtain⟨ad,hae,ok1,rd1, -⟩:=Sl.pt hsl hlt
    obtain⟨p,hp⟩:∃ p,s.act[j]=p:=⟨_,rfl⟩
    rw[hp] at rd1
    have HP:=Lib.hid hp
    have HT:=Lib.hid (And.intro hT hKp)
    obtain⟨W3,hW3⟩:∃ W3,wr.alloc (.cells (aA p) 86)=W3:=⟨_,rfl⟩
    obtain⟨g3,hg3⟩:∃ g3,wr.heap.size=g3:=⟨_,rfl⟩
    have H3:=Lib.hid (And.intro (show Row W3 g3 (cA p) 86 by rw[← hW3,← hg3];exact Row.new wr (cA p) _) (show Below wr.heap.size wr W3 by rw[← hW3];exact below_alloc _ _))
    have r3:=(Row.okw H3.out.1 (cA_length p)).1
    have r4:rdA W3 ⟨g3,0,none⟩ 35=vA p:=(Row.okw H3.out.1 (cA_length p)).2
    clear hsl hp hT hKp
    go_wp2_with (go_at_call 43;refine (keep43 b _ F' va vk' p W3 (HT.out.1.keep H3.out.2) (fold_len _ _ hk8)).mono ?_;rintro e w4 ⟨rfl,hKP4⟩;have H4:=Lib.hid (KpP.under HT.out.2 (H3.out.2) hKP4);clear hKP4)
    go_roundw
    case rel=>exact⟨_,.int .i64 ((j:Int)+1),_,_,_,_,_,_,_,⟨j+1,by go_num,hlt,by rw[fold_snoc _ _ hlt,HP.out];exact H4.out⟩,by rw[hae]⟩
    case measure=>simp[intOf] <;> omega
   ·have hlt1:¬ (j:Int)<(s.act.length:Int):=by omega
    obtain rfl:j=s.act.length:=by omega
    rw[List.take_length] at hT
    have f1:=hT.row.fz 1
    have f2:=hT.row.fz 2
    have k1:=hT.c1
    have k2:=hT.c2
    have HT:=Lib.hid (And.intro (hT.setO false) hKp)
    clear hT hKp
    go_wp2
    go_ret
    have ha:=(HT.out.1.1).setA (va':=(none,0,0)) (l':=[]) (World.grownBy.refl _ _) (Own.nil _ _ _ _ _) (fun ad e=>by cases e)
    exact⟨rfl,_,⟨_,_,ha.1⟩,(HT.out.2.trans HT.out.1.2).trans ha.2⟩
end
section
open Go.RowKit
section
variable {α : Type} {w : World} {base : Nat} {e : TypeId} {s : Nat} {enc : α → List Value} {xs : List α}
theorem flatMap_setF (hs:∀ x,(enc x).length=s) (x:α) (k:Nat) (hk:k<s) (v:Value):∀ (xs:List α) (i:Nat) (hi:i<xs.length),(enc xs[i]).set k v=enc x→(xs.flatMap enc).set (i * s+k) v=(xs.set i x).flatMap enc
 | [],i,h,_=>absurd h (Nat.not_lt_zero _)
 | y :: r,0,_,hx=>by
  have hy:=hs y
  have hx':(enc y).set k v=enc x:=hx
  rw[List.flatMap_cons,List.set_cons_zero,List.flatMap_cons,Nat.zero_mul,Nat.zero_add,List.set_append_left _ _ (by rw[hy];exact hk),hx']
 | y :: r,i+1,h,hx=>by
  have hy:=hs y
  have ih:=flatMap_setF hs x k hk v r i (by simpa using h) (by simpa using hx)
  rw[List.set_cons_succ,List.flatMap_cons,List.flatMap_cons,← ih,List.set_append_right _ _ (by rw[hy,Nat.succ_mul];omega),hy]
  congr 2
  rw[Nat.succ_mul]
  omega
theorem Own.setF (hs:∀ x,(enc x).length=s) {g n c:Nat} (h:Own w base e s enc (.slice (some ⟨g,0,none⟩) n c) xs) (i:Nat) (hi:i<xs.length) (k:Nat) (hk:k<s) (v:Value) (x:α) (hx:(enc xs[i]).set k v=enc x) :
  w.frozen? ⟨g,i * s+k,none⟩=false∧Own (w.setCell ⟨g,i * s+k,none⟩ v) base e s enc (.slice (some ⟨g,0,none⟩) n c) (xs.set i x):=by
 rcases h.rowOf with⟨h1,rfl⟩|⟨g2,c2,cs,h1,hb,hr,hc,hm,hl,ht⟩
 ·simp at hi
 ·cases h1
  refine⟨hr.fz _,?_⟩
  have hlen:(xs.set i x).length=xs.length:=List.length_set
  have:=Own.ofRow (xs:=xs.set i x) hs hb (hr.set (i * s+k) v) (by rw[hlen];exact hc) hm (by rw[List.length_set];exact hl) (by
   rw[hlen,List.take_set,ht]
   exact flatMap_setF hs x k hk v xs i hi hx)
  rwa[hlen] at this
end
section
variable {b : Nat} {s : Tk} {F : List Nat} {va vk : SlV} {w w' : World}
theorem Own.ad0 {e:TypeId} {enc:Pt→List Value} {A:Option Addr} {n c:Nat} {xs:List Pt} (h:Own w 0 e 35 enc (.slice A n c) xs) (hx:xs≠[]):∃ g,A=some ⟨g,0,none⟩:=by
 rcases h.rowOf with⟨_,rfl⟩|⟨g2,c2,cs,h1,_⟩
 ·exact absurd rfl hx
 ·cases h1
  exact⟨g2,rfl⟩
theorem TkR.setF (h:TkR b s F va vk w) {g:Nat} (hg:va.1=some ⟨g,0,none⟩) (i:Nat) (hi:i<s.act.length) (k:Nat) (hk:k<35) (v:Value) (p:Pt) (hp:(cA s.act[i]).set k v=cA p) :
  w.frozen? ⟨g,i * 35+k,none⟩=false∧TkR b { s with act:=s.act.set i p } F va vk (w.setCell ⟨g,i * 35+k,none⟩ v)∧Kp F F w (w.setCell ⟨g,i * 35+k,none⟩ v):=by
 obtain⟨A,n,c⟩:=va
 obtain rfl:A=some ⟨g,0,none⟩:=hg
 have hF:=h.aF _ rfl
 have h1:=Own.setF cA_length h.oa i hi k hk v p hp
 have ho:One g w (w.setCell ⟨g,i * 35+k,none⟩ v):=One.set _ _
 refine⟨h1.1,⟨?_,h1.2,?_,h.bF,h.aF,h.kF⟩,Kp.one ho hF.1⟩
 ·exact h.row.same (heap_set_other w g _ v b (fun e=>hF.2.1 e.symm))
 ·exact h.ok.same fun q e=>heap_set_other w g _ v q (fun e2=>by
   obtain⟨ad,e1,e3⟩:=blk_of e
   exact hF.2.2 ad e1 (e3.trans e2))
end
def gotL (l:List Pt) (x:Id):Int:=match posL l x with|some k=>((l[k]?.getD zA).bytes.size:Int)|none=>0
theorem got_some {l:List Pt} {x:Id} {k:Nat} (h:posL l x=some k) (hk:k<l.length):gotL l x=(l[k].bytes.size:Int):=by
 unfold gotL
 rw[h]
 show (((l[k]?).getD zA).bytes.size:Int)=_
 rw[List.getElem?_eq_getElem hk]
 rfl
theorem got_none {l:List Pt} {x:Id} (h:posL l x=none):gotL l x=0:=by unfold gotL;rw[h]
theorem TkAt.kp {b:Nat} {s:Tk} {F F':List Nat} {w w':World} (h:TkAt b s F w) (_hk:Kp F F' w w') (hs:∀ k∈F,w'.heap[k]? = w.heap[k]?):TkAt b s F w':=by
 obtain⟨va,vk,h⟩:=h
 exact⟨va,vk,h.same hs⟩
end
section
open Go.RowKit

set_option maxRecDepth 100000 in
set_option maxHeartbeats 3200000 in
theorem keptBytes41 (b:Nat) (s:Tk) (F:List Nat) (va vk:SlV) (x:Id) (w:World) (h:TkR b s F va vk w) (hn:s.kept.length≤1000000) :
  Calls Tryz.prog 41 #[.pointer (some ⟨b,0,none⟩),vI x] w fun e w'=>e=.returned (.int .i64 (gotL s.kept x))∧Below w.heap.size w w':=by
 obtain⟨g,hg⟩:∃ g,w.heap.size=g:=⟨_,rfl⟩
 obtain⟨W1,hW1⟩:∃ W1,w.alloc (.cells (aI x) 30)=W1:=⟨_,rfl⟩
 have hb1:Below w.heap.size w W1:=by rw[← hW1];exact below_alloc _ _
 have H1:=Lib.hid (And.intro (show Row W1 g (cI x) 30 by rw[← hW1,← hg];exact Row.new w (cI x) _) (And.intro (h.keep hb1) hb1))
 clear hb1 h
 obtain⟨i,hi⟩:∃ i,idxL s.kept x=i:=⟨_,rfl⟩
 have HI:=Lib.hid hi
 clear hi
 go_enter Tryz.func41,Tryz.ntmps41
 go_wp2


 refine AnyO.wp_anyI (by kernel_rfl) (by kernel_rfl) (AnyO.InvG (σ:=Unit) (fun σ=>AnyO.pvL [some (.pointer (some ⟨b,0,none⟩)),some (.pointer (some ⟨b,0,none⟩)),some (.pointer (some ⟨b,3,none⟩)),some (.slice vk.1 s.kept.length vk.2.2),some (vI x),some (.int .i64 i),some (.int .i64 i)]) (fun _ _ u=>Below W1.heap.size W1 u)) (AnyO.InvG.start (g:=()) (below_drew _)) ?_ ?_
 ·intro i hi
  have hi2:i=4∨i=5∨i=0∨i=1∨i=2∨i=3∨i=6:=by simp only[List.size_toArray,List.length_cons,List.length_nil] at hi;omega
  clear hi
  rcases hi2 with rfl|rfl|rfl|rfl|rfl|rfl|rfl
  ·refine AnyO.I rfl [] ?_;rintro D vs u σ Q h0 hC hp ac hb K hK
   have s3:=AnyO.sz (v:=.pointer (some ⟨g,0,none⟩)) 3 hb
   have q:=Row.okw (H1.out.1.keep Q.out.2) (cI_length x)
   have rr1:=q.1
   have rr2:rdA u ⟨g,0,none⟩ 32=vI x:=q.2
   clear q
   go_simp;exact hK _ _ (AnyO.InvG.step (g:=σ) Q.out.1 rfl Q.out.2)
  ·refine AnyO.I rfl [3,4] ?_;rintro D vs u σ Q h0 hC hp ac hb K hK
   have s9:_=_:=AnyO.sv 9 3 hb hp Q
   have s10:_=_:=AnyO.sv 10 4 hb hp Q
   go_simp
   go_at_call 40
   refine (find40 vk.1 vk.2.2 s.kept x u (Own.slOf ((H1.out.2.1.keep Q.out.2).ok)) hn).mono ?_
   rintro e w2 ⟨rfl,hcb⟩
   rw[HI.out]
   exact hK _ _ (AnyO.InvG.step (g:=σ) Q.out.1 rfl (Below.step Q.out.2 hcb))
  all_goals
   refine AnyO.J rfl ?_;rintro D vs u σ Q h0 hC hp ac hb K hK
   try have s0:ac.tmps[0]?.getD undef=.pointer (some ⟨b,0,none⟩):=by rw[hb.out];kernel_rfl
   try have s6:_=_:=AnyO.sv 6 0 hb hp Q
   try have s7:_=_:=AnyO.sv 7 1 hb hp Q
   try have s8:_=_:=AnyO.sv 8 2 hb hp Q
   try have s11:_=_:=AnyO.sv 11 5 hb hp Q
   have rr:=(H1.out.2.1.keep Q.out.2).c3
   rw[(H1.out.2.1).lk] at rr
   go_simp
   exact hK _ _ (AnyO.InvG.step (g:=σ) Q.out.1 rfl Q.out.2)
 ·intro D vs u hI hD
  obtain⟨σ,hP,hW⟩:=hI
  have e0:_=_:=hP 0 (hD 0 (by decide))
  have e1:_=_:=hP 1 (hD 1 (by decide))
  have e2:_=_:=hP 2 (hD 2 (by decide))
  have e3:_=_:=hP 3 (hD 3 (by decide))
  have e4:_=_:=hP 4 (hD 4 (by decide))
  have e5:_=_:=hP 5 (hD 5 (by decide))
  have e6:_=_:=hP 6 (hD 6 (by decide))
  have HW:=Lib.hid hW
  clear hW hP hD
  rw[puts_range [some 6,some 7,some 8,some 9,some 10,some 11,some 5] (by kernel_rfl)]
  simp only[putL,Nat.reduceAdd,e0,e1,e2,e3,e4,e5,e6]
  clear e0 e1 e2 e3 e4 e5 e6
  go_simp

  cases hp:posL s.kept x with
  | none =>
   have hii:i=-1:=by rw[← HI.out];exact idx_none hp
   have HG:=Lib.hid (got_none hp)
   subst hii
   clear hp
   go_wp2
   go_ret
   rw[HG.out]
   exact⟨rfl,Below.step H1.out.2.2 HW.out⟩
  | some k =>
   obtain⟨hk, -, -⟩:=pos_some hp
   have hii:i=(k:Int):=by rw[← HI.out];exact idx_some hp
   have HG:=Lib.hid (got_some hp hk)
   subst hii
   clear hp
   have hT:=H1.out.2.1.keep HW.out
   obtain⟨ad,hae, -, -,hat⟩:=Sl.pt (Own.slOf hT.ok) hk
   have rr:=hT.c3
   rw[hT.lk] at rr
   have r34:=hat.f34
   have hk1:(k:Int)<(s.kept.length:Int):=by omega
   clear hT hat
   rw[hae] at rr
   go_wp2
   go_ret
   rw[HG.out]
   exact⟨rfl,Below.step H1.out.2.2 HW.out⟩
def rcvL (l:List Pt) (x:Id):Option Nat:=match posL l x with|some k=>if (l[k]?.getD zA).state=2 then some k else none|none=>none
theorem rcv_some {l:List Pt} {x:Id} {k:Nat} (h:rcvL l x=some k):∃ hk:k<l.length,posL l x=some k∧l[k].state=2:=by
 unfold rcvL at h
 split at h
 ·rename_i j hj
  obtain⟨hk,_,_⟩:=pos_some hj
  rw[List.getElem?_eq_getElem hk] at h
  split at h
  ·rename_i hs
   cases h
   exact⟨hk,hj,hs⟩
  ·cases h
 ·cases h
theorem rcv_none {l:List Pt} {x:Id} (h:posL l x=none):rcvL l x=none:=by unfold rcvL;rw[h]
theorem rcv_yes {l:List Pt} {x:Id} {k:Nat} (h:posL l x=some k) (hk:k<l.length) (hs:l[k].state=2):rcvL l x=some k:=by
 unfold rcvL
 rw[h]
 show (if (l[k]?.getD zA).state=2 then some k else none)=_
 rw[List.getElem?_eq_getElem hk]
 exact if_pos hs
theorem rcv_no {l:List Pt} {x:Id} {k:Nat} (h:posL l x=some k) (hk:k<l.length) (hs:¬ l[k].state=2):rcvL l x=none:=by
 unfold rcvL
 rw[h]
 show (if (l[k]?.getD zA).state=2 then some k else none)=_
 rw[List.getElem?_eq_getElem hk]
 exact if_neg hs
def rcvV (va:SlV) (o:Option Nat):Value:=match o with|some k=>.pointer (va.1.map (·.add (k * 35)))|none=>.pointer none
set_option maxRecDepth 100000 in
set_option maxHeartbeats 3200000 in
theorem receiving63 (b:Nat) (s:Tk) (F:List Nat) (va vk:SlV) (x:Id) (w:World) (h:TkR b s F va vk w) (hn:s.act.length≤1000000) :
  Calls Tryz.prog 63 #[.pointer (some ⟨b,0,none⟩),vI x] w fun e w'=>e=.returned (rcvV va (rcvL s.act x))∧Below w.heap.size w w':=by
 obtain⟨g,hg⟩:∃ g,w.heap.size=g:=⟨_,rfl⟩
 obtain⟨W1,hW1⟩:∃ W1,w.alloc (.cells (aI x) 30)=W1:=⟨_,rfl⟩
 have hb1:Below w.heap.size w W1:=by rw[← hW1];exact below_alloc _ _
 have H1:=Lib.hid (And.intro (show Row W1 g (cI x) 30 by rw[← hW1,← hg];exact Row.new w (cI x) _) (And.intro (h.keep hb1) hb1))
 clear hb1 h
 obtain⟨i,hi⟩:∃ i,idxL s.act x=i:=⟨_,rfl⟩
 have HI:=Lib.hid hi
 clear hi
 go_enter Tryz.func63,Tryz.ntmps63
 go_wp2


 refine AnyO.wp_anyI (by kernel_rfl) (by kernel_rfl) (AnyO.InvG (σ:=Unit) (fun σ=>AnyO.pvL [some (.pointer (some ⟨b,0,none⟩)),some (.pointer (some ⟨b,0,none⟩)),some (.pointer (some ⟨b,2,none⟩)),some (.slice va.1 s.act.length va.2.2),some (vI x),some (.int .i64 i),some (.int .i64 i)]) (fun _ _ u=>Below W1.heap.size W1 u)) (AnyO.InvG.start (g:=()) (below_drew _)) ?_ ?_
 ·intro i hi
  have hi2:i=4∨i=5∨i=0∨i=1∨i=2∨i=3∨i=6:=by simp only[List.size_toArray,List.length_cons,List.length_nil] at hi;omega
  clear hi
  rcases hi2 with rfl|rfl|rfl|rfl|rfl|rfl|rfl
  ·refine AnyO.I rfl [] ?_;rintro D vs u σ Q h0 hC hp ac hb K hK
   have s3:=AnyO.sz (v:=.pointer (some ⟨g,0,none⟩)) 3 hb
   have q:=Row.okw (H1.out.1.keep Q.out.2) (cI_length x)
   have rr1:=q.1
   have rr2:rdA u ⟨g,0,none⟩ 32=vI x:=q.2
   clear q
   go_simp;exact hK _ _ (AnyO.InvG.step (g:=σ) Q.out.1 rfl Q.out.2)
  ·refine AnyO.I rfl [3,4] ?_;rintro D vs u σ Q h0 hC hp ac hb K hK
   have s9:_=_:=AnyO.sv 9 3 hb hp Q
   have s10:_=_:=AnyO.sv 10 4 hb hp Q
   go_simp
   go_at_call 40
   refine (find40 va.1 va.2.2 s.act x u (Own.slOf ((H1.out.2.1.keep Q.out.2).oa)) hn).mono ?_
   rintro e w2 ⟨rfl,hcb⟩
   rw[HI.out]
   exact hK _ _ (AnyO.InvG.step (g:=σ) Q.out.1 rfl (Below.step Q.out.2 hcb))
  all_goals
   refine AnyO.J rfl ?_;rintro D vs u σ Q h0 hC hp ac hb K hK
   try have s0:ac.tmps[0]?.getD undef=.pointer (some ⟨b,0,none⟩):=by rw[hb.out];kernel_rfl
   try have s6:_=_:=AnyO.sv 6 0 hb hp Q
   try have s7:_=_:=AnyO.sv 7 1 hb hp Q
   try have s8:_=_:=AnyO.sv 8 2 hb hp Q
   try have s11:_=_:=AnyO.sv 11 5 hb hp Q
   have rr:=(H1.out.2.1.keep Q.out.2).c2
   rw[(H1.out.2.1).la] at rr
   go_simp
   exact hK _ _ (AnyO.InvG.step (g:=σ) Q.out.1 rfl Q.out.2)
 ·intro D vs u hI hD
  obtain⟨σ,hP,hW⟩:=hI
  have e0:_=_:=hP 0 (hD 0 (by decide))
  have e1:_=_:=hP 1 (hD 1 (by decide))
  have e2:_=_:=hP 2 (hD 2 (by decide))
  have e3:_=_:=hP 3 (hD 3 (by decide))
  have e4:_=_:=hP 4 (hD 4 (by decide))
  have e5:_=_:=hP 5 (hD 5 (by decide))
  have e6:_=_:=hP 6 (hD 6 (by decide))
  have HW:=Lib.hid hW
  clear hW hP hD
  rw[puts_range [some 6,some 7,some 8,some 9,some 10,some 11,some 5] (by kernel_rfl)]
  simp only[putL,Nat.reduceAdd,e0,e1,e2,e3,e4,e5,e6]
  clear e0 e1 e2 e3 e4 e5 e6
  go_simp

  cases hp:posL s.act x with
  | none =>
   have hii:i=-1:=by rw[← HI.out];exact idx_none hp
   have HG:=Lib.hid (rcv_none hp)
   subst hii
   clear hp
   go_wp2
   go_ret
   rw[HG.out]
   exact⟨rfl,Below.step H1.out.2.2 HW.out⟩
  | some k =>
   obtain⟨hk, -, -⟩:=pos_some hp
   have hii:i=(k:Int):=by rw[← HI.out];exact idx_some hp
   have HP:=Lib.hid hp
   subst hii
   clear hp
   have hT:=H1.out.2.1.keep HW.out
   obtain⟨ad,hae, -, -,hat⟩:=Sl.pt (Own.slOf hT.oa) hk
   have rr:=hT.c2
   rw[hT.la] at rr
   have r33:=hat.f33
   have hk1:(k:Int)<(s.act.length:Int):=by omega
   clear hT hat
   rw[hae] at rr
   have HAE:=Lib.hid hae
   clear hae
   by_cases h2:s.act[k].state=2
   ·have HG:=Lib.hid (rcv_yes HP.out hk h2)
    rw[h2] at r33
    clear h2
    go_wp2
    go_ret
    rw[HG.out]
    exact⟨by unfold rcvV;rw[HAE.out];rfl,Below.step H1.out.2.2 HW.out⟩
   ·have HG:=Lib.hid (rcv_no HP.out hk h2)
    have q2:(s.act[k].state==2)=false:=by simpa using h2
    clear h2
    go_wp2
    go_ret
    rw[HG.out]
    exact⟨rfl,Below.step H1.out.2.2 HW.out⟩
end
end Go.Proofs.YtgojaelkdpabkaaGreatDoor
