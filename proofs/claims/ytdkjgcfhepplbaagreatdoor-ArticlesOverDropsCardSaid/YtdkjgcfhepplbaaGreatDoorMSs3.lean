/- A session in memory: its line, sender, taker, readers, what was taken; disjoint blocks; what a call of one of them leaves. -/
import Derived.Test.YtdkjgcfhepplbaaGreatDoorMLn10
import Derived.Test.YtdkjgcfhepplbaaGreatDoorMPcs
namespace Go.Proofs.YtdkjgcfhepplbaaGreatDoor
open Go.RowKit
theorem Sn.Rep.trim {b:Nat} {ch:Int} {s:Sn.St} {F:List Nat} {w:World} (h:Sn.Rep b ch s F w):∃ F2,Sn.Rep b ch s F2 w∧∀ k∈F2,k∈F∧k<w.heap.size:=by
 obtain⟨vw,vo,q,h⟩:=h
 have hm:∀ k,k∈F→k<w.heap.size→k∈F.filter (fun k=>decide (k<w.heap.size)):=fun k h1 h2=>List.mem_filter.2 ⟨h1,decide_eq_true h2⟩
 refine⟨F.filter (fun k=>decide (k<w.heap.size)),⟨vw,vo,q,⟨h.row,h.ow,h.oo,h.none_,fun t ht=>?_,hm b h.bF h.row.lt,fun k e=>⟨hm k (h.wF k e).1 (h.ow.lt k e).2,(h.wF k e).2⟩,fun k e=>⟨hm k (h.oF k e).1 (h.oo.lt k e).2,(h.oF k e).2⟩⟩⟩,fun k hk=>?_⟩
 ·obtain⟨g,e1,e2,e3,e4,e5⟩:=h.some_ t ht
  exact⟨g,e1,e2,hm g e3 e4.lt,e4,e5⟩
 ·obtain⟨h1,h2⟩:=List.mem_filter.1 hk
  exact⟨h1,of_decide_eq_true h2⟩
theorem Sn.Rep.same {b:Nat} {ch:Int} {s:Sn.St} {F:List Nat} {w w':World} (h:Sn.Rep b ch s F w) (hk:∀ k∈F,w'.heap[k]? = w.heap[k]?):Sn.Rep b ch s F w':=by
 obtain⟨vw,vo,q,h⟩:=h
 exact⟨vw,vo,q,h.same hk⟩
theorem LnAt.same {b:Nat} {c:Lc} {bs:Nat→List UInt8} {wy:Nat→List (List UInt8×Nat)} {F:List Nat} {w u:World} (h:LnAt b c bs wy F w) (hs:w.heap.size≤u.heap.size) (hk:∀ k∈F,u.heap[k]? = w.heap[k]?):LnAt b c bs wy F u:=by
 obtain⟨sl,pk,h1,h2⟩:=h
 exact⟨sl,pk,h1.same hs hk,h2⟩
theorem LnAt.lt {b:Nat} {c:Lc} {bs:Nat→List UInt8} {wy:Nat→List (List UInt8×Nat)} {F:List Nat} {w:World} (h:LnAt b c bs wy F w):∀ k∈F,k<w.heap.size:=by
 obtain⟨sl,pk,h1,h2⟩:=h
 exact h1.lt
theorem TkB.same {w0 w u:World} {b:Nat} {s:Tk} {F:List Nat} (h:TkB w0 b s F w) (hs:w.heap.size≤u.heap.size) (hk:∀ k∈F,u.heap[k]? = w.heap[k]?) (hb:Below w0.heap.size w0 u):TkB w0 b s F u :=
 ⟨(by obtain⟨va,vk,h2⟩:=h.tk;exact⟨va,vk,h2.same hk⟩),h.inv,hb,h.low,fun k hm=>Nat.lt_of_lt_of_le (h.lt k hm) hs⟩
structure Sa where
 k:Nat
 ln:Nat
 sn:Nat
 tk:Nat
 rl:Nat
 rr:Nat
structure Ps where
 c:Lc
 bs:Nat→List UInt8
 wy:Nat→List (List UInt8×Nat)
 num:Int
 snd:Sn.St
 tkr:Tk
 wl:ByteArray
 wr:ByteArray
 got:List Txt
structure Gp (w0:World) (G:Nat→List Nat) (w:World):Prop where
 dis:∀ i j,i<7→j<7→i≠j→∀ k∈G i,k∉G j
 low:∀ i,i<7→∀ k∈G i,w0.heap.size≤k
 lt:∀ i,i<7→∀ k∈G i,k<w.heap.size
 bel:Below w0.heap.size w0 w
def Gall (G:Nat→List Nat):List Nat:=(List.range 7).flatMap G
theorem mem_Gall {G:Nat→List Nat} {k:Nat}:k∈Gall G↔∃ j,j<7∧k∈G j:=by
 unfold Gall
 rw[List.mem_flatMap]
 exact⟨fun ⟨j,h1,h2⟩=>⟨j,List.mem_range.1 h1,h2⟩,fun ⟨j,h1,h2⟩=>⟨j,List.mem_range.2 h1,h2⟩⟩
section
variable {w0 w w' u : World} {G : Nat → List Nat} {F' : List Nat}
theorem Gp.kpA (h:Gp w0 G w) {i:Nat} (hi:i<7) (hk:Kp (G i) F' w w'):Kp (Gall G) (Gall (upd G i F')) w w':=by
 refine⟨hk.os,hk.tape,hk.output,hk.size,fun k h1 h2=>?_⟩
 have hn:∀ j,j<7→k∉G j:=fun j hj hm=>h2 (mem_Gall.2 ⟨j,hj,hm⟩)
 obtain⟨h3,h4⟩:=hk.out k h1 (hn i hi)
 refine⟨fun hm=>?_,h4⟩
 obtain⟨j,hj,hm⟩:=mem_Gall.1 hm
 simp only[upd] at hm
 split at hm
 ·exact h3 hm
 ·exact hn j hj hm
theorem Gp.keep (h:Gp w0 G w) (hb:Below w.heap.size w w'):Gp w0 G w':=⟨h.dis,h.low,fun i hi k hk=>Nat.lt_of_lt_of_le (h.lt i hi k hk) hb.size,Below.step h.bel hb⟩
theorem Gp.step (h:Gp w0 G w) {i:Nat} (hi:i<7) (hk:Kp (G i) F' w w') (hlt:∀ k∈F',k<w'.heap.size):Gp w0 (upd G i F') w'∧∀ j,j<7→j≠i→∀ k∈G j,w'.heap[k]? = w.heap[k]?:=by
 have hj:∀ j,j<7→j≠i→∀ k∈G j,k∉F'∧w'.heap[k]? = w.heap[k]?:=fun j hj hne k hm=>hk.out k (h.lt j hj k hm) (h.dis j i hj hi hne k hm)
 refine⟨⟨fun x y hx hy hne k hm=>?_,fun x hx k hm=>?_,fun x hx k hm=>?_,?_⟩,fun j h1 h2 k hm=>(hj j h1 h2 k hm).2⟩
 ·simp only[upd] at hm ⊢
  split at hm
  ·rename_i e
   subst e
   rw[if_neg (Ne.symm hne)]
   exact fun h2=>(hj y hy (Ne.symm hne) k h2).1 hm
  ·rename_i e
   split
   ·exact (hj x hx e k hm).1
   ·exact h.dis x y hx hy hne k hm
 ·simp only[upd] at hm
  split at hm
  ·by_cases h1:k<w.heap.size
   ·by_cases h2:k∈G i
    ·exact h.low i hi k h2
    ·exact absurd hm (hk.out k h1 h2).1
   ·exact Nat.le_trans h.bel.size (by omega)
  ·exact h.low x hx k hm
 ·simp only[upd] at hm
  split at hm
  ·exact hlt k hm
  ·exact Nat.lt_of_lt_of_le (h.lt x hx k hm) hk.size
 ·exact h.bel.trans (hk.below (h.low i hi) h.bel.size)
theorem Kp.sub {F F2:List Nat} (h:Kp F F' w w') (hs:∀ k∈F2,k∈F'):Kp F F2 w w':=⟨h.os,h.tape,h.output,h.size,fun k h1 h2=>⟨fun hm=>(h.out k h1 h2).1 (hs k hm),(h.out k h1 h2).2⟩⟩
theorem Kp.of_one {F:List Nat} {g:Nat} (h:One g w w') (hg:g∈F):Kp F F w w':=⟨h.os,h.tape,h.output,h.size,fun k h1 h2=>⟨h2,h.out k h1 (fun e=>h2 (e▸hg))⟩⟩
end
structure SsR (w0:World) (a:Sa) (ch:Int) (p:Ps) (G:Nat→List Nat) (gv:SlV) (w:World):Prop where
 gp:Gp w0 G w
 row:Row w a.k (cSs ⟨some ⟨a.ln,0,none⟩,p.num,some ⟨a.sn,0,none⟩,some ⟨a.tk,0,none⟩,some ⟨a.rl,0,none⟩,some ⟨a.rr,0,none⟩,gv,false⟩) 36
 l0:a.k∈G 0
 ln:LnAt a.ln p.c p.bs p.wy (G 1) w
 sn:Sn.Rep a.sn ch p.snd (G 2) w
 tk:TkB w0 a.tk p.tkr (G 3) w
 rl:RdAt a.rl p.wl 0 w
 l4:a.rl∈G 4
 rr:RdAt a.rr p.wr 0 w
 l5:a.rr∈G 5
 got:Own w 0 47 33 cTx (.slice gv.1 gv.2.1 gv.2.2) p.got
 l6:∀ g,blkA gv.1=some g→g∈G 6
def SsN (w0:World) (a:Sa) (ch:Int) (p:Ps) (G:Nat→List Nat) (w w':World):Prop:=∃ G' gv',SsR w0 a ch p G' gv' w'∧Kp (Gall G) (Gall G') w w'
def SsAt (w0:World) (a:Sa) (ch:Int) (p:Ps) (w:World):Prop:=∃ G gv,SsR w0 a ch p G gv w
theorem SsN.at {w0:World} {a:Sa} {ch:Int} {p:Ps} {G:Nat→List Nat} {w w':World} (h:SsN w0 a ch p G w w'):SsAt w0 a ch p w':=by
 obtain⟨G',gv',h,_⟩:=h
 exact⟨G',gv',h⟩
theorem SsN.under {w0:World} {a:Sa} {ch:Int} {p:Ps} {G G1:Nat→List Nat} {w w1 w':World} (h:SsN w0 a ch p G1 w1 w') (hk:Kp (Gall G) (Gall G1) w w1):SsN w0 a ch p G w w':=by
 obtain⟨G',gv',h,h2⟩:=h
 exact⟨G',gv',h,hk.trans h2⟩
section
variable {w0 w w' u : World} {a : Sa} {ch : Int} {p : Ps} {G : Nat → List Nat} {gv : SlV} {F' : List Nat}
theorem SsR.keep (h:SsR w0 a ch p G gv w) (hb:Below w.heap.size w w'):SsR w0 a ch p G gv w':=by
 have hs:∀ j,j<7→∀ k∈G j,w'.heap[k]? = w.heap[k]?:=fun j hj k hk=>hb.block k (h.gp.lt j hj k hk)
 exact⟨h.gp.keep hb,h.row.keep hb,h.l0,h.ln.same hb.size (hs 1 (by decide)),h.sn.same (hs 2 (by decide)),h.tk.keep hb,Row.keep h.rl hb,h.l4,Row.keep h.rr hb,h.l5,h.got.keep hb,h.l6⟩
theorem SsAt.keep (h:SsAt w0 a ch p w) (hb:Below w.heap.size w w'):SsAt w0 a ch p w':=by
 obtain⟨G,gv,h⟩:=h
 exact⟨G,gv,h.keep hb⟩
theorem SsR.onLn (h:SsR w0 a ch p G gv w) {c:Lc} {bs:Nat→List UInt8} {wy:Nat→List (List UInt8×Nat)} (hl:LnAt a.ln c bs wy F' w') (hk:Kp (G 1) F' w w'):SsN w0 a ch { p with c:=c,bs:=bs,wy:=wy } G w w':=by
 obtain⟨g1,g2⟩:=h.gp.step (by decide) hk hl.lt
 exact⟨_,gv,⟨g1,h.row.same (g2 0 (by decide) (by decide) _ h.l0),h.l0,hl,h.sn.same (g2 2 (by decide) (by decide)),h.tk.same hk.size (g2 3 (by decide) (by decide)) g1.bel,Row.same h.rl (g2 4 (by decide) (by decide) _ h.l4),h.l4,Row.same h.rr (g2 5 (by decide) (by decide) _ h.l5),h.l5,h.got.same (fun j hj=>g2 6 (by decide) (by decide) _ (h.l6 j (own_eq.1 hj))),h.l6⟩,h.gp.kpA (by decide) hk⟩
theorem SsR.onSn (h:SsR w0 a ch p G gv w) {s:Sn.St} (hl:Sn.Rep a.sn ch s F' w') (hk:Kp (G 2) F' w w'):SsN w0 a ch { p with snd:=s } G w w':=by
 obtain⟨F2,h1,h2⟩:=hl.trim
 have hk2:=hk.sub (fun k hm=>(h2 k hm).1)
 obtain⟨g1,g2⟩:=h.gp.step (by decide) hk2 (fun k hm=>(h2 k hm).2)
 exact⟨_,gv,⟨g1,h.row.same (g2 0 (by decide) (by decide) _ h.l0),h.l0,h.ln.same hk.size (g2 1 (by decide) (by decide)),h1,h.tk.same hk.size (g2 3 (by decide) (by decide)) g1.bel,Row.same h.rl (g2 4 (by decide) (by decide) _ h.l4),h.l4,Row.same h.rr (g2 5 (by decide) (by decide) _ h.l5),h.l5,h.got.same (fun j hj=>g2 6 (by decide) (by decide) _ (h.l6 j (own_eq.1 hj))),h.l6⟩,h.gp.kpA (by decide) hk2⟩
theorem SsR.onTk (h:SsR w0 a ch p G gv w) {s:Tk} (hl:TkB w0 a.tk s F' w') (hk:Kp (G 3) F' w w'):SsR w0 a ch { p with tkr:=s } (upd G 3 F') gv w'∧Kp (Gall G) (Gall (upd G 3 F')) w w':=by
 obtain⟨g1,g2⟩:=h.gp.step (by decide) hk hl.lt
 exact⟨⟨g1,h.row.same (g2 0 (by decide) (by decide) _ h.l0),h.l0,h.ln.same hk.size (g2 1 (by decide) (by decide)),h.sn.same (g2 2 (by decide) (by decide)),hl,Row.same h.rl (g2 4 (by decide) (by decide) _ h.l4),h.l4,Row.same h.rr (g2 5 (by decide) (by decide) _ h.l5),h.l5,h.got.same (fun j hj=>g2 6 (by decide) (by decide) _ (h.l6 j (own_eq.1 hj))),h.l6⟩,h.gp.kpA (by decide) hk⟩
theorem SsR.onRl (h:SsR w0 a ch p G gv w) {s:ByteArray} (hl:RdAt a.rl s 0 w') (ho:One a.rl w w'):SsR w0 a ch { p with wl:=s } G gv w'∧Kp (Gall G) (Gall G) w w':=by
 have hk:=Kp.of_one ho h.l4
 obtain⟨g1,g2⟩:=h.gp.step (by decide) hk (fun k hm=>Nat.lt_of_lt_of_le (h.gp.lt 4 (by decide) k hm) hk.size)
 have hA:=h.gp.kpA (by decide) hk
 rw[upd_self] at g1 hA
 exact⟨⟨g1,h.row.same (g2 0 (by decide) (by decide) _ h.l0),h.l0,h.ln.same hk.size (g2 1 (by decide) (by decide)),h.sn.same (g2 2 (by decide) (by decide)),h.tk.same hk.size (g2 3 (by decide) (by decide)) g1.bel,hl,h.l4,Row.same h.rr (g2 5 (by decide) (by decide) _ h.l5),h.l5,h.got.same (fun j hj=>g2 6 (by decide) (by decide) _ (h.l6 j (own_eq.1 hj))),h.l6⟩,hA⟩
theorem SsR.onRr (h:SsR w0 a ch p G gv w) {s:ByteArray} (hl:RdAt a.rr s 0 w') (ho:One a.rr w w'):SsR w0 a ch { p with wr:=s } G gv w'∧Kp (Gall G) (Gall G) w w':=by
 have hk:=Kp.of_one ho h.l5
 obtain⟨g1,g2⟩:=h.gp.step (by decide) hk (fun k hm=>Nat.lt_of_lt_of_le (h.gp.lt 5 (by decide) k hm) hk.size)
 have hA:=h.gp.kpA (by decide) hk
 rw[upd_self] at g1 hA
 exact⟨⟨g1,h.row.same (g2 0 (by decide) (by decide) _ h.l0),h.l0,h.ln.same hk.size (g2 1 (by decide) (by decide)),h.sn.same (g2 2 (by decide) (by decide)),h.tk.same hk.size (g2 3 (by decide) (by decide)) g1.bel,Row.same h.rl (g2 4 (by decide) (by decide) _ h.l4),h.l4,hl,h.l5,h.got.same (fun j hj=>g2 6 (by decide) (by decide) _ (h.l6 j (own_eq.1 hj))),h.l6⟩,hA⟩
theorem SsR.setNum (h:SsR w0 a ch p G gv w) (n:Int):SsN w0 a ch { p with num:=n } G w (w.setCell ⟨a.k,1,none⟩ (.int .i64 n)):=by
 have hk:=Kp.of_one (One.set (w:=w) (g:=a.k) 1 (.int .i64 n)) h.l0
 obtain⟨g1,g2⟩:=h.gp.step (by decide) hk (fun k hm=>Nat.lt_of_lt_of_le (h.gp.lt 0 (by decide) k hm) hk.size)
 exact⟨_,gv,⟨g1,h.row.set 1 _,h.l0,h.ln.same hk.size (g2 1 (by decide) (by decide)),h.sn.same (g2 2 (by decide) (by decide)),h.tk.same hk.size (g2 3 (by decide) (by decide)) g1.bel,Row.same h.rl (g2 4 (by decide) (by decide) _ h.l4),h.l4,Row.same h.rr (g2 5 (by decide) (by decide) _ h.l5),h.l5,h.got.same (fun j hj=>g2 6 (by decide) (by decide) _ (h.l6 j (own_eq.1 hj))),h.l6⟩,h.gp.kpA (by decide) hk⟩
theorem SsR.setBrk (h:SsR w0 a ch p G gv w):SsR w0 a ch p G gv (w.setCell ⟨a.k,7,none⟩ (.bool false))∧Kp (Gall G) (Gall G) w (w.setCell ⟨a.k,7,none⟩ (.bool false)):=by
 have hk:=Kp.of_one (One.set (w:=w) (g:=a.k) 7 (.bool false)) h.l0
 obtain⟨g1,g2⟩:=h.gp.step (by decide) hk (fun k hm=>Nat.lt_of_lt_of_le (h.gp.lt 0 (by decide) k hm) hk.size)
 rw[upd_self] at g1
 have hA:=h.gp.kpA (by decide) hk
 rw[upd_self] at hA
 exact⟨⟨g1,h.row.set 7 _,h.l0,h.ln.same hk.size (g2 1 (by decide) (by decide)),h.sn.same (g2 2 (by decide) (by decide)),h.tk.same hk.size (g2 3 (by decide) (by decide)) g1.bel,Row.same h.rl (g2 4 (by decide) (by decide) _ h.l4),h.l4,Row.same h.rr (g2 5 (by decide) (by decide) _ h.l5),h.l5,h.got.same (fun j hj=>g2 6 (by decide) (by decide) _ (h.l6 j (own_eq.1 hj))),h.l6⟩,hA⟩
theorem SsR.onGot (h:SsR w0 a ch p G gv w) {v:SlV} {l:List Txt} (ho:Own u 0 47 33 cTx (.slice v.1 v.2.1 v.2.2) l) (hg:w.grownBy u (blkA gv.1)) (hb:∀ g,blkA v.1=some g→blkA gv.1=some g∨w.heap.size≤g) :
  SsN w0 a ch { p with got:=l } G w (u.setCell ⟨a.k,6,none⟩ (.slice v.1 v.2.1 v.2.2)):=by
 have hne:∀ g,g<w.heap.size→blkA gv.1≠some g→u.heap[g]? = w.heap[g]?:=fun g h1 h2=>hg.block g h1 (fun e=>h2 e.symm)
 have hk6:Kp (G 6) (blkL v++G 6) w u:=⟨hg.os,hg.tape,hg.output,hg.size,fun g h1 h2=>⟨fun hm=>by
  rcases List.mem_append.1 hm with hm|hm
  ·rcases hb g (mem_blkL.1 hm) with h3|h3
   ·exact h2 (h.l6 g h3)
   ·omega
  ·exact h2 hm,hne g h1 (fun e=>h2 (h.l6 g e))⟩⟩
 obtain⟨g1,g2⟩:=h.gp.step (by decide) hk6 (fun k hm=>by
  rcases List.mem_append.1 hm with hm|hm
  ·exact (own_blk ho (mem_blkL.1 hm)).2
  ·exact Nat.lt_of_lt_of_le (h.gp.lt 6 (by decide) k hm) hg.size)
 have hkG:a.k∈upd G 6 (blkL v++G 6) 0:=h.l0
 have hk0:=Kp.of_one (One.set (w:=u) (g:=a.k) 6 (.slice v.1 v.2.1 v.2.2)) hkG
 obtain⟨g3,g4⟩:=g1.step (i:=0) (by decide) hk0 (fun k hm=>Nat.lt_of_lt_of_le (g1.lt 0 (by decide) k hm) hk0.size)
 rw[upd_self] at g3
 have e:∀ j,j<6→j≠0→∀ k∈G j,(u.setCell ⟨a.k,6,none⟩ (.slice v.1 v.2.1 v.2.2)).heap[k]? = w.heap[k]?:=fun j hj h0 k hm=>by
  have hm2:k∈upd G 6 (blkL v++G 6) j:=by rw[upd_ne _ _ (by omega)];exact hm
  exact (g4 j (by omega) h0 k hm2).trans (g2 j (by omega) (by omega) k hm)
 have hsz:w.heap.size≤(u.setCell ⟨a.k,6,none⟩ (.slice v.1 v.2.1 v.2.2)).heap.size:=Nat.le_trans hg.size hk0.size
 have hA:=g1.kpA (i:=0) (by decide) hk0
 rw[upd_self] at hA
 refine⟨_,v,⟨g3,(h.row.same (g2 0 (by decide) (by decide) _ h.l0)).set 6 _,hkG,h.ln.same hsz (e 1 (by decide) (by decide)),h.sn.same (e 2 (by decide) (by decide)),h.tk.same hsz (e 3 (by decide) (by decide)) g3.bel,Row.same h.rl (e 4 (by decide) (by decide) _ h.l4),h.l4,Row.same h.rr (e 5 (by decide) (by decide) _ h.l5),h.l5,ho.same (fun j hj=>?_),fun g hm=>?_⟩,(h.gp.kpA (by decide) hk6).trans hA⟩
 ·refine g4 6 (by decide) (by decide) j ?_
  rw[upd_same]
  exact List.mem_append_left _ (mem_blkL.2 (own_eq.1 hj))
 ·rw[upd_same]
  exact List.mem_append_left _ (mem_blkL.2 hm)
end
open Go.RowKit
theorem bl_size (t:ByteArray):t.size=t.data.toList.length:=by rw[Array.length_toList];rfl
section
set_option maxRecDepth 100000
set_option maxHeartbeats 1600000
theorem say24_0 (w0:World) (a:Sa) (ch:Int) (p:Ps) (G:Nat→List Nat) (gv:SlV) (w:World) (h:SsR w0 a ch p G gv w) (hL:Laid w0) (c:Cm) (hc:chk c=0) (hok:c.ok) (hup:p.c.up=true) (hroom:(p.bs 0).length+(encT c).length≤1048576) :
  Calls Tryz.prog 24 #[.pointer (some ⟨a.k,0,none⟩),.int .i64 0,vC c] w fun e w'=>e=.returned (.tuple #[])∧SsN w0 a ch { p with bs:=upd p.bs 0 (p.bs 0++encT c) } G w w':=by
 have HC:=Lib.hid (And.intro hc (And.intro hok (And.intro hup hroom)))
 have HB:=Lib.hid (And.intro h hL)
 clear h hL hc hok hup hroom
 go_enter Tryz.func24,Tryz.ntmps24
 go_wp2_with (first
  | (go_at_call 27;refine (encode15 c _ (HB.out.2.keep (HB.out.1.keep (below_alloc w (.cells (aC c) 74))).gp.bel) HC.out.2.1).mono ?_;rintro e w2 ⟨t,rfl,ht,hb2⟩;rw[HC.out.1];have h2:=HB.out.1.keep (Below.step (below_alloc w (.cells (aC c) 74)) hb2);have k0:w2.cell? ⟨a.k,0,none⟩=some (.pointer (some ⟨a.ln,0,none⟩)):=h2.row.cell 0;have H2:=Lib.hid (And.intro h2 (And.intro ht (Kp.of_below (F:=Gall G) (Below.step (below_alloc w (.cells (aC c) 74)) hb2))));clear h2 hb2 ht)
  | (go_at_call 50;obtain⟨sl,pk,hl,hw⟩:=H2.out.1.ln;have ht:=H2.out.2.1;refine (send50_0 a.ln p.c sl p.bs pk (G 1) t w2 hl HC.out.2.2.1 (by have:=HC.out.2.2.2;rw[bl_size t,show t.data.toList=encT c from ht];exact this)).mono ?_;rintro e w3 ⟨v,F3,rfl,hl3,hk3⟩;rw[show t.data.toList=encT c from ht] at hl3;have H3:=Lib.hid (H2.out.1.onLn (c:=p.c) (wy:=p.wy) ⟨_,_,hl3,hw⟩ hk3 |>.under H2.out.2.2);clear hl hw ht hl3 hk3))
 go_end0
 exact⟨rfl,H3.out⟩
theorem say24_1 (w0:World) (a:Sa) (ch:Int) (p:Ps) (G:Nat→List Nat) (gv:SlV) (w:World) (h:SsR w0 a ch p G gv w) (hL:Laid w0) (c:Cm) (hc:chk c=0) (hok:c.ok) (hup:p.c.up=true) (hroom:(p.bs 3).length+(encT c).length≤1048576) :
  Calls Tryz.prog 24 #[.pointer (some ⟨a.k,0,none⟩),.int .i64 1,vC c] w fun e w'=>e=.returned (.tuple #[])∧SsN w0 a ch { p with bs:=upd p.bs 3 (p.bs 3++encT c) } G w w':=by
 have HC:=Lib.hid (And.intro hc (And.intro hok (And.intro hup hroom)))
 have HB:=Lib.hid (And.intro h hL)
 clear h hL hc hok hup hroom
 go_enter Tryz.func24,Tryz.ntmps24
 go_wp2_with (first
  | (go_at_call 27;refine (encode15 c _ (HB.out.2.keep (HB.out.1.keep (below_alloc w (.cells (aC c) 74))).gp.bel) HC.out.2.1).mono ?_;rintro e w2 ⟨t,rfl,ht,hb2⟩;rw[HC.out.1];have h2:=HB.out.1.keep (Below.step (below_alloc w (.cells (aC c) 74)) hb2);have k0:w2.cell? ⟨a.k,0,none⟩=some (.pointer (some ⟨a.ln,0,none⟩)):=h2.row.cell 0;have H2:=Lib.hid (And.intro h2 (And.intro ht (Kp.of_below (F:=Gall G) (Below.step (below_alloc w (.cells (aC c) 74)) hb2))));clear h2 hb2 ht)
  | (go_at_call 50;obtain⟨sl,pk,hl,hw⟩:=H2.out.1.ln;have ht:=H2.out.2.1;refine (send50_1 a.ln p.c sl p.bs pk (G 1) t w2 hl HC.out.2.2.1 (by have:=HC.out.2.2.2;rw[bl_size t,show t.data.toList=encT c from ht];exact this)).mono ?_;rintro e w3 ⟨v,F3,rfl,hl3,hk3⟩;rw[show t.data.toList=encT c from ht] at hl3;have H3:=Lib.hid (H2.out.1.onLn (c:=p.c) (wy:=p.wy) ⟨_,_,hl3,hw⟩ hk3 |>.under H2.out.2.2);clear hl hw ht hl3 hk3))
 go_end0
 exact⟨rfl,H3.out⟩
end
theorem Row.idI {w:World} {g:Nat} {x:Id} {ty:TypeId} (h:Row w g (cI x) ty):okA w ⟨g,0,none⟩ 32=true∧rdA w ⟨g,0,none⟩ 32=vI x:=by
 have:=h.at_ (k:=0) (n:=32) (ds:=cI x) (by rw[List.drop_zero,List.take_of_length_le (by rw[cI_length];omega)])
 have h1:=this.ok
 have h2:=this.rd
 rw[cI_length] at h1 h2
 exact⟨h1,h2⟩
def hasG (x:Id) (l:List Txt):Bool:=l.any fun q=>decide (q.1=x)
theorem Sl.tx {w:World} {A:Option Addr} {xs:List Txt} (h:Sl w cTx A xs) {k:Nat} (hk:k<xs.length):∃ ad,A=some ad∧okA w (ad.add (k * 33)) 32=true∧rdA w (ad.add (k * 33)) 32=vI xs[k].1:=by
 obtain⟨ad,rfl,hat⟩:=Sl.at_ cTx_length h hk
 have h2:At w (ad.add (k * 33)) (cI xs[k].1):=⟨hat.1,fun j u hu=>hat.2 j u (by
  unfold cTx
  rw[List.getElem?_append_left (List.getElem?_eq_some_iff.1 hu).1]
  exact hu)⟩
 have h3:=h2.ok
 have h4:=h2.rd
 rw[cI_length] at h3 h4
 exact⟨ad,rfl,h3,h4⟩
set_option maxRecDepth 100000 in
set_option maxHeartbeats 1600000 in
theorem has45 (w0:World) (a:Sa) (ch:Int) (p:Ps) (w:World) (h:SsAt w0 a ch p w) (x:Id) (hn:p.got.length≤1000000) :
  Calls Tryz.prog 45 #[.pointer (some ⟨a.k,0,none⟩),vI x] w fun e w'=>e=.returned (.bool (hasG x p.got))∧Below w.heap.size w w':=by
 obtain⟨G,⟨A,n,cp⟩,h⟩:=h
 obtain⟨g,hg⟩:∃ g,w.heap.size=g:=⟨_,rfl⟩
 obtain⟨W1,hW1⟩:∃ W1,w.alloc (.cells (aI x) 39)=W1:=⟨_,rfl⟩
 have hb1:Below w.heap.size w W1:=by rw[← hW1];exact below_alloc _ _
 have hr1:Row W1 g (cI x) 39:=by rw[← hW1,← hg];exact Row.new w (cI x) _
 obtain⟨l,hl⟩:∃ l,p.got=l:=⟨_,rfl⟩
 have ho:=h.got
 rw[hl] at ho hn ⊢
 obtain⟨A',c',e,hc',hs⟩:=ho.sl
 have e2:A=A'∧n=l.length∧cp=c':=by simpa using e
 obtain⟨rfl,hnl,rfl⟩:=e2
 have hk:∀ u,Below W1.heap.size W1 u→u.cell? ⟨a.k,6,none⟩=some (.slice A n cp):=fun u hu=>(h.row.keep (Below.step hb1 hu)).cell 6
 have HK:=Lib.hid hk
 have HR:=Lib.hid (And.intro hr1 (And.intro hb1 (hs.keep hb1)))
 have HN:=Lib.hid hnl
 have hn2:n≤1000000:=by omega
 clear h hr1 hb1 hl ho e hs hk hnl
 go_enter Tryz.func45,Tryz.ntmps45
 go_wp2
 go_loopw [5] (fun i wr=>∃ (k:Nat),k≤n∧i=.int .i64 (k:Int)∧hasG x (l.take k)=false∧Below W1.heap.size W1 wr) (fun i _=>n - (intOf i).toNat)
 case atStart=>exact⟨0,Nat.zero_le _,rfl,rfl,Below.refl _ _⟩
 case round =>
  obtain⟨k,hk,rfl,hno,hb⟩:=hrel
  have c6:=HK.out wr hb
  have H2:=Lib.hid (And.intro hno hb)
  by_cases hlt:k<n
  ·have hlk:(k:Int)<(n:Int):=by omega
   have hkl:k<l.length:=by rw[← HN.out];exact hlt
   obtain⟨ad,rfl,r1,r2⟩:=Sl.tx (HR.out.2.2.keep hb) hkl
   obtain⟨q1,q2⟩:=Row.idI (HR.out.1.keep hb)
   have HT:=Lib.hid (show hasG x (l.take (k+1))=(hasG x (l.take k) || decide (l[k].1=x)) by
    unfold hasG
    rw[List.take_succ_eq_append_getElem hkl,List.any_append,List.any_cons,List.any_nil,Bool.or_false])
   have HI:=Lib.hid (show decide (l[k].1=x)=true→hasG x l=true from fun e=>List.any_eq_true.2 ⟨l[k],List.getElem_mem _,e⟩)
   generalize l[k].1=y at r2 HT HI
   clear hno hb
   cases he:decide (y=x) with
   | true =>
    go_wp2
    go_quiet (fail)
    go_wp2
    go_ret
    exact⟨by rw[HI.out he];rfl,Below.step HR.out.2.1 (Below.step H2.out.2 (below_drewN _ _))⟩
   | false =>
    go_wp2
    go_quiet (fail)
    go_wp2
    go_roundw
    case rel=>exact⟨k+1,hlt,by go_num,by rw[HT.out,H2.out.1,he];rfl,Below.step H2.out.2 (below_drewN _ _)⟩
    case measure=>simp[intOf] <;> omega
  ·obtain rfl:k=n:=by omega
   clear hno hb
   have hlk:¬ (k:Int)<(k:Int):=by omega
   go_wp2
   go_ret
   have hno:hasG x l=false:=by rw[← H2.out.1,HN.out,List.take_length]
   rw[hno]
   exact⟨rfl,by rw[← hg];exact Below.step HR.out.2.1 H2.out.2⟩
open Go.RowKit
section
variable {w0 w : World} {a : Sa} {ch : Int} {p : Ps}
theorem SsAt.c0 (h:SsAt w0 a ch p w):w.cell? ⟨a.k,0,none⟩=some (.pointer (some ⟨a.ln,0,none⟩)):=by
 obtain⟨G,gv,h⟩:=h
 exact h.row.cell 0
theorem SsAt.c1 (h:SsAt w0 a ch p w):w.cell? ⟨a.k,1,none⟩=some (.int .i64 p.num):=by
 obtain⟨G,gv,h⟩:=h
 exact h.row.cell 1
theorem SsAt.c2 (h:SsAt w0 a ch p w):w.cell? ⟨a.k,2,none⟩=some (.pointer (some ⟨a.sn,0,none⟩)):=by
 obtain⟨G,gv,h⟩:=h
 exact h.row.cell 2
theorem SsAt.c3 (h:SsAt w0 a ch p w):w.cell? ⟨a.k,3,none⟩=some (.pointer (some ⟨a.tk,0,none⟩)):=by
 obtain⟨G,gv,h⟩:=h
 exact h.row.cell 3
theorem SsAt.c4 (h:SsAt w0 a ch p w):w.cell? ⟨a.k,4,none⟩=some (.pointer (some ⟨a.rl,0,none⟩)):=by
 obtain⟨G,gv,h⟩:=h
 exact h.row.cell 4
theorem SsAt.c5 (h:SsAt w0 a ch p w):w.cell? ⟨a.k,5,none⟩=some (.pointer (some ⟨a.rr,0,none⟩)):=by
 obtain⟨G,gv,h⟩:=h
 exact h.row.cell 5
theorem SsAt.c7 (h:SsAt w0 a ch p w):w.cell? ⟨a.k,7,none⟩=some (.bool false):=by
 obtain⟨G,gv,h⟩:=h
 exact h.row.cell 7
theorem SsAt.fz (h:SsAt w0 a ch p w) (i:Nat):w.frozen? ⟨a.k,i,none⟩=false:=by
 obtain⟨G,gv,h⟩:=h
 exact h.row.fz i
theorem SsAt.bel (h:SsAt w0 a ch p w):Below w0.heap.size w0 w:=by
 obtain⟨G,gv,h⟩:=h
 exact h.gp.bel
theorem SsAt.up (h:SsAt w0 a ch p w):Calls Tryz.prog 21 #[.pointer (some ⟨a.ln,0,none⟩)] w fun e w'=>e=.returned (.bool p.c.up)∧w'=w:=by
 obtain⟨G,gv,h⟩:=h
 obtain⟨sl,pk,hl,_⟩:=h.ln
 exact up21 _ _ _ _ _ _ _ hl
theorem SsAt.session (h:SsAt w0 a ch p w):Calls Tryz.prog 39 #[.pointer (some ⟨a.ln,0,none⟩)] w fun e w'=>e=.returned (.int .i64 p.c.sess)∧w'=w:=by
 obtain⟨G,gv,h⟩:=h
 obtain⟨sl,pk,hl,_⟩:=h.ln
 exact session39 _ _ _ _ _ _ _ hl
theorem SsAt.resetL (h:SsAt w0 a ch p w):Calls Tryz.prog 42 #[.pointer (some ⟨a.rl,0,none⟩)] w fun e w'=>e=.returned (.tuple #[])∧SsAt w0 a ch { p with wl:=⟨#[]⟩ } w':=by
 obtain⟨G,gv,h⟩:=h
 exact (reset27 w a.rl p.wl 0 h.rl).mono fun e w' ⟨e1,e2,e3⟩=>⟨e1,⟨_,_,(h.onRl e2 e3).1⟩⟩
theorem SsAt.resetR (h:SsAt w0 a ch p w):Calls Tryz.prog 42 #[.pointer (some ⟨a.rr,0,none⟩)] w fun e w'=>e=.returned (.tuple #[])∧SsAt w0 a ch { p with wr:=⟨#[]⟩ } w':=by
 obtain⟨G,gv,h⟩:=h
 exact (reset27 w a.rr p.wr 0 h.rr).mono fun e w' ⟨e1,e2,e3⟩=>⟨e1,⟨_,_,(h.onRr e2 e3).1⟩⟩
theorem SsAt.openT (h:SsAt w0 a ch p w) (ho:p.tkr.opn=false):Calls Tryz.prog 30 #[.pointer (some ⟨a.tk,0,none⟩)] w fun e w'=>e=.returned (.int .i64 0)∧SsAt w0 a ch { p with tkr:=(openT p.tkr).1 } w':=by
 obtain⟨G,gv,h⟩:=h
 refine h.tk.open_.mono fun e w' ⟨e1,F',e2,e3⟩=>⟨?_,⟨_,_,(h.onTk e2 e3).1⟩⟩
 rw[e1]
 unfold Go.Proofs.YtdkjgcfhepplbaaGreatDoor.openT
 rw[ho]
 rfl
theorem SsAt.dropT (h:SsAt w0 a ch p w) (ho:p.tkr.opn=true):Calls Tryz.prog 41 #[.pointer (some ⟨a.tk,0,none⟩)] w fun e w'=>e=.returned (.int .i64 0)∧SsAt w0 a ch { p with tkr:=(dropT p.tkr).1 } w':=by
 obtain⟨G,gv,h⟩:=h
 refine h.tk.drop.mono fun e w' ⟨e1,F',e2,e3⟩=>⟨?_,⟨_,_,(h.onTk e2 e3).1⟩⟩
 rw[e1]
 unfold Go.Proofs.YtdkjgcfhepplbaaGreatDoor.dropT
 rw[if_pos ho]
theorem SsAt.setNum (h:SsAt w0 a ch p w) (n:Int):SsAt w0 a ch { p with num:=n } (w.setCell ⟨a.k,1,none⟩ (.int .i64 n)):=by
 obtain⟨G,gv,h⟩:=h
 exact (h.setNum n).at
end
open Go.RowKit
theorem SlF.none_ {α:Type} {F F2:List Nat} {w:World} {enc:α→List Value} {v:SlV} (h:SlF F w enc v []):SlF F2 w enc v []:=⟨h.1,h.2.1,h.2.2.1,fun _ _ h3=>absurd rfl h3⟩
section
variable {w0 w w' u : World} {a : Sa} {ch : Int} {p : Ps} {G : Nat → List Nat} {gv : SlV} {F' : List Nat}
theorem SsR.lt (h:SsR w0 a ch p G gv w):∀ k∈Gall G,k<w.heap.size:=fun k hk=>by
 obtain⟨j,hj,hm⟩:=mem_Gall.1 hk
 exact h.gp.lt j hj k hm
theorem SsR.low (h:SsR w0 a ch p G gv w):∀ k∈Gall G,w0.heap.size≤k:=fun k hk=>by
 obtain⟨j,hj,hm⟩:=mem_Gall.1 hk
 exact h.gp.low j hj k hm
theorem SsR.drop31 (h:SsR w0 a ch p G gv w) (g:Sn.Good ch p.snd):Calls Tryz.prog 40 #[.pointer (some ⟨a.sn,0,none⟩)] w fun e w'=>e=.returned (.int .i64 0)∧SsN w0 a ch { p with snd:=Sn.dropS p.snd } G w w' :=
 (Sn.drop31_all a.sn ch p.snd (G 2) w h.sn g).mono fun e w' ⟨e1,F',e2,e3⟩=>⟨e1,h.onSn e2 e3⟩
theorem SsR.say18 (h:SsR w0 a ch p G gv w) (g:Sn.Good ch p.snd):Calls Tryz.prog 23 #[.pointer (some ⟨a.sn,0,none⟩)] w fun e w'=>e=.returned (.tuple #[vC (Sn.sayS ch p.snd).2.1,.bool (Sn.sayS ch p.snd).2.2])∧SsN w0 a ch { p with snd:=(Sn.sayS ch p.snd).1 } G w w' :=
 (Sn.say18 a.sn ch p.snd (G 2) w h.sn g).mono fun e w' ⟨e1,F',e2,e3⟩=>⟨e1,h.onSn e2 e3⟩
theorem SsR.hear19 (h:SsR w0 a ch p G gv w) (g:Sn.Good ch p.snd) (hL:Laid w0) (hE:Sn.EffAt w) (c:Cm) (hname:c.name=⟨#[]⟩) (hm:p.snd.outs.length≤100000) (hk:Sn.Hk p.snd c):Calls Tryz.prog 47 #[.pointer (some ⟨a.sn,0,none⟩),vC c] w fun e w'=>e=.returned (.int .i64 (Sn.hearS p.snd c).2)∧SsN w0 a ch { p with snd:=(Sn.hearS p.snd c).1 } G w w' :=
 (Sn.hear19 a.sn ch p.snd (G 2) c w h.sn g (hL.keep h.gp.bel).forms hE hname hm hk).mono fun e w' ⟨e1,F',e2,e3⟩=>⟨e1,h.onSn e2 e3⟩
theorem SsR.answer (h:SsR w0 a ch p G gv w) (hL:Laid w0) (c:Cm) (hn:c.name.size≤1000000) (he:(answerT p.tkr c).2.2=0) (hv:c.verb=3∨c.verb=4):Calls Tryz.prog 32 #[.pointer (some ⟨a.tk,0,none⟩),vC c] w fun e w'=>e=.returned (.tuple #[vC (answerT p.tkr c).2.1,.int .i64 (answerT p.tkr c).2.2])∧∃ G',SsR w0 a ch { p with tkr:=(answerT p.tkr c).1 } G' gv w'∧Kp (Gall G) (Gall G') w w' :=
 (h.tk.answer hL c hn he hv).mono fun e w' ⟨e1,F',e2,e3⟩=>⟨e1,_,h.onTk e2 e3⟩
theorem SsR.accepted (h:SsR w0 a ch p G gv w) (x:Id) (n:Int):Calls Tryz.prog 46 #[.pointer (some ⟨a.tk,0,none⟩),vI x,.int .i64 n] w fun e w'=>e=.returned (.tuple #[vC (acceptedT p.tkr x n).2.1,.int .i64 (acceptedT p.tkr x n).2.2])∧∃ G',SsR w0 a ch { p with tkr:=(acceptedT p.tkr x n).1 } G' gv w'∧Kp (Gall G) (Gall G') w w' :=
 (h.tk.accepted x n).mono fun e w' ⟨e1,F',e2,e3⟩=>⟨e1,_,h.onTk e2 e3⟩
def HrW (w0:World) (a:Sa) (ch:Int) (p:Ps) (qs:List Qn) (ts:List Txt) (q l:SlV) (G:Nat→List Nat) (w w':World):Prop :=
 ∃ G' gv',SsR w0 a ch p G' gv' w'∧Kp (Gall G) (Gall G') w w'∧SlF [a.k] w' cQn q qs∧SlF (Gall G') w' cTx l ts
theorem qn_off {w:World} {k:Nat} {x:Ss} {q:SlV} {qs:List Qn} {F:List Nat} (hk:Row w k (cSs x) 36) (h:SlF F w cQn q qs):SlF [k] w cQn q qs:=by
 refine⟨h.1,h.2.1,h.2.2.1,fun ad e hx hm=>?_⟩
 obtain⟨y,r,rfl⟩:∃ y r,qs=y :: r:=by
  cases qs with
  | nil=>exact absurd rfl hx
  | cons y r=>exact⟨y,r,rfl⟩
 have hsl:=h.2.2.1
 obtain⟨ad2,e2,hat⟩:=Sl.at_ (fun x=>(by simp[cQn,cI_length]:(cQn x).length=34)) hsl (k:=0) (by simp)
 have e3:ad=ad2:=by rw[e] at e2;exact Option.some.inj e2
 subst e3
 have h2:ad.block=k:=List.mem_singleton.1 hm
 have h1:=hat.2 33 (.int .i64 y.2.2) (by simp[cQn,cI_length,List.getElem?_append_right])
 rw[Nat.zero_mul,add_of_add] at h1
 unfold World.cell? at h1
 rw[block_of_add,h2,show w.heap[k]? = _ from hk] at h1
 have h3:(cSs x).toArray[(ad.add (0+33)).off]? = some (Value.int .i64 y.2.2):=by
  split at h1
  ·rename_i heq
   cases heq
   split at h1
   ·cases h1
   ·exact h1
  ·cases h1
 have h4:=(Array.getElem?_eq_some_iff.1 h3).1
 have h5:(ad.add (0+33)).off=ad.off+(0+33):=rfl
 rw[h5,List.size_toArray,cSs_length] at h4
 omega
theorem SsR.hear (h:SsR w0 a ch p G gv w) (hL:Laid w0) (c:Cm) (hn:c.name.size≤1000000) (ht:c.text.size≤1000000) {s1:Tk} {qs:List Qn} (hh:hearT p.tkr c=(s1,qs,[],0)) (h8:c.verb≠8) :
  Calls Tryz.prog 31 #[.pointer (some ⟨a.tk,0,none⟩),vC c] w fun e w'=>∃ q l:SlV,e=.returned (.tuple #[.slice q.1 q.2.1 q.2.2,.slice l.1 l.2.1 l.2.2,.int .i64 0])∧HrW w0 a ch { p with tkr:=s1 } qs [] q l G w w':=by
 refine (h.tk.hear hL c hn ht (by rw[hh]) h8).mono fun e w' ⟨q,l,e1,F',e2,e3,e4,e5⟩=>?_
 rw[hh] at e1 e2 e4 e5
 obtain⟨h1,h2⟩:=h.onTk e2 e3
 exact⟨q,l,e1,_,gv,h1,h2,qn_off h1.row e4,e5.none_⟩
theorem SsR.hearDone (h:SsR w0 a ch p G gv w) (hL:Laid w0) (c:Cm) (hn:c.name.size≤1000000) (ht:c.text.size≤1000000) (ho:p.tkr.opn=true) (hc:chk c=0) (hv:c.verb=8) (k:Nat) (hr:rcvL p.tkr.act c.id=some k) (hf:¬ (((ptK p.tkr.act k).bytes.size:Int)<(ptK p.tkr.act k).size)) :
  Calls Tryz.prog 31 #[.pointer (some ⟨a.tk,0,none⟩),vC c] w fun e w'=>∃ q l:SlV,e=.returned (.tuple #[.slice q.1 q.2.1 q.2.2,.slice l.1 l.2.1 l.2.2,.int .i64 0])∧HrW w0 a ch { p with tkr:=(doneT p.tkr c).1 } [] (doneT p.tkr c).2.1 q l G w w':=by
 have e0:(doneT p.tkr c).2.2=0:=by unfold doneT;rw[hr];dsimp only;rw[if_neg hf]
 refine (hear15_goF a.tk p.tkr (doneT p.tkr c).1 [] (doneT p.tkr c).2.1 (doneT p.tkr c).2.2 (G 3) c w h.tk.tk (hL.keep h.gp.bel).forms hn ho hc 67 (by rw[hv];rfl) (enters_of Tryz.func67 (by kernel_rfl) rfl) (fun u hu=>done39F a.tk p.tkr (G 3) c u hu (by have:=h.tk.inv.a100;omega) h.tk.inv.bz ht k hr hf)).mono fun e w' ⟨q,l,e1,F1,t1,t2,t3,t4,t5⟩=>?_
 obtain⟨F',a1,a2,a3⟩:=h.tk.step t1 (by have:=h.tk.inv.heard c;unfold hearT at this;rw[if_neg (by rw[ho];decide),if_neg (by rw[hc];decide),if_neg (by rw[hv];decide),if_neg (by rw[hv];decide),if_pos hv] at this;exact this) t2
 rw[e0] at e1
 obtain⟨h1,h2⟩:=h.onTk a1 a2
 refine⟨q,l,e1,_,gv,h1,h2,(t3.kp a3).none_,?_⟩
 have t4':=t4.kp a3
 refine⟨t4'.1,t4'.2.1,t4'.2.2.1,fun ad e hx hm=>?_⟩
 obtain⟨j,hj,hm⟩:=mem_Gall.1 hm
 simp only[upd] at hm
 split at hm
 ·exact t4'.2.2.2 ad e hx hm
 ·have h3:=h.gp.lt j hj _ hm
  have h4:=t5 ad.block (by rw[e];rfl)
  omega
def FdW (w0:World) (a:Sa) (ch:Int) (p:Ps) (cs:List Cm) (v:SlV) (G:Nat→List Nat) (w w':World):Prop :=
 ∃ G' gv',SsR w0 a ch p G' gv' w'∧Kp (Gall G) (Gall G') w w'∧SlF (Gall G') w' cC v cs
theorem bl_of {wt:ByteArray} {rest:List UInt8} (h:rest=bl wt):wt=⟨rest.toArray⟩:=by
 subst h
 rfl
theorem own_slF {w':World} {B:Nat} {v:Value} {cs:List Cm} {F:List Nat} (h:Own w' B 74 39 cC v cs) (hF:∀ k∈F,k<B):∃ q:SlV,v=.slice q.1 q.2.1 q.2.2∧SlF F w' cC q cs:=by
 obtain⟨A,c,rfl,h1,h2⟩:=h.sl
 exact⟨(A,cs.length,c),rfl,SlF.own h hF⟩
theorem SsR.feedR (h:SsR w0 a ch p G gv w) (hL:Laid w0) (s:ByteArray) {cs:List Cm} {rest:List UInt8} (hf:feedL (bl p.wr++bl s)=(cs,rest,0)) (hs:p.wr.size+s.size≤1000000) :
  Calls Tryz.prog 44 #[.pointer (some ⟨a.rr,0,none⟩),.string s] w fun e w'=>∃ v:SlV,e=.returned (.tuple #[.slice v.1 v.2.1 v.2.2,.int .i64 0])∧FdW w0 a ch { p with wr:=⟨rest.toArray⟩ } cs v G w w':=by
 refine (feed25 s w w0 a.rr p.wr h.gp.bel h.rr (h.gp.low 5 (by decide) _ h.l5) hL hs).mono fun e w' ⟨v,cs',wt',fl,e1,e2,e3,e4,e5⟩=>?_
 have e2:=hf.symm.trans e2
 have e6:cs=cs':=congrArg Prod.fst e2
 have e7:rest=bl wt':=congrArg (fun x=>x.2.1) e2
 have e8:0=fl:=congrArg (fun x=>x.2.2) e2
 subst e6 e8
 have e9:=bl_of e7
 rw[e9] at e4
 obtain⟨h1,h2⟩:=h.onRr e4 e5
 obtain⟨q,rfl,hq⟩:=own_slF e3 h.lt
 exact⟨q,e1,G,gv,h1,h2,hq⟩
theorem SsR.feedL_ (h:SsR w0 a ch p G gv w) (hL:Laid w0) (s:ByteArray) {cs:List Cm} {rest:List UInt8} (hf:feedL (bl p.wl++bl s)=(cs,rest,0)) (hs:p.wl.size+s.size≤1000000) :
  Calls Tryz.prog 44 #[.pointer (some ⟨a.rl,0,none⟩),.string s] w fun e w'=>∃ v:SlV,e=.returned (.tuple #[.slice v.1 v.2.1 v.2.2,.int .i64 0])∧FdW w0 a ch { p with wl:=⟨rest.toArray⟩ } cs v G w w':=by
 refine (feed25 s w w0 a.rl p.wl h.gp.bel h.rl (h.gp.low 4 (by decide) _ h.l4) hL hs).mono fun e w' ⟨v,cs',wt',fl,e1,e2,e3,e4,e5⟩=>?_
 have e2:=hf.symm.trans e2
 have e6:cs=cs':=congrArg Prod.fst e2
 have e7:rest=bl wt':=congrArg (fun x=>x.2.1) e2
 have e8:0=fl:=congrArg (fun x=>x.2.2) e2
 subst e6 e8
 have e9:=bl_of e7
 rw[e9] at e4
 obtain⟨h1,h2⟩:=h.onRl e4 e5
 obtain⟨q,rfl,hq⟩:=own_slF e3 h.lt
 exact⟨q,e1,G,gv,h1,h2,hq⟩
theorem SsR.rcv1 (h:SsR w0 a ch p G gv w) (hl:(p.bs 5).length≤1048576) :
  Calls Tryz.prog 43 #[.pointer (some ⟨a.ln,0,none⟩),.int .i64 1,.int .i64 1048576] w fun e w'=>e=.returned (.tuple #[.string ⟨(p.bs 5).toArray⟩,.int .i64 0])∧SsN w0 a ch { p with bs:=upd p.bs 5 [] } G w w':=by
 obtain⟨sl,pk,hn,hw⟩:=h.ln
 exact (receive43_1 a.ln p.c sl p.bs pk (G 1) w hn hl).mono fun e w' ⟨v,F',e1,e2,e3⟩=>⟨e1,h.onLn (c:=p.c) (wy:=p.wy) ⟨_,_,e2,hw⟩ e3⟩
theorem SsR.rcv0 (h:SsR w0 a ch p G gv w) (hl:(p.bs 2).length≤1048576) :
  Calls Tryz.prog 43 #[.pointer (some ⟨a.ln,0,none⟩),.int .i64 0,.int .i64 1048576] w fun e w'=>e=.returned (.tuple #[.string ⟨(p.bs 2).toArray⟩,.int .i64 0])∧SsN w0 a ch { p with bs:=upd p.bs 2 [] } G w w':=by
 obtain⟨sl,pk,hn,hw⟩:=h.ln
 exact (receive43_0 a.ln p.c sl p.bs pk (G 1) w hn hl).mono fun e w' ⟨v,F',e1,e2,e3⟩=>⟨e1,h.onLn (c:=p.c) (wy:=p.wy) ⟨_,_,e2,hw⟩ e3⟩
theorem SsR.drop25 (h:SsR w0 a ch p G gv w) (hup:p.c.up=true):Calls Tryz.prog 25 #[.pointer (some ⟨a.ln,0,none⟩)] w fun e w'=>e=.returned (.int .i64 0)∧SsN w0 a ch { p with c:={ p.c with up:=false },bs:=dnB 2 p.bs,wy:=dnW 2 p.wy } G w w' :=
 (Go.Proofs.YtdkjgcfhepplbaaGreatDoor.drop25 a.ln p.c p.bs p.wy (G 1) w h.ln hup).mono fun e w' ⟨e1,F',e2,e3⟩=>⟨e1,h.onLn e2 e3⟩
theorem SsR.pass_up (h:SsR w0 a ch p G gv w) (hup:p.c.up=true) (r dl t:Nat) (hr:p.c.cf.rate=(r:Int)) (hd:p.c.cf.delay=(dl:Int)) (ht:p.c.now=(t:Int)) (hp:p.c.cf.period=10) (hrb:r≤1048576) (hdb:dl≤1440) (htb:t≤1000000) (hfb:FlB 10000000 (p.bs,p.wy)) :
  Calls Tryz.prog 26 #[.pointer (some ⟨a.ln,0,none⟩),.int .i64 1] w fun e w'=>e=.returned (.int .i64 0)∧SsN w0 a ch { p with c:={ p.c with now:=((t+1:Nat):Int) },bs:=(arrN (t+1) 2 (packN r (t+1+dl) 2 (p.bs,p.wy))).1,wy:=(arrN (t+1) 2 (packN r (t+1+dl) 2 (p.bs,p.wy))).2 } G w w' :=
 advance26 a.ln t w (by obtain⟨sl,pk,hn,_⟩:=h.ln;rw[← ht];exact hn.row.cell 4) htb ((pass52_up a.ln p.c p.bs p.wy (G 1) w h.ln hup r dl t hr hd ht hp hrb hdb htb hfb).mono fun e w' ⟨e1,F',e2,e3⟩=>⟨e1,h.onLn e2 e3⟩)
theorem SsR.pass_down (h:SsR w0 a ch p G gv w) (hup:p.c.up=false) (t s:Nat) (ht:p.c.now=(t:Int)) (hs:p.c.sess=(s:Int)) (hp:p.c.cf.period=10) (htb:t≤1000000) (hsb:s≤1000000) (hw1:p.wy 1=[]) (hw4:p.wy 4=[]) :
  Calls Tryz.prog 26 #[.pointer (some ⟨a.ln,0,none⟩),.int .i64 1] w fun e w'=>e=.returned (.int .i64 0)∧SsN w0 a ch { p with c:={ p.c with now:=((t+1:Nat):Int),up:=true,sess:=((s+1:Nat):Int) },bs:=nwB p.bs 2 } G w w' :=
 advance26 a.ln t w (by obtain⟨sl,pk,hn,_⟩:=h.ln;rw[← ht];exact hn.row.cell 4) htb ((pass52_down a.ln p.c p.bs p.wy (G 1) w h.ln hup t s ht hs hp htb hsb hw1 hw4).mono fun e w' ⟨e1,F',e2,e3⟩=>⟨e1,h.onLn (c:={ p.c with now:=((t+1:Nat):Int),up:=true,sess:=((s+1:Nat):Int) }) (wy:=p.wy) e2 e3⟩)
end
end Go.Proofs.YtdkjgcfhepplbaaGreatDoor
