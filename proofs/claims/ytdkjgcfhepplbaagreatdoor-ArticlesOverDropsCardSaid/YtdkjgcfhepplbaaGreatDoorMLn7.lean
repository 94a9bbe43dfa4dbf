/- line: a minute that passes while the line is up. -/
import Derived.Test.YtdkjgcfhepplbaaGreatDoorMLn6
namespace Go.Proofs.YtdkjgcfhepplbaaGreatDoor
open Go.RowKit
abbrev Fl:=(Nat→List UInt8)×(Nat→List (List UInt8×Nat))
def packK (r t k:Nat) (s:Fl):Fl:=if s.1 k=[] then s else (upd s.1 k ((s.1 k).drop r),upd s.2 (k+1) (s.2 (k+1)++[((s.1 k).take r,t)]))
def packN (r t:Nat):Nat→Fl→Fl
 | 0,s=>s
 | n+1,s=>packK r t (3 * n) (packN r t n s)
def dlv (now:Nat):List (List UInt8×Nat)→List UInt8×List (List UInt8×Nat)
 | []=>([],[])
 | q :: r=>if q.2≤now then (q.1++(dlv now r).1,(dlv now r).2) else ([],q :: r)
def arrK (now u a:Nat) (s:Fl):Fl:=(upd s.1 a (s.1 a++(dlv now (s.2 u)).1),upd s.2 u (dlv now (s.2 u)).2)
def arrN (now:Nat):Nat→Fl→Fl
 | 0,s=>s
 | n+1,s=>arrK now (3 * n+1) (3 * (1 - n)+2) (arrN now n s)
structure FlB (B:Nat) (s:Fl):Prop where
 b:∀ k,(s.1 k).length≤B
 w:∀ k,(s.2 k).length≤B
 m:∀ k,((s.2 k).map (·.1.length)).sum≤B
theorem FlB.pack {B r t k:Nat} {s:Fl} (h:FlB B s) (hr:r≤1048576):FlB (B+1048577) (packK r t k s):=by
 unfold packK
 split
 ·exact⟨fun k=>Nat.le_trans (h.b k) (by omega),fun k=>Nat.le_trans (h.w k) (by omega),fun k=>Nat.le_trans (h.m k) (by omega)⟩
 ·refine⟨fun j=>?_,fun j=>?_,fun j=>?_⟩
  ·have:=h.b k
   have:=h.b j
   simp only[upd]
   split
   ·rw[List.length_drop];omega
   ·omega
  ·have:=h.w (k+1)
   have:=h.w j
   simp only[upd]
   split
   ·rw[List.length_append,List.length_singleton];omega
   ·omega
  ·have:=h.m (k+1)
   have:=h.m j
   simp only[upd]
   split
   ·rw[List.map_append,List.sum_append,List.map_singleton,List.sum_singleton,List.length_take];omega
   ·omega
theorem At.pk {w:World} {A:Option Addr} {xs:List Pk} (h:Sl w cPk A xs) {k:Nat} (hk:k<xs.length):∃ ad,A=some ad∧w.cell? (ad.add (k * 2))=some (.slice xs[k].1.1 xs[k].1.2.1 xs[k].1.2.2)∧w.cell? ((ad.add (k * 2)).add 1)=some (.int .i64 xs[k].2):=by
 obtain⟨ad,rfl,hat⟩:=Sl.at_ cPk_length h hk
 refine⟨ad,rfl,?_,hat.2 1 _ rfl⟩
 have h:=hat.2 0 _ rfl
 rw[show ((ad.add (k * 2)).add 0)=ad.add (k * 2) from by unfold Addr.add;rfl] at h
 exact h
theorem Os.pk0 {w:World} {A:Option Addr} {n c:Nat} {q:Pk} {rs:List Pk} (h:Os w 162 2 cPk A n c (q :: rs)):∃ g off,A=some ⟨g,off,none⟩∧w.cell? ⟨g,off,none⟩=some (.slice q.1.1 q.1.2.1 q.1.2.2)∧w.cell? ⟨g,off+1,none⟩=some (.int .i64 q.2):=by
 obtain⟨ad,e,h1,h2⟩:=At.pk (h.sl (fun x=>List.cons_ne_nil _ _)) (k:=0) (by simp)
 rcases h.2.2.2.2 with⟨e2,_⟩|⟨g,off,cur,e2,_⟩
 ·rw[e2] at e
  cases e
 ·rw[e2] at e
  injection e with e
  subst e
  refine⟨g,off,e2,?_,?_⟩
  ·rw[add_plain] at h1
   exact h1
  ·rw[add_plain,add_plain] at h2
   exact h2
theorem dlv_take (now:Nat):∀ (m:Nat) (l:List (List UInt8×Nat)),(∀ q∈l.take m,q.2≤now)→dlv now l=((l.take m).flatMap (·.1)++(dlv now (l.drop m)).1,(dlv now (l.drop m)).2)
 | 0,l,_=>by simp
 | m+1,[],_=>by simp[dlv]
 | m+1,q :: r,h=>by
  rw[List.take_succ_cons,List.drop_succ_cons,List.flatMap_cons,dlv,if_pos (h q (by simp)),dlv_take now m r fun x hx=>h x (by rw[List.take_succ_cons];exact List.mem_cons_of_mem _ hx),List.append_assoc]
theorem dlv_done (now m:Nat) (l:List (List UInt8×Nat)) (hq:∀ q∈l.take m,q.2≤now) (he:∀ q r,l.drop m=q :: r→¬ q.2≤now):dlv now l=((l.take m).flatMap (·.1),l.drop m):=by
 rw[dlv_take now m l hq]
 cases hd:l.drop m with
 | nil=>simp[dlv]
 | cons q r=>rw[dlv,if_neg (he q r hd),List.append_nil]
theorem flat_len:∀ (m:Nat) (l:List (List UInt8×Nat)),((l.take m).flatMap (·.1)).length≤(l.map (·.1.length)).sum
 | 0,l=>by simp
 | m+1,[]=>by simp
 | m+1,q :: r=>by
  have:=flat_len m r
  simp only[List.take_succ_cons,List.flatMap_cons,List.length_append,List.map_cons,List.sum_cons]
  omega
theorem mem_len:∀ (l:List (List UInt8×Nat)) (q:List UInt8×Nat),q∈l→q.1.length≤(l.map (·.1.length)).sum
 | x :: r,q,h=>by
  rw[List.map_cons,List.sum_cons]
  rcases List.mem_cons.1 h with rfl|h
  ·omega
  ·have:=mem_len r q h
   omega
theorem dlv_le (now:Nat):∀ l:List (List UInt8×Nat),(dlv now l).1.length≤(l.map (·.1.length)).sum∧(dlv now l).2.length≤l.length∧((dlv now l).2.map (·.1.length)).sum≤(l.map (·.1.length)).sum
 | []=>by simp[dlv]
 | q :: r=>by
  have h:=dlv_le now r
  unfold dlv
  split
  ·simp only[List.length_append,List.map_cons,List.sum_cons,List.length_cons]
   omega
  ·simp
theorem FlB.arr {B now u a:Nat} {s:Fl} (h:FlB B s):FlB (B+B) (arrK now u a s):=by
 have h1:=dlv_le now (s.2 u)
 refine⟨fun k=>?_,fun k=>?_,fun k=>?_⟩
 ·have:=h.b k
  have:=h.b a
  have:=h.m u
  simp only[arrK,upd]
  split
  ·rw[List.length_append];omega
  ·omega
 ·have:=h.w k
  have:=h.w u
  simp only[arrK,upd]
  split <;> omega
 ·have:=h.m k
  have:=h.m u
  simp only[arrK,upd]
  split <;> omega
theorem take_next {α:Type} {l:List α} {m:Nat} {q:α} {r:List α} (h:l.drop m=q :: r):l.take (m+1)=l.take m++[q]∧l.drop (m+1)=r∧m<l.length:=by
 have h1:l[m]? = some q:=by
  have h2:(l.drop m)[0]? = some q:=by rw[h];rfl
  rwa[List.getElem?_drop,Nat.add_zero] at h2
 refine⟨by rw[List.take_add_one,h1];rfl,?_,(List.getElem?_eq_some_iff.1 h1).1⟩
 rw[← List.drop_drop,h]
 rfl
theorem LnR.dropP {b:Nat} {c:Lc} {sl:Nat→SlV} {bs:Nat→List UInt8} {pk:Nat→List Pkt} {F:List Nat} {u:World} (h:LnR b c sl bs pk F u) {k:Nat} (hk:k<6) (hm:k % 3=1) {A:Option Addr} {n c':Nat} (hs:sl k=(A,n,c')) {q:Pkt} {rest:List Pkt} (hp:pk k=q :: rest) :
  ∃ F',LnR b c (upd sl k ((if c'=1 then A else A.map (·.add (1 * 2))),n - 1,c' - 1)) bs (upd pk k rest) F' (u.setCell ⟨b,7+k,none⟩ (.slice (if c'=1 then A else A.map (·.add (1 * 2))) (n - 1) (c' - 1)))∧Kp F F' u (u.setCell ⟨b,7+k,none⟩ (.slice (if c'=1 then A else A.map (·.add (1 * 2))) (n - 1) (c' - 1))):=by
 have h1:=h.op k hk hm
 rw[hs,hp] at h1
 have hn:1≤n:=by have h2:n=(List.map pkC (q :: rest)).length:=h1.1;rw[List.length_map,List.length_cons] at h2;omega
 have h2:=h1.cut cPk_length 1 hn
 rw[List.map_cons,List.drop_succ_cons,List.drop_zero] at h2
 obtain⟨h3,h4⟩:=h.setP (G:=[]) hk hm (v:=((if c'=1 then A else A.map (·.add (1 * 2))),n - 1,c' - 1)) h2 (World.grownBy.refl u _) (fun g hg=>Or.inl (by rw[hs];exact (blk_cut A c' 1 (1 * 2))▸hg)) (fun x hx=>Or.inl (by rw[hp];exact List.mem_cons_of_mem _ hx)) (fun g hg=>by cases hg)
 refine⟨_,h3,⟨rfl,rfl,rfl,by simp[World.setCell],fun g hg hF=>⟨fun hm2=>?_,h4 g hg hF⟩⟩⟩
 rcases List.mem_append.1 hm2 with h5|h5
 ·refine hF (h.sep k g hk ?_).2.1
  rw[hs]
  have h6:=mem_blkL.1 h5
  exact (blk_cut A c' 1 (1 * 2))▸h6
 ·exact hF (by simpa using h5)
theorem LnR.cf {b:Nat} {c:Lc} {sl:Nat→SlV} {bs:Nat→List UInt8} {pk:Nat→List Pkt} {F:List Nat} {w:World} (h:LnR b c sl bs pk F w):okA w ⟨b,0,none⟩ 4=true∧rdA w ⟨b,0,none⟩ 4=vCf c.cf:=by
 have hat:=h.row.at_ (k:=0) (n:=4) (ds:=cCf c.cf) rfl
 exact⟨hat.ok,hat.rd⟩
def wayLen (b o:Nat) (w:World):Nat:=match w.cell? ⟨b,o,none⟩ with|some (.slice _ n _)=>n|_=>0
theorem LnR.wayLen {b:Nat} {c:Lc} {sl:Nat→SlV} {bs:Nat→List UInt8} {pk:Nat→List Pkt} {F:List Nat} {w:World} (h:LnR b c sl bs pk F w) {k:Nat} (hk:k<6) (hm:k % 3=1):Go.Proofs.YtdkjgcfhepplbaaGreatDoor.wayLen b (7+k) w=(pk k).length:=by
 unfold Go.Proofs.YtdkjgcfhepplbaaGreatDoor.wayLen
 rw[h.cell hk]
 have h1:=(h.op k hk hm).1
 rw[List.length_map] at h1
 exact h1

set_option maxRecDepth 100000 in
set_option maxHeartbeats 6400000 in
theorem pass52_up (b:Nat) (c:Lc) (bs:Nat→List UInt8) (wy:Nat→List (List UInt8×Nat)) (F:List Nat) (w:World) (h:LnAt b c bs wy F w) (hup:c.up=true) (r dl t:Nat)
  (hr:c.cf.rate=(r:Int)) (hd:c.cf.delay=(dl:Int)) (ht:c.now=(t:Int)) (hp:c.cf.period=10) (hrb:r≤1048576) (hdb:dl≤1440) (htb:t≤1000000) (hfb:FlB 10000000 (bs,wy)) :
  Calls Tryz.prog 52 #[.pointer (some ⟨b,0,none⟩)] w fun e w'=>e=.returned (.tuple #[])∧∃ F',LnAt b { c with now:=((t+1:Nat):Int) } (arrN (t+1) 2 (packN r (t+1+dl) 2 (bs,wy))).1 (arrN (t+1) 2 (packN r (t+1+dl) 2 (bs,wy))).2 F' w'∧Kp F F' w w':=by
 have k2:w.cell? ⟨b,5,none⟩=some (.bool true):=by
  obtain⟨sl,pk,h,_⟩:=h
  rw[← hup]
  exact h.row.cell 5
 have HR:=Lib.hid (And.intro hr (And.intro hd (And.intro ht hp)))
 have HA:=Lib.hid (And.intro h hfb)
 have hup0:=Lib.hid hup
 clear h hr hd ht hp hup hfb
 go_enter Tryz.func52,Tryz.ntmps52
 go_wp2
 go_loopw [14] (fun i wr=>∃ (n:Nat) (F':List Nat),n≤2∧i=.int .i64 (n:Int)∧LnAt b c (packN r (t+1+dl) n (bs,wy)).1 (packN r (t+1+dl) n (bs,wy)).2 F' wr∧Kp F F' w wr∧FlB (10000000+n * 1048577) (packN r (t+1+dl) n (bs,wy))) (fun i _=>2 - (intOf i).toNat)
 case atStart=>exact⟨0,F,by decide,rfl,HA.out.1,Kp.refl _ _,HA.out.2⟩
 case round =>
  obtain⟨n,F2,hn,rfl,⟨sl2,pk2,hl2,hw2⟩,hk2,hb2⟩:=hrel
  obtain⟨⟨bs2,wy2⟩,hs2⟩:∃ s,packN r (t+1+dl) n (bs,wy)=s:=⟨_,rfl⟩
  rw[hs2] at hl2 hw2 hb2
  obtain rfl|rfl|rfl:n=0∨n=1∨n=2:=by omega
  ·obtain⟨⟨A,nA,cA⟩,hsA⟩:∃ s,sl2 0=s:=⟨_,rfl⟩
   have c7:=hl2.cell (k:=0) (by decide)
   have hob:=hl2.ob 0 (by decide) (by decide)
   rw[hsA] at c7 hob
   have hnA:nA=(bs2 0).length:=hob.1
   have hnb:(bs2 0).length≤20000000:=by have h:=hb2.b 0;simp only at h;omega
   obtain⟨mm,hmm⟩:∃ mm,min r (bs2 0).length=mm:=⟨_,rfl⟩
   have hpb:(pk2 1).length≤20000000:=by have h:=hb2.w 1;have h2:=congrArg List.length (hw2 1);rw[List.length_map] at h2;simp only at h h2;omega
   have HL:=Lib.hid (And.intro hl2 (And.intro hw2 (And.intro hnb (And.intro hmm (And.intro hk2 (And.intro hb2 hs2))))))
   have HN:=Lib.hid hpb
   clear hl2 hw2 hk2 hb2 hs2 hsA hob hnb hmm hpb
   by_cases he:bs2 0=[]
   ·obtain rfl:nA=0:=by rw[hnA,he];rfl
    clear hnA
    go_wp2
    go_roundw
    case rel=>exact⟨1,F2,by decide,by go_num,by
     rw[show packN r (t+1+dl) 1 (bs,wy)=packK r (t+1+dl) 0 (packN r (t+1+dl) 0 (bs,wy)) from rfl,HL.out.2.2.2.2.2.2,packK,if_pos he]
     exact⟨_,_,HL.out.1,HL.out.2.1⟩,HL.out.2.2.2.2.1,by
     rw[show packN r (t+1+dl) 1 (bs,wy)=packK r (t+1+dl) 0 (packN r (t+1+dl) 0 (bs,wy)) from rfl,HL.out.2.2.2.2.2.2]
     exact (HL.out.2.2.2.2.2.1.pack hrb)⟩
    case measure=>simp[intOf]
   ·have hn0:0<nA:=by rw[hnA];exact List.length_pos_iff.2 he
    have hn1:(0:Int)<(nA:Int):=by omega
    clear hnA
    go_wp2
    refine AnyO.wp_anyI (by kernel_rfl) (by kernel_rfl) (AnyO.InvG (σ:=(Option Addr×Nat)×SlV×List Nat×Nat) (fun σ=>AnyO.pvL [some (.pointer (some ⟨b,7,none⟩)),some (.pointer (some ⟨b,7,none⟩)),some (.pointer (some ⟨b,7,none⟩)),some (.pointer (some ⟨b,0,none⟩)),some (.pointer (some ⟨b,0,none⟩)),some (.pointer (some ⟨b,0,none⟩)),some (.pointer (some ⟨b,0,none⟩)),some (.int .i64 (r:Int)),some (.slice σ.1.1 mm σ.1.2),some (.pointer (some ⟨b,0,none⟩)),some (.pointer (some ⟨b,0,none⟩)),some (.pointer (some ⟨b,4,none⟩)),some (.int .i64 (t:Int)),some (.int .i64 ((t:Int)+1)),some (.pointer (some ⟨b,0,none⟩)),some (.pointer (some ⟨b,0,none⟩)),some (.pointer (some ⟨b,0,none⟩)),some (.pointer (some ⟨b,1,none⟩)),some (.int .i64 (dl:Int)),some (.int .i64 ((t:Int)+1+(dl:Int))),some (vPk ((σ.1.1,mm,σ.1.2),(t:Int)+1+(dl:Int))),some (.pointer (some ⟨σ.2.2.2,0,none⟩)),none]) (fun σ D u=>PM b c sl2 bs2 pk2 F2 0 r mm ((t:Int)+1+(dl:Int)) wr σ (D 8) (D 21) (D 22) u)) (AnyO.InvG.start (g:=((none,0),(none,0,0),[],0)) (PM.start (below_drew wr))) ?_ ?_
    ·intro i hi
     have hi2:i=8∨i=21∨i=22∨i=0∨i=1∨i=2∨i=3∨i=4∨i=5∨i=6∨i=7∨i=9∨i=10∨i=11∨i=12∨i=13∨i=14∨i=15∨i=16∨i=17∨i=18∨i=19∨i=20:=by simp only[List.size_toArray,List.length_cons,List.length_nil] at hi;omega
     clear hi
     rcases hi2 with rfl|rfl|rfl|rfl|rfl|rfl|rfl|rfl|rfl|rfl|rfl|rfl|rfl|rfl|rfl|rfl|rfl|rfl|rfl|rfl|rfl|rfl|rfl
     ·refine AnyO.I rfl [2,7] ?_;rintro D vs u σ Q h0 hC hp ac hb K hK
      have s30:_=_:=AnyO.sv 30 2 hb hp Q
      have s35:_=_:=AnyO.sv 35 7 hb hp Q
      have hf20:=AnyO.fls (hC.out 20) h0 (by kernel_rfl)
      have hf22:=AnyO.fls (hC.out 22) hf20 (by kernel_rfl)
      have hst:=Q.out.2
      rw[h0,hf22] at hst
      have HST:=Lib.hid hst
      clear hst
      go_simp
      go_at_call 76
      refine (take76 b c sl2 bs2 pk2 F2 0 r u (HL.out.1.keep (HST.out.s0 rfl)) (by decide) (by decide) (by omega) (by have:=HL.out.2.2.1;omega) 7 rfl).mono ?_
      rintro e w2 ⟨A,c',v,F',rfl,ho,hl,hk,hf⟩
      rw[HL.out.2.2.2.1] at ho ⊢
      refine hK _ _ (AnyO.InvG.ghost (g:=σ) ((A,c'),v,F',σ.2.2.2) Q.out.1 ?_ rfl ?_)
      ·intro j hj hq
       rcases j with _|_|_|_|_|_|_|_|_|_|_|_|_|_|_|_|_|_|_|_|_|_|_|j
       all_goals first|exact hq|exact absurd (show D 8=true from hj) (by rw[h0];decide)|exact absurd (show D 20=true from hj) (by rw[hf20];decide)|exact absurd (show D 22=true from hj) (by rw[hf22];decide)
      rw[show AnyO.addD D 8 8=true from rfl,show AnyO.addD D 8 21=D 21 from rfl,show AnyO.addD D 8 22=D 22 from rfl,hf22]
      exact HST.out.took HL.out.1.lt A c' v F' ho hl hk hf
     ·refine AnyO.I rfl [] ?_;rintro D vs u σ Q h0 hC hp ac hb K hK
      have hf22:=AnyO.fls (hC.out 22) h0 (by kernel_rfl)
      have hst:=Q.out.2
      rw[h0,hf22] at hst
      have HST:=Lib.hid hst
      clear hst
      go_simp
      refine hK _ _ (AnyO.InvG.ghost (g:=σ) (σ.1,σ.2.1,σ.2.2.1,u.heap.size) Q.out.1 ?_ rfl ?_)
      ·intro j hj hq
       rcases j with _|_|_|_|_|_|_|_|_|_|_|_|_|_|_|_|_|_|_|_|_|_|_|j
       all_goals first|exact hq|exact absurd (show D 21=true from hj) (by rw[h0];decide)|exact absurd (show D 22=true from hj) (by rw[hf22];decide)
      rw[show AnyO.addD D 21 21=true from rfl,show AnyO.addD D 21 8=D 8 from rfl,show AnyO.addD D 21 22=D 22 from rfl,hf22]
      exact HST.out.made
     ·refine AnyO.I rfl [21,20,8,0,1,2,3,4,5,6,7,8,9,10,11,12,13,14,15,16,17,18,19,20,21] ?_;rintro D vs u σ Q h0 hC hp ac hb K hK
      have s4:_=_:=AnyO.sv 4 21 hb hp Q
      have s48:_=_:=AnyO.sv 48 20 hb hp Q
      have hp8:D 8=true:=hp.out 8 (by decide)
      have hp21:D 21=true:=hp.out 21 (by decide)
      have hst:=Q.out.2
      rw[hp8,hp21,h0] at hst
      have rr1:=Row.rowOk' (hst.s2 rfl).1 (cPk_length _)
      have HST:=Lib.hid hst
      clear hst
      go_simp
      exact hK undef _ (AnyO.InvG.step (g:=σ) Q.out.1 trivial (by rw[show AnyO.addD D 22 8=D 8 from rfl,hp8,show AnyO.addD D 22 21=D 21 from rfl,hp21,show AnyO.addD D 22 22=true from rfl];exact HST.out.put HL.out.1.lt))
     all_goals
      refine AnyO.J rfl ?_;rintro D vs u σ Q h0 hC hp ac hb K hK
      try have s3:ac.tmps[3]?.getD undef=.pointer (some ⟨b,7,none⟩):=by rw[hb.out];kernel_rfl
      try have s28:_=_:=AnyO.sv 28 0 hb hp Q
      try have s29:_=_:=AnyO.sv 29 1 hb hp Q
      try have s0:ac.tmps[0]?.getD undef=.pointer (some ⟨b,0,none⟩):=by rw[hb.out];kernel_rfl
      try have s31:_=_:=AnyO.sv 31 3 hb hp Q
      try have s32:_=_:=AnyO.sv 32 4 hb hp Q
      try have s33:_=_:=AnyO.sv 33 5 hb hp Q
      try have s34:_=_:=AnyO.sv 34 6 hb hp Q
      try have s37:_=_:=AnyO.sv 37 9 hb hp Q
      try have s38:_=_:=AnyO.sv 38 10 hb hp Q
      try have s39:_=_:=AnyO.sv 39 11 hb hp Q
      try have s40:_=_:=AnyO.sv 40 12 hb hp Q
      try have s42:_=_:=AnyO.sv 42 14 hb hp Q
      try have s43:_=_:=AnyO.sv 43 15 hb hp Q
      try have s44:_=_:=AnyO.sv 44 16 hb hp Q
      try have s45:_=_:=AnyO.sv 45 17 hb hp Q
      try have s41:_=_:=AnyO.sv 41 13 hb hp Q
      try have s46:_=_:=AnyO.sv 46 18 hb hp Q
      try have s36:_=_:=AnyO.sv 36 8 hb hp Q
      try have s47:_=_:=AnyO.sv 47 19 hb hp Q
      have rr_0:=Q.out.2.cell HL.out.1 (i:=0) (v:=.int .i64 c.cf.rate) (fun s=>rfl)
      rw[HR.out.1] at rr_0
      have rr_1:=Q.out.2.cell HL.out.1 (i:=4) (v:=.int .i64 c.now) (fun s=>rfl)
      rw[HR.out.2.2.1] at rr_1
      have rr_2:IntKind.i64.wrap ((t:Int)+1)=(t:Int)+1:=IntWalk.i64_in _ (by omega)
      have rr_3:=Q.out.2.cell HL.out.1 (i:=1) (v:=.int .i64 c.cf.delay) (fun s=>rfl)
      rw[HR.out.2.1] at rr_3
      have rr_4:IntKind.i64.wrap ((t:Int)+1+(dl:Int))=(t:Int)+1+(dl:Int):=IntWalk.i64_in _ (by omega)
      go_simp
      exact hK _ _ (AnyO.InvG.step (g:=σ) Q.out.1 rfl Q.out.2)
    ·intro D vs u hI hD
     obtain⟨σ,hP,hW⟩:=hI
     have e0:_=_:=hP 0 (hD 0 (by decide))
     have e1:_=_:=hP 1 (hD 1 (by decide))
     have e2:_=_:=hP 2 (hD 2 (by decide))
     have e3:_=_:=hP 3 (hD 3 (by decide))
     have e4:_=_:=hP 4 (hD 4 (by decide))
     have e5:_=_:=hP 5 (hD 5 (by decide))
     have e6:_=_:=hP 6 (hD 6 (by decide))
     have e7:_=_:=hP 7 (hD 7 (by decide))
     have e8:_=_:=hP 8 (hD 8 (by decide))
     have e9:_=_:=hP 9 (hD 9 (by decide))
     have e10:_=_:=hP 10 (hD 10 (by decide))
     have e11:_=_:=hP 11 (hD 11 (by decide))
     have e12:_=_:=hP 12 (hD 12 (by decide))
     have e13:_=_:=hP 13 (hD 13 (by decide))
     have e14:_=_:=hP 14 (hD 14 (by decide))
     have e15:_=_:=hP 15 (hD 15 (by decide))
     have e16:_=_:=hP 16 (hD 16 (by decide))
     have e17:_=_:=hP 17 (hD 17 (by decide))
     have e18:_=_:=hP 18 (hD 18 (by decide))
     have e19:_=_:=hP 19 (hD 19 (by decide))
     have e20:_=_:=hP 20 (hD 20 (by decide))
     have e21:_=_:=hP 21 (hD 21 (by decide))
     rw[show D 8=true from hD 8 (by decide),show D 21=true from hD 21 (by decide),show D 22=true from hD 22 (by decide)] at hW
     have HW:=Lib.hid hW
     clear hW hP hD
     rw[puts_range [some 28,some 29,some 30,some 31,some 32,some 33,some 34,some 35,some 36,some 37,some 38,some 39,some 40,some 41,some 42,some 43,some 44,some 45,some 46,some 47,some 48,some 4,none] (by kernel_rfl)]
     simp only[putL,Nat.reduceAdd,e0,e1,e2,e3,e4,e5,e6,e7,e8,e9,e10,e11,e12,e13,e14,e15,e16,e17,e18,e19,e20,e21]
     clear e0 e1 e2 e3 e4 e5 e6 e7 e8 e9 e10 e11 e12 e13 e14 e15 e16 e17 e18 e19 e20 e21
     obtain⟨⟨A0,c0⟩,v0,F3,g0⟩:=σ
     have hm3:=HW.out
     obtain⟨hl3,hk3,ho3,hf3⟩:=hm3.s1 rfl
     obtain⟨hrow,hg0⟩:=hm3.s2 rfl
     obtain⟨hgF,hgA⟩:=hm3.s3 rfl rfl
     have hrow:Row u g0 (cPk ((A0,mm,c0),(t:Int)+1+(dl:Int))) 162:=hrow
     obtain⟨sl3,hsl3⟩:∃ s,upd sl2 0 v0=s:=⟨_,rfl⟩
     obtain⟨bs3,hbs3⟩:∃ s,upd bs2 0 ((bs2 0).drop r)=s:=⟨_,rfl⟩
     have hl3:LnR b c (upd sl2 0 v0) (upd bs2 0 ((bs2 0).drop r)) pk2 F3 u:=hl3
     rw[hsl3,hbs3] at hl3
     obtain⟨⟨A1,n1,cp1⟩,hs1⟩:∃ s,sl3 1=s:=⟨_,rfl⟩
     have hpl:=hl3.op 1 (by decide) (by decide)
     rw[hs1] at hpl
     have hn1:n1=(pk2 1).length:=by have h:=hpl.1;rwa[List.length_map] at h
     have H3:=Lib.hid (And.intro hl3 (And.intro hk3 (And.intro ho3 (And.intro hf3 (And.intro hrow (And.intro hs1 (And.intro hbs3 (And.intro hn1 hpl))))))))
     clear hl3 hk3 ho3 hf3 hrow hg0 hgF hgA hs1 hsl3 hm3 hn1 hpl HW hbs3
     obtain⟨pp,hpp⟩:∃ pp:Pkt,(((A0,mm,c0),(bs2 0).take r,t+1+dl):Pkt)=pp:=⟨_,rfl⟩
     have hpk:pkC pp=((A0,mm,c0),(t:Int)+1+(dl:Int)):=by rw[← hpp];simp[pkC]
     have HPP:=Lib.hid (And.intro hpp hpk)
     clear hpp hpk
     go_simp
     go_wp2
     have hpk1:Sl u c1 pp.1.1 pp.2.1:=by rw[← HPP.out.1];exact (Os.of_own c1_len H3.out.2.2.1).sl (fun x=>List.cons_ne_nil _ _)
     have hpk2:pp.1.2.1=pp.2.1.length:=by rw[← HPP.out.1];show mm=((bs2 0).take r).length;rw[List.length_take];exact HL.out.2.2.2.1.symm
     have hpk3:∀ g,blkA pp.1.1=some g→g∈blkL (A0,mm,c0):=by rw[← HPP.out.1];exact fun g hg=>mem_blkL.2 hg
     have hpk4:∀ g∈blkL (A0,mm,c0),g<u.heap.size∧g∉F3:=fun g hg=>⟨(own_blk H3.out.2.2.1 (mem_blkL.1 hg)).2,fun hm=>by have:=(own_blk H3.out.2.2.1 (mem_blkL.1 hg)).1;have:=HL.out.1.lt g (H3.out.2.2.2.1 g hm);omega⟩
     have HPK:=Lib.hid (And.intro hpk1 (And.intro hpk2 (And.intro hpk3 hpk4)))
     clear hpk1 hpk2 hpk3 hpk4
     refine AnyO.wp_anyI (by kernel_rfl) (by kernel_rfl) (AnyO.InvG (σ:=Nat×SlV) (fun σ=>AnyO.pvL [some (.pointer (some ⟨b,7,none⟩)),some (.pointer (some ⟨b,7,none⟩)),some (.pointer (some ⟨b,7,none⟩)),some (.pointer (some ⟨b,8,none⟩)),some (.slice A1 n1 cp1),some (vPk (pkC pp)),some (.slice (some ⟨σ.1,0,none⟩) 1 1),some (.slice σ.2.1 σ.2.2.1 σ.2.2.2),some (.pointer (some ⟨b,7,none⟩)),some (.pointer (some ⟨b,8,none⟩)),none]) (fun σ' D u'=>PA b c sl3 bs3 pk2 F3 1 pp (blkL (A0,mm,c0)) u σ' (D 6) (D 7) (D 10) u')) (AnyO.InvG.start (g:=(0,(none,0,0))) (PA.start (below_drew u))) ?_ ?_
     ·intro i hi
      have hi2:i=4∨i=5∨i=6∨i=7∨i=10∨i=0∨i=1∨i=2∨i=3∨i=8∨i=9:=by simp only[List.size_toArray,List.length_cons,List.length_nil] at hi;omega
      clear hi
      rcases hi2 with rfl|rfl|rfl|rfl|rfl|rfl|rfl|rfl|rfl|rfl|rfl
      ·refine AnyO.I rfl [3] ?_;rintro D vs u σ Q h0 hC hp ac hb K hK
       have s52:_=_:=AnyO.sv 52 3 hb hp Q
       have hf7:=AnyO.fls (hC.out 7) h0 (by kernel_rfl)
       have hf10:=AnyO.fls (hC.out 10) hf7 (by kernel_rfl)
       have hst:=Q.out.2
       rw[hf10] at hst
       have rr:=((hst.row H3.out.1 (by decide)).cell 8).trans (cLi_sl _ sl3 (k:=1) (by decide))
       rw[H3.out.2.2.2.2.2.1] at rr
       have rr2:u.cell? ⟨b,8,none⟩=some (.slice A1 n1 cp1):=rr
       clear hst rr
       go_simp;exact hK _ _ (AnyO.InvG.step (g:=σ) Q.out.1 rfl Q.out.2)
      ·refine AnyO.I rfl [] ?_;rintro D vs u σ Q h0 hC hp ac hb K hK
       have s4:=AnyO.sz (v:=.pointer (some ⟨g0,0,none⟩)) 4 hb
       have hf6:=AnyO.fls (hC.out 6) h0 (by kernel_rfl)
       have hf7:=AnyO.fls (hC.out 7) hf6 (by kernel_rfl)
       have hst:=Q.out.2
       rw[hf7] at hst
       have rw0:=Row.okw (H3.out.2.2.2.2.1.keep (hst.s0 rfl)) (cPk_length _)
       have rr1:=rw0.1
       have rr2:rdA u ⟨g0,0,none⟩ 2=vPk (pkC pp):=by rw[HPP.out.2];exact rw0.2
       clear hst rw0
       go_simp;exact hK _ _ (AnyO.InvG.step (g:=σ) Q.out.1 rfl Q.out.2)
      ·refine AnyO.I rfl [5] ?_;rintro D vs u σ Q h0 hC hp ac hb K hK
       have s54:_=_:=AnyO.sv 54 5 hb hp Q
       have hf7:=AnyO.fls (hC.out 7) h0 (by kernel_rfl)
       have hf10:=AnyO.fls (hC.out 10) hf7 (by kernel_rfl)
       have hst:=Q.out.2
       rw[h0,hf7,hf10] at hst
       have HST:=Lib.hid hst
       clear hst
       go_simp
       refine hK _ _ (AnyO.InvG.ghost (g:=σ) (u.heap.size,σ.2) Q.out.1 ?_ rfl ?_)
       ·intro j hj hq
        rcases j with _|_|_|_|_|_|_|_|_|_|_|j
        all_goals first|exact hq|exact absurd (show D 6=true from hj) (by rw[h0];decide)|exact absurd (show D 7=true from hj) (by rw[hf7];decide)|exact absurd (show D 10=true from hj) (by rw[hf10];decide)
       rw[show AnyO.addD D 6 6=true from rfl,show AnyO.addD D 6 7=D 7 from rfl,hf7,show AnyO.addD D 6 10=D 10 from rfl,hf10]
       exact HST.out.one
      ·refine AnyO.I rfl [4,6] ?_;rintro D vs u σ Q h0 hC hp ac hb K hK
       have s53:_=_:=AnyO.sv 53 4 hb hp Q
       have s55:_=_:=AnyO.sv 55 6 hb hp Q
       have hp6:D 6=true:=hp.out 6 (by decide)
       have hf10:=AnyO.fls (hC.out 10) h0 (by kernel_rfl)
       have hst:=Q.out.2
       rw[hp6,h0,hf10] at hst
       have hos:=H3.out.2.2.2.2.2.2.2.2.keep (hst.s0 rfl)
       refine wp_append_os u (.tmp 53) (.tmp 55) 95 rfl 32 Tryz.underlying95 rowPK (by decide) cPk_length cPk_one (ev_tmp s53) hos _ 1 1 [pkC pp] rfl (ev_tmp s55) (hst.s1 rfl rfl) (by have:=HN.out;have:=H3.out.2.2.2.2.2.2.2.1;omega) (by have:=HN.out;have:=H3.out.2.2.2.2.2.2.2.1;omega) ?_
       intro A2 c2 w2 ho2 hg2
       refine hK _ _ (AnyO.InvG.ghost (g:=σ) (σ.1,A2,n1+1,c2) Q.out.1 ?_ rfl ?_)
       ·intro j hj hq
        rcases j with _|_|_|_|_|_|_|_|_|_|_|j
        all_goals first|exact hq|exact absurd (show D 7=true from hj) (by rw[h0];decide)|exact absurd (show D 10=true from hj) (by rw[hf10];decide)
       rw[show AnyO.addD D 7 6=D 6 from rfl,hp6,show AnyO.addD D 7 7=true from rfl,show AnyO.addD D 7 10=D 10 from rfl,hf10]
       refine hst.apped (by rw[List.map_append];exact ho2) ?_
       have e1:(sl3 1).1=A1:=by rw[H3.out.2.2.2.2.2.1]
       rw[e1]
       exact hg2
      ·refine AnyO.I rfl [9,7,7,0,1,2,3,4,5,6,7] ?_;rintro D vs u σ Q h0 hC hp ac hb K hK
       have s58:_=_:=AnyO.sv 58 9 hb hp Q
       have s56:_=_:=AnyO.sv 56 7 hb hp Q
       have hp6:D 6=true:=hp.out 6 (by decide)
       have hp7:D 7=true:=hp.out 7 (by decide)
       have hst:=Q.out.2
       rw[hp6,hp7,h0] at hst
       have rrw:=hst.row H3.out.1 (by decide)
       have rr1:=rrw.fz 8
       have rr2:=(rrw.cell 8).trans (cLi_sl _ sl3 (k:=1) (by decide))
       have HST:=Lib.hid hst
       clear hst rrw
       go_simp
       exact hK undef _ (AnyO.InvG.step (g:=σ) Q.out.1 trivial (by rw[show AnyO.addD D 10 6=D 6 from rfl,hp6,show AnyO.addD D 10 7=D 7 from rfl,hp7,show AnyO.addD D 10 10=true from rfl];exact HST.out.stored H3.out.1 (by decide) (by decide) HPK.out.1 HPK.out.2.1 HPK.out.2.2.1 HPK.out.2.2.2))
      all_goals
       refine AnyO.J rfl ?_;rintro D vs u σ Q h0 hC hp ac hb K hK
       try have s3:ac.tmps[3]?.getD undef=.pointer (some ⟨b,7,none⟩):=by rw[hb.out];kernel_rfl
       try have s50:_=_:=AnyO.sv 50 1 hb hp Q
       try have s51:_=_:=AnyO.sv 51 2 hb hp Q
       try have s49:_=_:=AnyO.sv 49 0 hb hp Q
       try have s57:_=_:=AnyO.sv 57 8 hb hp Q
       go_simp
       exact hK _ _ (AnyO.InvG.step (g:=σ) Q.out.1 rfl Q.out.2)
     ·intro D vs u hI hD
      obtain⟨σ,hP,hW⟩:=hI
      have e0:_=_:=hP 0 (hD 0 (by decide))
      have e1:_=_:=hP 1 (hD 1 (by decide))
      have e2:_=_:=hP 2 (hD 2 (by decide))
      have e3:_=_:=hP 3 (hD 3 (by decide))
      have e4:_=_:=hP 4 (hD 4 (by decide))
      have e5:_=_:=hP 5 (hD 5 (by decide))
      have e6:_=_:=hP 6 (hD 6 (by decide))
      have e7:_=_:=hP 7 (hD 7 (by decide))
      have e8:_=_:=hP 8 (hD 8 (by decide))
      have e9:_=_:=hP 9 (hD 9 (by decide))
      rw[show D 6=true from hD 6 (by decide),show D 7=true from hD 7 (by decide),show D 10=true from hD 10 (by decide)] at hW
      have HW:=Lib.hid hW
      clear hW hP hD
      rw[puts_range [some 49,some 50,some 51,some 52,some 53,some 54,some 55,some 56,some 57,some 58,none] (by kernel_rfl)]
      simp only[putL,Nat.reduceAdd,e0,e1,e2,e3,e4,e5,e6,e7,e8,e9]
      clear e0 e1 e2 e3 e4 e5 e6 e7 e8 e9
      obtain⟨F4,hl4,hk4⟩:=HW.out.s3 rfl rfl
      have hfr:=HW.out.fr
      have H4:=Lib.hid (And.intro hl4 (And.intro hk4 (And.intro hfr HW.out.sz)))
      clear hl4 hk4 hfr HW
      go_simp
      go_wp2
      go_roundw
      case rel=>exact⟨1,F4,by decide,by go_num,by
       rw[show packN r (t+1+dl) 1 (bs,wy)=packK r (t+1+dl) 0 (packN r (t+1+dl) 0 (bs,wy)) from rfl,HL.out.2.2.2.2.2.2,packK,if_neg he]
       refine⟨_,_,by rw[H3.out.2.2.2.2.2.2.1];exact H4.out.1,fun j=>?_⟩
       simp only[upd]
       split
       ·rw[List.map_append,HL.out.2.1,List.map_singleton,← HPP.out.1]
       ·exact HL.out.2.1 j,HL.out.2.2.2.2.1.trans ⟨H4.out.2.2.1.1.trans H3.out.2.1.os,H4.out.2.2.1.2.1.trans H3.out.2.1.tape,H4.out.2.2.1.2.2.trans H3.out.2.1.output,Nat.le_trans H3.out.2.1.size H4.out.2.2.2,fun g hg hF=>⟨(H4.out.2.1 g (Nat.lt_of_lt_of_le hg H3.out.2.1.size) (H3.out.2.1.out g hg hF).1).1 (fun hm=>by have:=(own_blk H3.out.2.2.1 (mem_blkL.1 hm)).1;omega),(H4.out.2.1 g (Nat.lt_of_lt_of_le hg H3.out.2.1.size) (H3.out.2.1.out g hg hF).1).2.trans (H3.out.2.1.out g hg hF).2⟩⟩,by
       rw[show packN r (t+1+dl) 1 (bs,wy)=packK r (t+1+dl) 0 (packN r (t+1+dl) 0 (bs,wy)) from rfl,HL.out.2.2.2.2.2.2]
       exact (HL.out.2.2.2.2.2.1.pack hrb)⟩
      case measure=>simp[intOf]
  ·obtain⟨⟨A,nA,cA⟩,hsA⟩:∃ s,sl2 3=s:=⟨_,rfl⟩
   have c7:=hl2.cell (k:=3) (by decide)
   have hob:=hl2.ob 3 (by decide) (by decide)
   rw[hsA] at c7 hob
   have hnA:nA=(bs2 3).length:=hob.1
   have hnb:(bs2 3).length≤20000000:=by have h:=hb2.b 3;simp only at h;omega
   obtain⟨mm,hmm⟩:∃ mm,min r (bs2 3).length=mm:=⟨_,rfl⟩
   have hpb:(pk2 4).length≤20000000:=by have h:=hb2.w 4;have h2:=congrArg List.length (hw2 4);rw[List.length_map] at h2;simp only at h h2;omega
   have HL:=Lib.hid (And.intro hl2 (And.intro hw2 (And.intro hnb (And.intro hmm (And.intro hk2 (And.intro hb2 hs2))))))
   have HN:=Lib.hid hpb
   clear hl2 hw2 hk2 hb2 hs2 hsA hob hnb hmm hpb
   by_cases he:bs2 3=[]
   ·obtain rfl:nA=0:=by rw[hnA,he];rfl
    clear hnA
    go_wp2
    go_roundw
    case rel=>exact⟨2,F2,by decide,by go_num,by
     rw[show packN r (t+1+dl) 2 (bs,wy)=packK r (t+1+dl) 3 (packN r (t+1+dl) 1 (bs,wy)) from rfl,HL.out.2.2.2.2.2.2,packK,if_pos he]
     exact⟨_,_,HL.out.1,HL.out.2.1⟩,HL.out.2.2.2.2.1,by
     rw[show packN r (t+1+dl) 2 (bs,wy)=packK r (t+1+dl) 3 (packN r (t+1+dl) 1 (bs,wy)) from rfl,HL.out.2.2.2.2.2.2]
     exact (HL.out.2.2.2.2.2.1.pack hrb)⟩
    case measure=>simp[intOf]
   ·have hn0:0<nA:=by rw[hnA];exact List.length_pos_iff.2 he
    have hn1:(0:Int)<(nA:Int):=by omega
    clear hnA
    go_wp2
    refine AnyO.wp_anyI (by kernel_rfl) (by kernel_rfl) (AnyO.InvG (σ:=(Option Addr×Nat)×SlV×List Nat×Nat) (fun σ=>AnyO.pvL [some (.pointer (some ⟨b,10,none⟩)),some (.pointer (some ⟨b,10,none⟩)),some (.pointer (some ⟨b,10,none⟩)),some (.pointer (some ⟨b,0,none⟩)),some (.pointer (some ⟨b,0,none⟩)),some (.pointer (some ⟨b,0,none⟩)),some (.pointer (some ⟨b,0,none⟩)),some (.int .i64 (r:Int)),some (.slice σ.1.1 mm σ.1.2),some (.pointer (some ⟨b,0,none⟩)),some (.pointer (some ⟨b,0,none⟩)),some (.pointer (some ⟨b,4,none⟩)),some (.int .i64 (t:Int)),some (.int .i64 ((t:Int)+1)),some (.pointer (some ⟨b,0,none⟩)),some (.pointer (some ⟨b,0,none⟩)),some (.pointer (some ⟨b,0,none⟩)),some (.pointer (some ⟨b,1,none⟩)),some (.int .i64 (dl:Int)),some (.int .i64 ((t:Int)+1+(dl:Int))),some (vPk ((σ.1.1,mm,σ.1.2),(t:Int)+1+(dl:Int))),some (.pointer (some ⟨σ.2.2.2,0,none⟩)),none]) (fun σ D u=>PM b c sl2 bs2 pk2 F2 3 r mm ((t:Int)+1+(dl:Int)) wr σ (D 8) (D 21) (D 22) u)) (AnyO.InvG.start (g:=((none,0),(none,0,0),[],0)) (PM.start (below_drew wr))) ?_ ?_
    ·intro i hi
     have hi2:i=8∨i=21∨i=22∨i=0∨i=1∨i=2∨i=3∨i=4∨i=5∨i=6∨i=7∨i=9∨i=10∨i=11∨i=12∨i=13∨i=14∨i=15∨i=16∨i=17∨i=18∨i=19∨i=20:=by simp only[List.size_toArray,List.length_cons,List.length_nil] at hi;omega
     clear hi
     rcases hi2 with rfl|rfl|rfl|rfl|rfl|rfl|rfl|rfl|rfl|rfl|rfl|rfl|rfl|rfl|rfl|rfl|rfl|rfl|rfl|rfl|rfl|rfl|rfl
     ·refine AnyO.I rfl [2,7] ?_;rintro D vs u σ Q h0 hC hp ac hb K hK
      have s30:_=_:=AnyO.sv 30 2 hb hp Q
      have s35:_=_:=AnyO.sv 35 7 hb hp Q
      have hf20:=AnyO.fls (hC.out 20) h0 (by kernel_rfl)
      have hf22:=AnyO.fls (hC.out 22) hf20 (by kernel_rfl)
      have hst:=Q.out.2
      rw[h0,hf22] at hst
      have HST:=Lib.hid hst
      clear hst
      go_simp
      go_at_call 76
      refine (take76 b c sl2 bs2 pk2 F2 3 r u (HL.out.1.keep (HST.out.s0 rfl)) (by decide) (by decide) (by omega) (by have:=HL.out.2.2.1;omega) 10 rfl).mono ?_
      rintro e w2 ⟨A,c',v,F',rfl,ho,hl,hk,hf⟩
      rw[HL.out.2.2.2.1] at ho ⊢
      refine hK _ _ (AnyO.InvG.ghost (g:=σ) ((A,c'),v,F',σ.2.2.2) Q.out.1 ?_ rfl ?_)
      ·intro j hj hq
       rcases j with _|_|_|_|_|_|_|_|_|_|_|_|_|_|_|_|_|_|_|_|_|_|_|j
       all_goals first|exact hq|exact absurd (show D 8=true from hj) (by rw[h0];decide)|exact absurd (show D 20=true from hj) (by rw[hf20];decide)|exact absurd (show D 22=true from hj) (by rw[hf22];decide)
      rw[show AnyO.addD D 8 8=true from rfl,show AnyO.addD D 8 21=D 21 from rfl,show AnyO.addD D 8 22=D 22 from rfl,hf22]
      exact HST.out.took HL.out.1.lt A c' v F' ho hl hk hf
     ·refine AnyO.I rfl [] ?_;rintro D vs u σ Q h0 hC hp ac hb K hK
      have hf22:=AnyO.fls (hC.out 22) h0 (by kernel_rfl)
      have hst:=Q.out.2
      rw[h0,hf22] at hst
      have HST:=Lib.hid hst
      clear hst
      go_simp
      refine hK _ _ (AnyO.InvG.ghost (g:=σ) (σ.1,σ.2.1,σ.2.2.1,u.heap.size) Q.out.1 ?_ rfl ?_)
      ·intro j hj hq
       rcases j with _|_|_|_|_|_|_|_|_|_|_|_|_|_|_|_|_|_|_|_|_|_|_|j
       all_goals first|exact hq|exact absurd (show D 21=true from hj) (by rw[h0];decide)|exact absurd (show D 22=true from hj) (by rw[hf22];decide)
      rw[show AnyO.addD D 21 21=true from rfl,show AnyO.addD D 21 8=D 8 from rfl,show AnyO.addD D 21 22=D 22 from rfl,hf22]
      exact HST.out.made
     ·refine AnyO.I rfl [21,20,8,0,1,2,3,4,5,6,7,8,9,10,11,12,13,14,15,16,17,18,19,20,21] ?_;rintro D vs u σ Q h0 hC hp ac hb K hK
      have s4:_=_:=AnyO.sv 4 21 hb hp Q
      have s48:_=_:=AnyO.sv 48 20 hb hp Q
      have hp8:D 8=true:=hp.out 8 (by decide)
      have hp21:D 21=true:=hp.out 21 (by decide)
      have hst:=Q.out.2
      rw[hp8,hp21,h0] at hst
      have rr1:=Row.rowOk' (hst.s2 rfl).1 (cPk_length _)
      have HST:=Lib.hid hst
      clear hst
      go_simp
      exact hK undef _ (AnyO.InvG.step (g:=σ) Q.out.1 trivial (by rw[show AnyO.addD D 22 8=D 8 from rfl,hp8,show AnyO.addD D 22 21=D 21 from rfl,hp21,show AnyO.addD D 22 22=true from rfl];exact HST.out.put HL.out.1.lt))
     all_goals
      refine AnyO.J rfl ?_;rintro D vs u σ Q h0 hC hp ac hb K hK
      try have s3:ac.tmps[3]?.getD undef=.pointer (some ⟨b,10,none⟩):=by rw[hb.out];kernel_rfl
      try have s28:_=_:=AnyO.sv 28 0 hb hp Q
      try have s29:_=_:=AnyO.sv 29 1 hb hp Q
      try have s0:ac.tmps[0]?.getD undef=.pointer (some ⟨b,0,none⟩):=by rw[hb.out];kernel_rfl
      try have s31:_=_:=AnyO.sv 31 3 hb hp Q
      try have s32:_=_:=AnyO.sv 32 4 hb hp Q
      try have s33:_=_:=AnyO.sv 33 5 hb hp Q
      try have s34:_=_:=AnyO.sv 34 6 hb hp Q
      try have s37:_=_:=AnyO.sv 37 9 hb hp Q
      try have s38:_=_:=AnyO.sv 38 10 hb hp Q
      try have s39:_=_:=AnyO.sv 39 11 hb hp Q
      try have s40:_=_:=AnyO.sv 40 12 hb hp Q
      try have s42:_=_:=AnyO.sv 42 14 hb hp Q
      try have s43:_=_:=AnyO.sv 43 15 hb hp Q
      try have s44:_=_:=AnyO.sv 44 16 hb hp Q
      try have s45:_=_:=AnyO.sv 45 17 hb hp Q
      try have s41:_=_:=AnyO.sv 41 13 hb hp Q
      try have s46:_=_:=AnyO.sv 46 18 hb hp Q
      try have s36:_=_:=AnyO.sv 36 8 hb hp Q
      try have s47:_=_:=AnyO.sv 47 19 hb hp Q
      have rr_0:=Q.out.2.cell HL.out.1 (i:=0) (v:=.int .i64 c.cf.rate) (fun s=>rfl)
      rw[HR.out.1] at rr_0
      have rr_1:=Q.out.2.cell HL.out.1 (i:=4) (v:=.int .i64 c.now) (fun s=>rfl)
      rw[HR.out.2.2.1] at rr_1
      have rr_2:IntKind.i64.wrap ((t:Int)+1)=(t:Int)+1:=IntWalk.i64_in _ (by omega)
      have rr_3:=Q.out.2.cell HL.out.1 (i:=1) (v:=.int .i64 c.cf.delay) (fun s=>rfl)
      rw[HR.out.2.1] at rr_3
      have rr_4:IntKind.i64.wrap ((t:Int)+1+(dl:Int))=(t:Int)+1+(dl:Int):=IntWalk.i64_in _ (by omega)
      go_simp
      exact hK _ _ (AnyO.InvG.step (g:=σ) Q.out.1 rfl Q.out.2)
    ·intro D vs u hI hD
     obtain⟨σ,hP,hW⟩:=hI
     have e0:_=_:=hP 0 (hD 0 (by decide))
     have e1:_=_:=hP 1 (hD 1 (by decide))
     have e2:_=_:=hP 2 (hD 2 (by decide))
     have e3:_=_:=hP 3 (hD 3 (by decide))
     have e4:_=_:=hP 4 (hD 4 (by decide))
     have e5:_=_:=hP 5 (hD 5 (by decide))
     have e6:_=_:=hP 6 (hD 6 (by decide))
     have e7:_=_:=hP 7 (hD 7 (by decide))
     have e8:_=_:=hP 8 (hD 8 (by decide))
     have e9:_=_:=hP 9 (hD 9 (by decide))
     have e10:_=_:=hP 10 (hD 10 (by decide))
     have e11:_=_:=hP 11 (hD 11 (by decide))
     have e12:_=_:=hP 12 (hD 12 (by decide))
     have e13:_=_:=hP 13 (hD 13 (by decide))
     have e14:_=_:=hP 14 (hD 14 (by decide))
     have e15:_=_:=hP 15 (hD 15 (by decide))
     have e16:_=_:=hP 16 (hD 16 (by decide))
     have e17:_=_:=hP 17 (hD 17 (by decide))
     have e18:_=_:=hP 18 (hD 18 (by decide))
     have e19:_=_:=hP 19 (hD 19 (by decide))
     have e20:_=_:=hP 20 (hD 20 (by decide))
     have e21:_=_:=hP 21 (hD 21 (by decide))
     rw[show D 8=true from hD 8 (by decide),show D 21=true from hD 21 (by decide),show D 22=true from hD 22 (by decide)] at hW
     have HW:=Lib.hid hW
     clear hW hP hD
     rw[puts_range [some 28,some 29,some 30,some 31,some 32,some 33,some 34,some 35,some 36,some 37,some 38,some 39,some 40,some 41,some 42,some 43,some 44,some 45,some 46,some 47,some 48,some 4,none] (by kernel_rfl)]
     simp only[putL,Nat.reduceAdd,e0,e1,e2,e3,e4,e5,e6,e7,e8,e9,e10,e11,e12,e13,e14,e15,e16,e17,e18,e19,e20,e21]
     clear e0 e1 e2 e3 e4 e5 e6 e7 e8 e9 e10 e11 e12 e13 e14 e15 e16 e17 e18 e19 e20 e21
     obtain⟨⟨A0,c0⟩,v0,F3,g0⟩:=σ
     have hm3:=HW.out
     obtain⟨hl3,hk3,ho3,hf3⟩:=hm3.s1 rfl
     obtain⟨hrow,hg0⟩:=hm3.s2 rfl
     obtain⟨hgF,hgA⟩:=hm3.s3 rfl rfl
     have hrow:Row u g0 (cPk ((A0,mm,c0),(t:Int)+1+(dl:Int))) 162:=hrow
     obtain⟨sl3,hsl3⟩:∃ s,upd sl2 3 v0=s:=⟨_,rfl⟩
     obtain⟨bs3,hbs3⟩:∃ s,upd bs2 3 ((bs2 3).drop r)=s:=⟨_,rfl⟩
     have hl3:LnR b c (upd sl2 3 v0) (upd bs2 3 ((bs2 3).drop r)) pk2 F3 u:=hl3
     rw[hsl3,hbs3] at hl3
     obtain⟨⟨A1,n1,cp1⟩,hs1⟩:∃ s,sl3 4=s:=⟨_,rfl⟩
     have hpl:=hl3.op 4 (by decide) (by decide)
     rw[hs1] at hpl
     have hn1:n1=(pk2 4).length:=by have h:=hpl.1;rwa[List.length_map] at h
     have H3:=Lib.hid (And.intro hl3 (And.intro hk3 (And.intro ho3 (And.intro hf3 (And.intro hrow (And.intro hs1 (And.intro hbs3 (And.intro hn1 hpl))))))))
     clear hl3 hk3 ho3 hf3 hrow hg0 hgF hgA hs1 hsl3 hm3 hn1 hpl HW hbs3
     obtain⟨pp,hpp⟩:∃ pp:Pkt,(((A0,mm,c0),(bs2 3).take r,t+1+dl):Pkt)=pp:=⟨_,rfl⟩
     have hpk:pkC pp=((A0,mm,c0),(t:Int)+1+(dl:Int)):=by rw[← hpp];simp[pkC]
     have HPP:=Lib.hid (And.intro hpp hpk)
     clear hpp hpk
     go_simp
     go_wp2
     have hpk1:Sl u c1 pp.1.1 pp.2.1:=by rw[← HPP.out.1];exact (Os.of_own c1_len H3.out.2.2.1).sl (fun x=>List.cons_ne_nil _ _)
     have hpk2:pp.1.2.1=pp.2.1.length:=by rw[← HPP.out.1];show mm=((bs2 3).take r).length;rw[List.length_take];exact HL.out.2.2.2.1.symm
     have hpk3:∀ g,blkA pp.1.1=some g→g∈blkL (A0,mm,c0):=by rw[← HPP.out.1];exact fun g hg=>mem_blkL.2 hg
     have hpk4:∀ g∈blkL (A0,mm,c0),g<u.heap.size∧g∉F3:=fun g hg=>⟨(own_blk H3.out.2.2.1 (mem_blkL.1 hg)).2,fun hm=>by have:=(own_blk H3.out.2.2.1 (mem_blkL.1 hg)).1;have:=HL.out.1.lt g (H3.out.2.2.2.1 g hm);omega⟩
     have HPK:=Lib.hid (And.intro hpk1 (And.intro hpk2 (And.intro hpk3 hpk4)))
     clear hpk1 hpk2 hpk3 hpk4
     refine AnyO.wp_anyI (by kernel_rfl) (by kernel_rfl) (AnyO.InvG (σ:=Nat×SlV) (fun σ=>AnyO.pvL [some (.pointer (some ⟨b,10,none⟩)),some (.pointer (some ⟨b,10,none⟩)),some (.pointer (some ⟨b,10,none⟩)),some (.pointer (some ⟨b,11,none⟩)),some (.slice A1 n1 cp1),some (vPk (pkC pp)),some (.slice (some ⟨σ.1,0,none⟩) 1 1),some (.slice σ.2.1 σ.2.2.1 σ.2.2.2),some (.pointer (some ⟨b,10,none⟩)),some (.pointer (some ⟨b,11,none⟩)),none]) (fun σ' D u'=>PA b c sl3 bs3 pk2 F3 4 pp (blkL (A0,mm,c0)) u σ' (D 6) (D 7) (D 10) u')) (AnyO.InvG.start (g:=(0,(none,0,0))) (PA.start (below_drew u))) ?_ ?_
     ·intro i hi
      have hi2:i=4∨i=5∨i=6∨i=7∨i=10∨i=0∨i=1∨i=2∨i=3∨i=8∨i=9:=by simp only[List.size_toArray,List.length_cons,List.length_nil] at hi;omega
      clear hi
      rcases hi2 with rfl|rfl|rfl|rfl|rfl|rfl|rfl|rfl|rfl|rfl|rfl
      ·refine AnyO.I rfl [3] ?_;rintro D vs u σ Q h0 hC hp ac hb K hK
       have s52:_=_:=AnyO.sv 52 3 hb hp Q
       have hf7:=AnyO.fls (hC.out 7) h0 (by kernel_rfl)
       have hf10:=AnyO.fls (hC.out 10) hf7 (by kernel_rfl)
       have hst:=Q.out.2
       rw[hf10] at hst
       have rr:=((hst.row H3.out.1 (by decide)).cell 11).trans (cLi_sl _ sl3 (k:=4) (by decide))
       rw[H3.out.2.2.2.2.2.1] at rr
       have rr2:u.cell? ⟨b,11,none⟩=some (.slice A1 n1 cp1):=rr
       clear hst rr
       go_simp;exact hK _ _ (AnyO.InvG.step (g:=σ) Q.out.1 rfl Q.out.2)
      ·refine AnyO.I rfl [] ?_;rintro D vs u σ Q h0 hC hp ac hb K hK
       have s4:=AnyO.sz (v:=.pointer (some ⟨g0,0,none⟩)) 4 hb
       have hf6:=AnyO.fls (hC.out 6) h0 (by kernel_rfl)
       have hf7:=AnyO.fls (hC.out 7) hf6 (by kernel_rfl)
       have hst:=Q.out.2
       rw[hf7] at hst
       have rw0:=Row.okw (H3.out.2.2.2.2.1.keep (hst.s0 rfl)) (cPk_length _)
       have rr1:=rw0.1
       have rr2:rdA u ⟨g0,0,none⟩ 2=vPk (pkC pp):=by rw[HPP.out.2];exact rw0.2
       clear hst rw0
       go_simp;exact hK _ _ (AnyO.InvG.step (g:=σ) Q.out.1 rfl Q.out.2)
      ·refine AnyO.I rfl [5] ?_;rintro D vs u σ Q h0 hC hp ac hb K hK
       have s54:_=_:=AnyO.sv 54 5 hb hp Q
       have hf7:=AnyO.fls (hC.out 7) h0 (by kernel_rfl)
       have hf10:=AnyO.fls (hC.out 10) hf7 (by kernel_rfl)
       have hst:=Q.out.2
       rw[h0,hf7,hf10] at hst
       have HST:=Lib.hid hst
       clear hst
       go_simp
       refine hK _ _ (AnyO.InvG.ghost (g:=σ) (u.heap.size,σ.2) Q.out.1 ?_ rfl ?_)
       ·intro j hj hq
        rcases j with _|_|_|_|_|_|_|_|_|_|_|j
        all_goals first|exact hq|exact absurd (show D 6=true from hj) (by rw[h0];decide)|exact absurd (show D 7=true from hj) (by rw[hf7];decide)|exact absurd (show D 10=true from hj) (by rw[hf10];decide)
       rw[show AnyO.addD D 6 6=true from rfl,show AnyO.addD D 6 7=D 7 from rfl,hf7,show AnyO.addD D 6 10=D 10 from rfl,hf10]
       exact HST.out.one
      ·refine AnyO.I rfl [4,6] ?_;rintro D vs u σ Q h0 hC hp ac hb K hK
       have s53:_=_:=AnyO.sv 53 4 hb hp Q
       have s55:_=_:=AnyO.sv 55 6 hb hp Q
       have hp6:D 6=true:=hp.out 6 (by decide)
       have hf10:=AnyO.fls (hC.out 10) h0 (by kernel_rfl)
       have hst:=Q.out.2
       rw[hp6,h0,hf10] at hst
       have hos:=H3.out.2.2.2.2.2.2.2.2.keep (hst.s0 rfl)
       refine wp_append_os u (.tmp 53) (.tmp 55) 95 rfl 32 Tryz.underlying95 rowPK (by decide) cPk_length cPk_one (ev_tmp s53) hos _ 1 1 [pkC pp] rfl (ev_tmp s55) (hst.s1 rfl rfl) (by have:=HN.out;have:=H3.out.2.2.2.2.2.2.2.1;omega) (by have:=HN.out;have:=H3.out.2.2.2.2.2.2.2.1;omega) ?_
       intro A2 c2 w2 ho2 hg2
       refine hK _ _ (AnyO.InvG.ghost (g:=σ) (σ.1,A2,n1+1,c2) Q.out.1 ?_ rfl ?_)
       ·intro j hj hq
        rcases j with _|_|_|_|_|_|_|_|_|_|_|j
        all_goals first|exact hq|exact absurd (show D 7=true from hj) (by rw[h0];decide)|exact absurd (show D 10=true from hj) (by rw[hf10];decide)
       rw[show AnyO.addD D 7 6=D 6 from rfl,hp6,show AnyO.addD D 7 7=true from rfl,show AnyO.addD D 7 10=D 10 from rfl,hf10]
       refine hst.apped (by rw[List.map_append];exact ho2) ?_
       have e1:(sl3 4).1=A1:=by rw[H3.out.2.2.2.2.2.1]
       rw[e1]
       exact hg2
      ·refine AnyO.I rfl [9,7,7,0,1,2,3,4,5,6,7] ?_;rintro D vs u σ Q h0 hC hp ac hb K hK
       have s58:_=_:=AnyO.sv 58 9 hb hp Q
       have s56:_=_:=AnyO.sv 56 7 hb hp Q
       have hp6:D 6=true:=hp.out 6 (by decide)
       have hp7:D 7=true:=hp.out 7 (by decide)
       have hst:=Q.out.2
       rw[hp6,hp7,h0] at hst
       have rrw:=hst.row H3.out.1 (by decide)
       have rr1:=rrw.fz 11
       have rr2:=(rrw.cell 11).trans (cLi_sl _ sl3 (k:=4) (by decide))
       have HST:=Lib.hid hst
       clear hst rrw
       go_simp
       exact hK undef _ (AnyO.InvG.step (g:=σ) Q.out.1 trivial (by rw[show AnyO.addD D 10 6=D 6 from rfl,hp6,show AnyO.addD D 10 7=D 7 from rfl,hp7,show AnyO.addD D 10 10=true from rfl];exact HST.out.stored H3.out.1 (by decide) (by decide) HPK.out.1 HPK.out.2.1 HPK.out.2.2.1 HPK.out.2.2.2))
      all_goals
       refine AnyO.J rfl ?_;rintro D vs u σ Q h0 hC hp ac hb K hK
       try have s3:ac.tmps[3]?.getD undef=.pointer (some ⟨b,10,none⟩):=by rw[hb.out];kernel_rfl
       try have s50:_=_:=AnyO.sv 50 1 hb hp Q
       try have s51:_=_:=AnyO.sv 51 2 hb hp Q
       try have s49:_=_:=AnyO.sv 49 0 hb hp Q
       try have s57:_=_:=AnyO.sv 57 8 hb hp Q
       go_simp
       exact hK _ _ (AnyO.InvG.step (g:=σ) Q.out.1 rfl Q.out.2)
     ·intro D vs u hI hD
      obtain⟨σ,hP,hW⟩:=hI
      have e0:_=_:=hP 0 (hD 0 (by decide))
      have e1:_=_:=hP 1 (hD 1 (by decide))
      have e2:_=_:=hP 2 (hD 2 (by decide))
      have e3:_=_:=hP 3 (hD 3 (by decide))
      have e4:_=_:=hP 4 (hD 4 (by decide))
      have e5:_=_:=hP 5 (hD 5 (by decide))
      have e6:_=_:=hP 6 (hD 6 (by decide))
      have e7:_=_:=hP 7 (hD 7 (by decide))
      have e8:_=_:=hP 8 (hD 8 (by decide))
      have e9:_=_:=hP 9 (hD 9 (by decide))
      rw[show D 6=true from hD 6 (by decide),show D 7=true from hD 7 (by decide),show D 10=true from hD 10 (by decide)] at hW
      have HW:=Lib.hid hW
      clear hW hP hD
      rw[puts_range [some 49,some 50,some 51,some 52,some 53,some 54,some 55,some 56,some 57,some 58,none] (by kernel_rfl)]
      simp only[putL,Nat.reduceAdd,e0,e1,e2,e3,e4,e5,e6,e7,e8,e9]
      clear e0 e1 e2 e3 e4 e5 e6 e7 e8 e9
      obtain⟨F4,hl4,hk4⟩:=HW.out.s3 rfl rfl
      have hfr:=HW.out.fr
      have H4:=Lib.hid (And.intro hl4 (And.intro hk4 (And.intro hfr HW.out.sz)))
      clear hl4 hk4 hfr HW
      go_simp
      go_wp2
      go_roundw
      case rel=>exact⟨2,F4,by decide,by go_num,by
       rw[show packN r (t+1+dl) 2 (bs,wy)=packK r (t+1+dl) 3 (packN r (t+1+dl) 1 (bs,wy)) from rfl,HL.out.2.2.2.2.2.2,packK,if_neg he]
       refine⟨_,_,by rw[H3.out.2.2.2.2.2.2.1];exact H4.out.1,fun j=>?_⟩
       simp only[upd]
       split
       ·rw[List.map_append,HL.out.2.1,List.map_singleton,← HPP.out.1]
       ·exact HL.out.2.1 j,HL.out.2.2.2.2.1.trans ⟨H4.out.2.2.1.1.trans H3.out.2.1.os,H4.out.2.2.1.2.1.trans H3.out.2.1.tape,H4.out.2.2.1.2.2.trans H3.out.2.1.output,Nat.le_trans H3.out.2.1.size H4.out.2.2.2,fun g hg hF=>⟨(H4.out.2.1 g (Nat.lt_of_lt_of_le hg H3.out.2.1.size) (H3.out.2.1.out g hg hF).1).1 (fun hm=>by have:=(own_blk H3.out.2.2.1 (mem_blkL.1 hm)).1;omega),(H4.out.2.1 g (Nat.lt_of_lt_of_le hg H3.out.2.1.size) (H3.out.2.1.out g hg hF).1).2.trans (H3.out.2.1.out g hg hF).2⟩⟩,by
       rw[show packN r (t+1+dl) 2 (bs,wy)=packK r (t+1+dl) 3 (packN r (t+1+dl) 1 (bs,wy)) from rfl,HL.out.2.2.2.2.2.2]
       exact (HL.out.2.2.2.2.2.1.pack hrb)⟩
      case measure=>simp[intOf]
  ·have hl4:=hl2.row.cell 4
   have f4:=hl2.row.fz 4
   have c4:wr.cell? ⟨b,4,none⟩=some (.int .i64 (t:Int)):=by rw[hl4,← HR.out.2.2.1];rfl
   have rr:IntKind.i64.wrap ((t:Int)+1)=(t:Int)+1:=IntWalk.i64_in _ (by omega)
   obtain⟨c3,hc3⟩:∃ c3:Lc,{ c with now:=(t:Int)+1 }=c3:=⟨_,rfl⟩
   have hl3:=hl2.flag c3 (by rw[← hc3]) (i:=4) (v:=.int .i64 ((t:Int)+1)) (by rw[← hc3];rfl)
   have hk3:=hk2.trans (Kp.setCell F2 wr hl2.bF 4 (.int .i64 ((t:Int)+1)))
   have HL:=Lib.hid (And.intro hl3 (And.intro hw2 (And.intro hk3 (And.intro hb2 (And.intro hs2 hc3)))))
   clear hl2 hw2 hk2 hb2 hs2 hl3 hk3 hl4 hc3
   go_wp2
   go_loopw [67] (fun i wr=>∃ (n:Nat) (F':List Nat),n≤2∧i=.int .i64 (n:Int)∧LnAt b c3 (arrN (t+1) n (bs2,wy2)).1 (arrN (t+1) n (bs2,wy2)).2 F' wr∧Kp F F' w wr∧FlB ((n+1) * (n+1) * 20000000) (arrN (t+1) n (bs2,wy2))) (fun i _=>2 - (intOf i).toNat)
   case atStart=>exact⟨0,F2,by decide,rfl,⟨_,_,HL.out.1,HL.out.2.1⟩,HL.out.2.2.1,⟨fun k=>Nat.le_trans (HL.out.2.2.2.1.b k) (by decide),fun k=>Nat.le_trans (HL.out.2.2.2.1.w k) (by decide),fun k=>Nat.le_trans (HL.out.2.2.2.1.m k) (by decide)⟩⟩
   case round =>
    clear c4 f4 rr k2
    obtain⟨n,F3,hn,rfl,⟨sl3,pk3,hl3,hw3⟩,hk3,hb3⟩:=hrel
    obtain⟨⟨bs3,wy3⟩,hs3⟩:∃ s,arrN (t+1) n (bs2,wy2)=s:=⟨_,rfl⟩
    rw[hs3] at hl3 hw3 hb3
    have H3:=Lib.hid (And.intro hl3 (And.intro hw3 (And.intro hk3 (And.intro hb3 hs3))))
    clear hl3 hw3 hk3 hb3 hs3
    obtain rfl|rfl|rfl:n=0∨n=1∨n=2:=by omega
    ·obtain⟨wo,rfl⟩:∃ x,x=wr:=⟨_,rfl⟩
     go_wp2
     go_quiet (fail)
     go_wp2
     go_loopw [] (fun wr4=>∃ (m:Nat) (F4:List Nat),m≤(wy3 1).length∧(∀ q∈(wy3 1).take m,q.2≤t+1)∧LnAt b c3 (upd bs3 5 (bs3 5++((wy3 1).take m).flatMap (·.1))) (upd wy3 1 ((wy3 1).drop m)) F4 wr4∧Kp F3 F4 wo wr4) (fun wr4=>wayLen b 8 wr4)
     case atStart =>
      refine⟨0,F3,Nat.zero_le _,by simp,⟨sl3,pk3,?_,fun j=>?_⟩,Kp.of_below (below_drewN _ _)⟩
      ·rw[List.take_zero,List.flatMap_nil,List.append_nil,upd_self]
       exact H3.out.1.keep (below_drewN _ _)
      ·rw[List.drop_zero,upd_self]
       exact H3.out.2.1 j
     case round =>
      obtain⟨m,F4,hm,hq,⟨sl4,pk4,hl4,hw4⟩,hk4⟩:=hrel
      obtain⟨bs4,hbs4⟩:∃ s,upd bs3 5 (bs3 5++((wy3 1).take m).flatMap (·.1))=s:=⟨_,rfl⟩
      rw[hbs4] at hl4
      have hv:(pk4 1).map (·.2)=(wy3 1).drop m:=by rw[hw4,upd_same]
      obtain⟨⟨A4,n4,cp4⟩,hsu⟩:∃ s,sl4 1=s:=⟨_,rfl⟩
      have c8:=hl4.cell (k:=1) (by decide)
      have hop:=hl4.op 1 (by decide) (by decide)
      have hrd:=hl4.rd 1 (by decide) (by decide)
      rw[hsu] at c8 hop
      have c4:wr.cell? ⟨b,4,none⟩=some (.int .i64 ((t:Int)+1)):=(hl4.row.cell 4).trans (by rw[← HL.out.2.2.2.2.2];rfl)
      have H4:=Lib.hid (And.intro hl4 (And.intro hw4 (And.intro hk4 (And.intro hq hbs4))))
      clear hl4 hw4 hk4 hq hbs4
      rcases hpk:pk4 1 with _|⟨q,rest⟩
      ·rw[hpk] at hv hop
       obtain rfl:n4=0:=hop.1
       have he:=dlv_done (t+1) m (wy3 1) H4.out.2.2.2.1 (fun x r h=>by rw[← hv] at h;cases h)
       have HE:=Lib.hid (And.intro he hpk)
       clear hv hop hrd he hpk hm
       go_wp2
       go_quiet (fail)
       go_wp2
       go_roundw
       case rel=>exact⟨1,F4,by decide,by go_num,by
        rw[show arrN (t+1) 1 (bs2,wy2)=arrK (t+1) 1 5 (arrN (t+1) 0 (bs2,wy2)) from rfl,H3.out.2.2.2.2,arrK,HE.out.1]
        refine⟨sl4,pk4,?_,fun j=>?_⟩
        ·rw[H4.out.2.2.2.2]
         exact H4.out.1.keep (below_drewN _ _)
        ·exact H4.out.2.1 j,(H3.out.2.2.1.trans H4.out.2.2.1).trans (Kp.of_below (below_drewN _ _)),by
        rw[show arrN (t+1) 1 (bs2,wy2)=arrK (t+1) 1 5 (arrN (t+1) 0 (bs2,wy2)) from rfl,H3.out.2.2.2.2]
        have h:=H3.out.2.2.2.1.arr (now:=t+1) (u:=1) (a:=5)
        exact⟨fun k=>Nat.le_trans (h.b k) (by decide),fun k=>Nat.le_trans (h.w k) (by decide),fun k=>Nat.le_trans (h.m k) (by decide)⟩⟩
       case measure=>simp[intOf]
      ·rw[hpk] at hv hop hrd
       obtain⟨g4,o4,rfl,c9p,c10p⟩:=hop.pk0
       have hn4:n4=rest.length+1:=by have h:=hop.1;rwa[List.length_map,List.length_cons] at h
       have hn4p:(0:Int)<(n4:Int):=by omega
       have hop0:=hop.2.1
       have hn4q:0<n4:=by omega
       by_cases hgt:q.2.2≤t+1
       case neg =>
        have hgi:decide ((q.2.2:Int)≤(t:Int)+1)=false:=decide_eq_false (by omega)
        have he:=dlv_done (t+1) m (wy3 1) H4.out.2.2.2.1 (fun x r h=>by rw[← hv] at h;injection h with h1 h2;rw[← h1];exact hgt)
        have HE:=Lib.hid (And.intro he hpk)
        clear hv hop hrd he hpk hm hgt hop0 c9p
        have c10:wr.cell? ⟨g4,o4+1,none⟩=some (.int .i64 (q.2.2:Int)):=c10p
        clear c10p
        go_wp2
        go_quiet (fail)
        go_wp2
        go_roundw
        case rel=>exact⟨1,F4,by decide,by go_num,by
         rw[show arrN (t+1) 1 (bs2,wy2)=arrK (t+1) 1 5 (arrN (t+1) 0 (bs2,wy2)) from rfl,H3.out.2.2.2.2,arrK,HE.out.1]
         refine⟨sl4,pk4,?_,fun j=>?_⟩
         ·rw[H4.out.2.2.2.2]
          exact H4.out.1.keep (below_drewN _ _)
         ·exact H4.out.2.1 j,(H3.out.2.2.1.trans H4.out.2.2.1).trans (Kp.of_below (below_drewN _ _)),by
         rw[show arrN (t+1) 1 (bs2,wy2)=arrK (t+1) 1 5 (arrN (t+1) 0 (bs2,wy2)) from rfl,H3.out.2.2.2.2]
         have h:=H3.out.2.2.2.1.arr (now:=t+1) (u:=1) (a:=5)
         exact⟨fun k=>Nat.le_trans (h.b k) (by decide),fun k=>Nat.le_trans (h.w k) (by decide),fun k=>Nat.le_trans (h.m k) (by decide)⟩⟩
        case measure=>simp[intOf]
       case pos =>
        have hgi:decide ((q.2.2:Int)≤(t:Int)+1)=true:=decide_eq_true (by omega)
        obtain⟨⟨A5,n5,c5⟩,hsa⟩:∃ s,sl4 5=s:=⟨_,rfl⟩
        have c11:=H4.out.1.cell (k:=5) (by decide)
        have hob:=H4.out.1.ob 5 (by decide) (by decide)
        rw[hsa] at c11 hob
        have hqm:q.2∈wy3 1:=List.mem_of_mem_drop (i:=m) (by rw[← hv];simp)
        have hb1:=H3.out.2.2.2.1.b 5
        have hb2:=H3.out.2.2.2.1.m 1
        have hb3:=mem_len _ _ hqm
        have hb4:=flat_len m (wy3 1)
        have hn5:n5+q.1.2.1≤2000000000:=by
         rw[(hrd q (by simp)).2]
         have h:n5=(bs4 5).length:=hob.1
         rw[← H4.out.2.2.2.2,upd_same,List.length_append] at h
         simp only at hb1 hb2
         omega
        have HS5:=Lib.hid (And.intro hsa hn5)
        have HS4:=Lib.hid (And.intro hsu (And.intro hn4 hpk))
        have HQ:=Lib.hid (And.intro (hrd q (by simp)).1 (And.intro (hrd q (by simp)).2 (And.intro hv hgt)))
        have c9:wr.cell? ⟨g4,o4,none⟩=some (.slice q.1.1 q.1.2.1 q.1.2.2):=c9p
        have HC4:=Lib.hid (And.intro c11 (And.intro c8 c9))
        have c10:wr.cell? ⟨g4,o4+1,none⟩=some (.int .i64 (q.2.2:Int)):=c10p
        clear c10p
        clear hv hop hrd hpk hgt c9p hob hqm hb1 hb2 hb3 hb4 hn5 hsa hsu c11
        go_wp2
        go_quiet (fail)
        clear hn4
        go_wp2
        refine AnyO.wp_anyI (by kernel_rfl) (by kernel_rfl) (AnyO.InvG (σ:=SlV) (fun σ=>AnyO.pvL [some (.pointer (some ⟨b,10,none⟩)),some (.pointer (some ⟨b,10,none⟩)),some (.pointer (some ⟨b,10,none⟩)),some (.pointer (some ⟨b,12,none⟩)),some (.slice A5 n5 c5),some (.pointer (some ⟨b,7,none⟩)),some (.pointer (some ⟨b,7,none⟩)),some (.pointer (some ⟨b,8,none⟩)),some (.slice (some ⟨g4,o4,none⟩) n4 cp4),some (.pointer (some ⟨g4,o4,none⟩)),some (.pointer (some ⟨g4,o4,none⟩)),some (.slice q.1.1 q.1.2.1 q.1.2.2),some (.slice σ.1 σ.2.1 σ.2.2),some (.pointer (some ⟨b,10,none⟩)),some (.pointer (some ⟨b,12,none⟩)),none]) (fun σ D u=>SB b c3 sl4 bs4 pk4 F4 5 (bs4 5++q.2.1) wr σ u (D 12) (D 15))) (AnyO.InvG.start (g:=(none,0,0)) (Below.step (below_drewN _ _) (below_drew _))) ?_ ?_
        ·intro i hi
         have hi2:i=4∨i=8∨i=11∨i=12∨i=15∨i=0∨i=1∨i=2∨i=3∨i=5∨i=6∨i=7∨i=9∨i=10∨i=13∨i=14:=by simp only[List.size_toArray,List.length_cons,List.length_nil] at hi;omega
         clear hi
         rcases hi2 with rfl|rfl|rfl|rfl|rfl|rfl|rfl|rfl|rfl|rfl|rfl|rfl|rfl|rfl|rfl|rfl
         ·refine AnyO.I rfl [3] ?_;rintro D vs u σ Q h0 hC hp ac hb K hK
          have s104:_=_:=AnyO.sv 104 3 hb hp Q
          have hf12:=AnyO.fls (hC.out 12) h0 (by kernel_rfl)
          have hst:=Q.out.2
          rw[hf12] at hst
          have rr:=cell_below HC4.out.1 hst
          clear hst
          go_simp;exact hK _ _ (AnyO.InvG.step (g:=σ) Q.out.1 rfl Q.out.2)
         ·refine AnyO.I rfl [7] ?_;rintro D vs u σ Q h0 hC hp ac hb K hK
          have s108:_=_:=AnyO.sv 108 7 hb hp Q
          have hf9:=AnyO.fls (hC.out 9) h0 (by kernel_rfl)
          have hf10:=AnyO.fls (hC.out 10) hf9 (by kernel_rfl)
          have hf11:=AnyO.fls (hC.out 11) hf10 (by kernel_rfl)
          have hf12:=AnyO.fls (hC.out 12) hf11 (by kernel_rfl)
          have hst:=Q.out.2
          rw[hf12] at hst
          have rr:=cell_below HC4.out.2.1 hst
          clear hst
          go_simp;exact hK _ _ (AnyO.InvG.step (g:=σ) Q.out.1 rfl Q.out.2)
         ·refine AnyO.I rfl [10] ?_;rintro D vs u σ Q h0 hC hp ac hb K hK
          have s111:_=_:=AnyO.sv 111 10 hb hp Q
          have hf12:=AnyO.fls (hC.out 12) h0 (by kernel_rfl)
          have hst:=Q.out.2
          rw[hf12] at hst
          have rr:=cell_below HC4.out.2.2 hst
          clear hst
          go_simp;exact hK _ _ (AnyO.InvG.step (g:=σ) Q.out.1 rfl Q.out.2)
         ·refine AnyO.I rfl [4,11] ?_;rintro D vs u σ Q h0 hC hp ac hb K hK
          have s105:_=_:=AnyO.sv 105 4 hb hp Q
          have s112:_=_:=AnyO.sv 112 11 hb hp Q
          have hf15:=AnyO.fls (hC.out 15) h0 (by kernel_rfl)
          have hst:=Q.out.2
          rw[h0] at hst
          have hos:=(H4.out.1.ob 5 (by decide) (by decide)).keep hst
          rw[HS5.out.1] at hos
          refine wp_append_os u (.tmp 105) (.tmp 112) 94 rfl 1 Tryz.underlying94 rowU8 (by decide) c1_len c1_one (ev_tmp s105) hos _ _ _ q.2.1 HQ.out.2.1.symm (ev_tmp s112) (HQ.out.1.keep hst) (by have:=HS5.out.2;omega) (by have:=HS5.out.2;omega) ?_
          intro A2 c2 w2 ho2 hg2
          rw[show A5=(sl4 5).1 by rw[HS5.out.1]] at hg2
          refine hK _ _ (AnyO.InvG.ghost (g:=σ) (A2,n5+q.1.2.1,c2) Q.out.1 ?_ rfl ?_)
          ·intro j hj hq
           rcases j with _|_|_|_|_|_|_|_|_|_|_|_|_|_|_|_|j
           all_goals first|exact hq|exact absurd (show D 12=true from hj) (by rw[h0];decide)|exact absurd (show D 15=true from hj) (by rw[hf15];decide)
          rw[show AnyO.addD D 12 12=true from rfl,show AnyO.addD D 12 15=D 15 from rfl,hf15]
          exact SB.grew hst ho2 hg2
         ·refine AnyO.I rfl [14,12,12,0,1,2,3,4,5,6,7,8,9,10,11,12] ?_;rintro D vs u σ Q h0 hC hp ac hb K hK
          have s115:_=_:=AnyO.sv 115 14 hb hp Q
          have s113:_=_:=AnyO.sv 113 12 hb hp Q
          have hp12:D 12=true:=hp.out 12 (by decide)
          have hst:=Q.out.2
          rw[hp12,h0] at hst
          have rr1:=setB_rok (k:=5) H4.out.1 (by decide) hst 12
          have rr2:=setB_cell (k:=5) H4.out.1 (by decide) hst
          have HST:=Lib.hid hst
          clear hst
          go_simp
          exact hK undef _ (AnyO.InvG.step (g:=σ) Q.out.1 trivial (by rw[show AnyO.addD D 15 12=D 12 from rfl,hp12,show AnyO.addD D 15 15=true from rfl];exact SB.stored (k:=5) H4.out.1 (by decide) (by decide) HST.out))
         all_goals
          refine AnyO.J rfl ?_;rintro D vs u σ Q h0 hC hp ac hb K hK
          try have s7:ac.tmps[7]?.getD undef=.pointer (some ⟨b,10,none⟩):=by rw[hb.out];kernel_rfl
          try have s102:_=_:=AnyO.sv 102 1 hb hp Q
          try have s103:_=_:=AnyO.sv 103 2 hb hp Q
          try have s6:ac.tmps[6]?.getD undef=.pointer (some ⟨b,7,none⟩):=by rw[hb.out];kernel_rfl
          try have s106:_=_:=AnyO.sv 106 5 hb hp Q
          try have s107:_=_:=AnyO.sv 107 6 hb hp Q
          try have s109:_=_:=AnyO.sv 109 8 hb hp Q
          try have s110:_=_:=AnyO.sv 110 9 hb hp Q
          try have s101:_=_:=AnyO.sv 101 0 hb hp Q
          try have s114:_=_:=AnyO.sv 114 13 hb hp Q
          go_simp
          exact hK _ _ (AnyO.InvG.step (g:=σ) Q.out.1 rfl Q.out.2)
        ·intro D vs u hI hD
         obtain⟨σ,hP,hW⟩:=hI
         have e0:_=_:=hP 0 (hD 0 (by decide))
         have e1:_=_:=hP 1 (hD 1 (by decide))
         have e2:_=_:=hP 2 (hD 2 (by decide))
         have e3:_=_:=hP 3 (hD 3 (by decide))
         have e4:_=_:=hP 4 (hD 4 (by decide))
         have e5:_=_:=hP 5 (hD 5 (by decide))
         have e6:_=_:=hP 6 (hD 6 (by decide))
         have e7:_=_:=hP 7 (hD 7 (by decide))
         have e8:_=_:=hP 8 (hD 8 (by decide))
         have e9:_=_:=hP 9 (hD 9 (by decide))
         have e10:_=_:=hP 10 (hD 10 (by decide))
         have e11:_=_:=hP 11 (hD 11 (by decide))
         have e12:_=_:=hP 12 (hD 12 (by decide))
         have e13:_=_:=hP 13 (hD 13 (by decide))
         have e14:_=_:=hP 14 (hD 14 (by decide))
         rw[show D 12=true from hD 12 (by decide),show D 15=true from hD 15 (by decide)] at hW
         have HW:=Lib.hid hW
         clear hW hP hD
         rw[puts_range [some 101,some 102,some 103,some 104,some 105,some 106,some 107,some 108,some 109,some 110,some 111,some 112,some 113,some 114,some 115,none] (by kernel_rfl)]
         simp only[putL,Nat.reduceAdd,e0,e1,e2,e3,e4,e5,e6,e7,e8,e9,e10,e11,e12,e13,e14]
         clear e0 e1 e2 e3 e4 e5 e6 e7 e8 e9 e10 e11 e12 e13 e14
         obtain⟨hl5,hk5⟩:=HW.out
         have c6:=hl5.cell (k:=1) (by decide)
         rw[upd_ne _ _ (show 1≠5 by decide),HS4.out.1] at c6
         have f6:=hl5.row.fz 8
         have H5:=Lib.hid (And.intro hl5 hk5)
         have h1n:(1:Int)≤(n4:Int):=by omega
         clear hl5 hk5 HW
         go_simp
         obtain⟨F6,hl6,hk6⟩:=H5.out.1.dropP (k:=1) (A:=some ⟨g4,o4,none⟩) (n:=n4) (c':=cp4) (by decide) (by decide) ((upd_ne _ _ (show 1≠5 by decide)).trans HS4.out.1) HS4.out.2.2
         by_cases hc1:cp4=1
         case' pos =>
          subst hc1
          rw[if_pos rfl,show n4 - 1=0 by omega,Nat.sub_self] at hl6 hk6
         case' neg=>rw[if_neg hc1,Option.map_some,add_plain] at hl6 hk6
         all_goals
          go_wp2
          go_roundw
          case rel =>
           obtain⟨t1,t2,t3⟩:=take_next (l:=wy3 1) (m:=m) (q:=q.2) (r:=rest.map (fun x:Pkt=>x.2)) (by rw[← HQ.out.2.2.1];rfl)
           have e1:bs4 5=bs3 5++((wy3 1).take m).flatMap (·.1):=by rw[← H4.out.2.2.2.2,upd_same]
           have e2:upd bs3 5 (bs3 5++((wy3 1).take (m+1)).flatMap (·.1))=upd bs4 5 (bs4 5++q.2.1):=by
            rw[t1,List.flatMap_append,← List.append_assoc,List.flatMap_singleton,← e1]
            rw[← H4.out.2.2.2.2,upd_upd]
           rw[← e2] at hl6
           refine⟨m+1,F6,t3,fun x hx=>?_,⟨_,_,hl6,fun j=>?_⟩,(H4.out.2.2.1.trans H5.out.2).trans hk6⟩
           ·rw[t1] at hx
            rcases List.mem_append.1 hx with hx|hx
            ·exact H4.out.2.2.2.1 x hx
            ·rw[List.mem_singleton.1 hx]
             exact HQ.out.2.2.2
           ·rw[t2]
            have e3:=H4.out.2.1 j
            simp only[upd] at e3 ⊢
            split
            ·rfl
            ·rename_i hne
             rw[if_neg hne] at e3
             exact e3
          case measure =>
           have e4:=hl6.wayLen (k:=1) (by decide) (by decide)
           have e5:=H4.out.1.wayLen (k:=1) (by decide) (by decide)
           rw[upd_same] at e4
           rw[HS4.out.2.2,List.length_cons] at e5
           show wayLen b 8 _<wayLen b 8 _
           rw[show wayLen b 8 wr=rest.length+1 from e5]
           exact Nat.lt_of_le_of_lt (Nat.le_of_eq e4) (Nat.lt_succ_self _)
    ·obtain⟨wo,rfl⟩:∃ x,x=wr:=⟨_,rfl⟩
     go_wp2
     go_quiet (fail)
     go_wp2
     go_loopw [] (fun wr4=>∃ (m:Nat) (F4:List Nat),m≤(wy3 4).length∧(∀ q∈(wy3 4).take m,q.2≤t+1)∧LnAt b c3 (upd bs3 2 (bs3 2++((wy3 4).take m).flatMap (·.1))) (upd wy3 4 ((wy3 4).drop m)) F4 wr4∧Kp F3 F4 wo wr4) (fun wr4=>wayLen b 11 wr4)
     case atStart =>
      refine⟨0,F3,Nat.zero_le _,by simp,⟨sl3,pk3,?_,fun j=>?_⟩,Kp.of_below (below_drewN _ _)⟩
      ·rw[List.take_zero,List.flatMap_nil,List.append_nil,upd_self]
       exact H3.out.1.keep (below_drewN _ _)
      ·rw[List.drop_zero,upd_self]
       exact H3.out.2.1 j
     case round =>
      obtain⟨m,F4,hm,hq,⟨sl4,pk4,hl4,hw4⟩,hk4⟩:=hrel
      obtain⟨bs4,hbs4⟩:∃ s,upd bs3 2 (bs3 2++((wy3 4).take m).flatMap (·.1))=s:=⟨_,rfl⟩
      rw[hbs4] at hl4
      have hv:(pk4 4).map (·.2)=(wy3 4).drop m:=by rw[hw4,upd_same]
      obtain⟨⟨A4,n4,cp4⟩,hsu⟩:∃ s,sl4 4=s:=⟨_,rfl⟩
      have c8:=hl4.cell (k:=4) (by decide)
      have hop:=hl4.op 4 (by decide) (by decide)
      have hrd:=hl4.rd 4 (by decide) (by decide)
      rw[hsu] at c8 hop
      have c4:wr.cell? ⟨b,4,none⟩=some (.int .i64 ((t:Int)+1)):=(hl4.row.cell 4).trans (by rw[← HL.out.2.2.2.2.2];rfl)
      have H4:=Lib.hid (And.intro hl4 (And.intro hw4 (And.intro hk4 (And.intro hq hbs4))))
      clear hl4 hw4 hk4 hq hbs4
      rcases hpk:pk4 4 with _|⟨q,rest⟩
      ·rw[hpk] at hv hop
       obtain rfl:n4=0:=hop.1
       have he:=dlv_done (t+1) m (wy3 4) H4.out.2.2.2.1 (fun x r h=>by rw[← hv] at h;cases h)
       have HE:=Lib.hid (And.intro he hpk)
       clear hv hop hrd he hpk hm
       go_wp2
       go_quiet (fail)
       go_wp2
       go_roundw
       case rel=>exact⟨2,F4,by decide,by go_num,by
        rw[show arrN (t+1) 2 (bs2,wy2)=arrK (t+1) 4 2 (arrN (t+1) 1 (bs2,wy2)) from rfl,H3.out.2.2.2.2,arrK,HE.out.1]
        refine⟨sl4,pk4,?_,fun j=>?_⟩
        ·rw[H4.out.2.2.2.2]
         exact H4.out.1.keep (below_drewN _ _)
        ·exact H4.out.2.1 j,(H3.out.2.2.1.trans H4.out.2.2.1).trans (Kp.of_below (below_drewN _ _)),by
        rw[show arrN (t+1) 2 (bs2,wy2)=arrK (t+1) 4 2 (arrN (t+1) 1 (bs2,wy2)) from rfl,H3.out.2.2.2.2]
        have h:=H3.out.2.2.2.1.arr (now:=t+1) (u:=4) (a:=2)
        exact⟨fun k=>Nat.le_trans (h.b k) (by decide),fun k=>Nat.le_trans (h.w k) (by decide),fun k=>Nat.le_trans (h.m k) (by decide)⟩⟩
       case measure=>simp[intOf]
      ·rw[hpk] at hv hop hrd
       obtain⟨g4,o4,rfl,c9p,c10p⟩:=hop.pk0
       have hn4:n4=rest.length+1:=by have h:=hop.1;rwa[List.length_map,List.length_cons] at h
       have hn4p:(0:Int)<(n4:Int):=by omega
       have hop0:=hop.2.1
       have hn4q:0<n4:=by omega
       by_cases hgt:q.2.2≤t+1
       case neg =>
        have hgi:decide ((q.2.2:Int)≤(t:Int)+1)=false:=decide_eq_false (by omega)
        have he:=dlv_done (t+1) m (wy3 4) H4.out.2.2.2.1 (fun x r h=>by rw[← hv] at h;injection h with h1 h2;rw[← h1];exact hgt)
        have HE:=Lib.hid (And.intro he hpk)
        clear hv hop hrd he hpk hm hgt hop0 c9p
        have c10:wr.cell? ⟨g4,o4+1,none⟩=some (.int .i64 (q.2.2:Int)):=c10p
        clear c10p
        go_wp2
        go_quiet (fail)
        go_wp2
        go_roundw
        case rel=>exact⟨2,F4,by decide,by go_num,by
         rw[show arrN (t+1) 2 (bs2,wy2)=arrK (t+1) 4 2 (arrN (t+1) 1 (bs2,wy2)) from rfl,H3.out.2.2.2.2,arrK,HE.out.1]
         refine⟨sl4,pk4,?_,fun j=>?_⟩
         ·rw[H4.out.2.2.2.2]
          exact H4.out.1.keep (below_drewN _ _)
         ·exact H4.out.2.1 j,(H3.out.2.2.1.trans H4.out.2.2.1).trans (Kp.of_below (below_drewN _ _)),by
         rw[show arrN (t+1) 2 (bs2,wy2)=arrK (t+1) 4 2 (arrN (t+1) 1 (bs2,wy2)) from rfl,H3.out.2.2.2.2]
         have h:=H3.out.2.2.2.1.arr (now:=t+1) (u:=4) (a:=2)
         exact⟨fun k=>Nat.le_trans (h.b k) (by decide),fun k=>Nat.le_trans (h.w k) (by decide),fun k=>Nat.le_trans (h.m k) (by decide)⟩⟩
        case measure=>simp[intOf]
       case pos =>
        have hgi:decide ((q.2.2:Int)≤(t:Int)+1)=true:=decide_eq_true (by omega)
        obtain⟨⟨A5,n5,c5⟩,hsa⟩:∃ s,sl4 2=s:=⟨_,rfl⟩
        have c11:=H4.out.1.cell (k:=2) (by decide)
        have hob:=H4.out.1.ob 2 (by decide) (by decide)
        rw[hsa] at c11 hob
        have hqm:q.2∈wy3 4:=List.mem_of_mem_drop (i:=m) (by rw[← hv];simp)
        have hb1:=H3.out.2.2.2.1.b 2
        have hb2:=H3.out.2.2.2.1.m 4
        have hb3:=mem_len _ _ hqm
        have hb4:=flat_len m (wy3 4)
        have hn5:n5+q.1.2.1≤2000000000:=by
         rw[(hrd q (by simp)).2]
         have h:n5=(bs4 2).length:=hob.1
         rw[← H4.out.2.2.2.2,upd_same,List.length_append] at h
         simp only at hb1 hb2
         omega
        have HS5:=Lib.hid (And.intro hsa hn5)
        have HS4:=Lib.hid (And.intro hsu (And.intro hn4 hpk))
        have HQ:=Lib.hid (And.intro (hrd q (by simp)).1 (And.intro (hrd q (by simp)).2 (And.intro hv hgt)))
        have c9:wr.cell? ⟨g4,o4,none⟩=some (.slice q.1.1 q.1.2.1 q.1.2.2):=c9p
        have HC4:=Lib.hid (And.intro c11 (And.intro c8 c9))
        have c10:wr.cell? ⟨g4,o4+1,none⟩=some (.int .i64 (q.2.2:Int)):=c10p
        clear c10p
        clear hv hop hrd hpk hgt c9p hob hqm hb1 hb2 hb3 hb4 hn5 hsa hsu c11
        go_wp2
        go_quiet (fail)
        clear hn4
        go_wp2
        refine AnyO.wp_anyI (by kernel_rfl) (by kernel_rfl) (AnyO.InvG (σ:=SlV) (fun σ=>AnyO.pvL [some (.pointer (some ⟨b,7,none⟩)),some (.pointer (some ⟨b,7,none⟩)),some (.pointer (some ⟨b,7,none⟩)),some (.pointer (some ⟨b,9,none⟩)),some (.slice A5 n5 c5),some (.pointer (some ⟨b,10,none⟩)),some (.pointer (some ⟨b,10,none⟩)),some (.pointer (some ⟨b,11,none⟩)),some (.slice (some ⟨g4,o4,none⟩) n4 cp4),some (.pointer (some ⟨g4,o4,none⟩)),some (.pointer (some ⟨g4,o4,none⟩)),some (.slice q.1.1 q.1.2.1 q.1.2.2),some (.slice σ.1 σ.2.1 σ.2.2),some (.pointer (some ⟨b,7,none⟩)),some (.pointer (some ⟨b,9,none⟩)),none]) (fun σ D u=>SB b c3 sl4 bs4 pk4 F4 2 (bs4 2++q.2.1) wr σ u (D 12) (D 15))) (AnyO.InvG.start (g:=(none,0,0)) (Below.step (below_drewN _ _) (below_drew _))) ?_ ?_
        ·intro i hi
         have hi2:i=4∨i=8∨i=11∨i=12∨i=15∨i=0∨i=1∨i=2∨i=3∨i=5∨i=6∨i=7∨i=9∨i=10∨i=13∨i=14:=by simp only[List.size_toArray,List.length_cons,List.length_nil] at hi;omega
         clear hi
         rcases hi2 with rfl|rfl|rfl|rfl|rfl|rfl|rfl|rfl|rfl|rfl|rfl|rfl|rfl|rfl|rfl|rfl
         ·refine AnyO.I rfl [3] ?_;rintro D vs u σ Q h0 hC hp ac hb K hK
          have s104:_=_:=AnyO.sv 104 3 hb hp Q
          have hf12:=AnyO.fls (hC.out 12) h0 (by kernel_rfl)
          have hst:=Q.out.2
          rw[hf12] at hst
          have rr:=cell_below HC4.out.1 hst
          clear hst
          go_simp;exact hK _ _ (AnyO.InvG.step (g:=σ) Q.out.1 rfl Q.out.2)
         ·refine AnyO.I rfl [7] ?_;rintro D vs u σ Q h0 hC hp ac hb K hK
          have s108:_=_:=AnyO.sv 108 7 hb hp Q
          have hf9:=AnyO.fls (hC.out 9) h0 (by kernel_rfl)
          have hf10:=AnyO.fls (hC.out 10) hf9 (by kernel_rfl)
          have hf11:=AnyO.fls (hC.out 11) hf10 (by kernel_rfl)
          have hf12:=AnyO.fls (hC.out 12) hf11 (by kernel_rfl)
          have hst:=Q.out.2
          rw[hf12] at hst
          have rr:=cell_below HC4.out.2.1 hst
          clear hst
          go_simp;exact hK _ _ (AnyO.InvG.step (g:=σ) Q.out.1 rfl Q.out.2)
         ·refine AnyO.I rfl [10] ?_;rintro D vs u σ Q h0 hC hp ac hb K hK
          have s111:_=_:=AnyO.sv 111 10 hb hp Q
          have hf12:=AnyO.fls (hC.out 12) h0 (by kernel_rfl)
          have hst:=Q.out.2
          rw[hf12] at hst
          have rr:=cell_below HC4.out.2.2 hst
          clear hst
          go_simp;exact hK _ _ (AnyO.InvG.step (g:=σ) Q.out.1 rfl Q.out.2)
         ·refine AnyO.I rfl [4,11] ?_;rintro D vs u σ Q h0 hC hp ac hb K hK
          have s105:_=_:=AnyO.sv 105 4 hb hp Q
          have s112:_=_:=AnyO.sv 112 11 hb hp Q
          have hf15:=AnyO.fls (hC.out 15) h0 (by kernel_rfl)
          have hst:=Q.out.2
          rw[h0] at hst
          have hos:=(H4.out.1.ob 2 (by decide) (by decide)).keep hst
          rw[HS5.out.1] at hos
          refine wp_append_os u (.tmp 105) (.tmp 112) 94 rfl 1 Tryz.underlying94 rowU8 (by decide) c1_len c1_one (ev_tmp s105) hos _ _ _ q.2.1 HQ.out.2.1.symm (ev_tmp s112) (HQ.out.1.keep hst) (by have:=HS5.out.2;omega) (by have:=HS5.out.2;omega) ?_
          intro A2 c2 w2 ho2 hg2
          rw[show A5=(sl4 2).1 by rw[HS5.out.1]] at hg2
          refine hK _ _ (AnyO.InvG.ghost (g:=σ) (A2,n5+q.1.2.1,c2) Q.out.1 ?_ rfl ?_)
          ·intro j hj hq
           rcases j with _|_|_|_|_|_|_|_|_|_|_|_|_|_|_|_|j
           all_goals first|exact hq|exact absurd (show D 12=true from hj) (by rw[h0];decide)|exact absurd (show D 15=true from hj) (by rw[hf15];decide)
          rw[show AnyO.addD D 12 12=true from rfl,show AnyO.addD D 12 15=D 15 from rfl,hf15]
          exact SB.grew hst ho2 hg2
         ·refine AnyO.I rfl [14,12,12,0,1,2,3,4,5,6,7,8,9,10,11,12] ?_;rintro D vs u σ Q h0 hC hp ac hb K hK
          have s115:_=_:=AnyO.sv 115 14 hb hp Q
          have s113:_=_:=AnyO.sv 113 12 hb hp Q
          have hp12:D 12=true:=hp.out 12 (by decide)
          have hst:=Q.out.2
          rw[hp12,h0] at hst
          have rr1:=setB_rok (k:=2) H4.out.1 (by decide) hst 9
          have rr2:=setB_cell (k:=2) H4.out.1 (by decide) hst
          have HST:=Lib.hid hst
          clear hst
          go_simp
          exact hK undef _ (AnyO.InvG.step (g:=σ) Q.out.1 trivial (by rw[show AnyO.addD D 15 12=D 12 from rfl,hp12,show AnyO.addD D 15 15=true from rfl];exact SB.stored (k:=2) H4.out.1 (by decide) (by decide) HST.out))
         all_goals
          refine AnyO.J rfl ?_;rintro D vs u σ Q h0 hC hp ac hb K hK
          try have s7:ac.tmps[7]?.getD undef=.pointer (some ⟨b,7,none⟩):=by rw[hb.out];kernel_rfl
          try have s102:_=_:=AnyO.sv 102 1 hb hp Q
          try have s103:_=_:=AnyO.sv 103 2 hb hp Q
          try have s6:ac.tmps[6]?.getD undef=.pointer (some ⟨b,10,none⟩):=by rw[hb.out];kernel_rfl
          try have s106:_=_:=AnyO.sv 106 5 hb hp Q
          try have s107:_=_:=AnyO.sv 107 6 hb hp Q
          try have s109:_=_:=AnyO.sv 109 8 hb hp Q
          try have s110:_=_:=AnyO.sv 110 9 hb hp Q
          try have s101:_=_:=AnyO.sv 101 0 hb hp Q
          try have s114:_=_:=AnyO.sv 114 13 hb hp Q
          go_simp
          exact hK _ _ (AnyO.InvG.step (g:=σ) Q.out.1 rfl Q.out.2)
        ·intro D vs u hI hD
         obtain⟨σ,hP,hW⟩:=hI
         have e0:_=_:=hP 0 (hD 0 (by decide))
         have e1:_=_:=hP 1 (hD 1 (by decide))
         have e2:_=_:=hP 2 (hD 2 (by decide))
         have e3:_=_:=hP 3 (hD 3 (by decide))
         have e4:_=_:=hP 4 (hD 4 (by decide))
         have e5:_=_:=hP 5 (hD 5 (by decide))
         have e6:_=_:=hP 6 (hD 6 (by decide))
         have e7:_=_:=hP 7 (hD 7 (by decide))
         have e8:_=_:=hP 8 (hD 8 (by decide))
         have e9:_=_:=hP 9 (hD 9 (by decide))
         have e10:_=_:=hP 10 (hD 10 (by decide))
         have e11:_=_:=hP 11 (hD 11 (by decide))
         have e12:_=_:=hP 12 (hD 12 (by decide))
         have e13:_=_:=hP 13 (hD 13 (by decide))
         have e14:_=_:=hP 14 (hD 14 (by decide))
         rw[show D 12=true from hD 12 (by decide),show D 15=true from hD 15 (by decide)] at hW
         have HW:=Lib.hid hW
         clear hW hP hD
         rw[puts_range [some 101,some 102,some 103,some 104,some 105,some 106,some 107,some 108,some 109,some 110,some 111,some 112,some 113,some 114,some 115,none] (by kernel_rfl)]
         simp only[putL,Nat.reduceAdd,e0,e1,e2,e3,e4,e5,e6,e7,e8,e9,e10,e11,e12,e13,e14]
         clear e0 e1 e2 e3 e4 e5 e6 e7 e8 e9 e10 e11 e12 e13 e14
         obtain⟨hl5,hk5⟩:=HW.out
         have c6:=hl5.cell (k:=4) (by decide)
         rw[upd_ne _ _ (show 4≠2 by decide),HS4.out.1] at c6
         have f6:=hl5.row.fz 11
         have H5:=Lib.hid (And.intro hl5 hk5)
         have h1n:(1:Int)≤(n4:Int):=by omega
         clear hl5 hk5 HW
         go_simp
         obtain⟨F6,hl6,hk6⟩:=H5.out.1.dropP (k:=4) (A:=some ⟨g4,o4,none⟩) (n:=n4) (c':=cp4) (by decide) (by decide) ((upd_ne _ _ (show 4≠2 by decide)).trans HS4.out.1) HS4.out.2.2
         by_cases hc1:cp4=1
         case' pos =>
          subst hc1
          rw[if_pos rfl,show n4 - 1=0 by omega,Nat.sub_self] at hl6 hk6
         case' neg=>rw[if_neg hc1,Option.map_some,add_plain] at hl6 hk6
         all_goals
          go_wp2
          go_roundw
          case rel =>
           obtain⟨t1,t2,t3⟩:=take_next (l:=wy3 4) (m:=m) (q:=q.2) (r:=rest.map (fun x:Pkt=>x.2)) (by rw[← HQ.out.2.2.1];rfl)
           have e1:bs4 2=bs3 2++((wy3 4).take m).flatMap (·.1):=by rw[← H4.out.2.2.2.2,upd_same]
           have e2:upd bs3 2 (bs3 2++((wy3 4).take (m+1)).flatMap (·.1))=upd bs4 2 (bs4 2++q.2.1):=by
            rw[t1,List.flatMap_append,← List.append_assoc,List.flatMap_singleton,← e1]
            rw[← H4.out.2.2.2.2,upd_upd]
           rw[← e2] at hl6
           refine⟨m+1,F6,t3,fun x hx=>?_,⟨_,_,hl6,fun j=>?_⟩,(H4.out.2.2.1.trans H5.out.2).trans hk6⟩
           ·rw[t1] at hx
            rcases List.mem_append.1 hx with hx|hx
            ·exact H4.out.2.2.2.1 x hx
            ·rw[List.mem_singleton.1 hx]
             exact HQ.out.2.2.2
           ·rw[t2]
            have e3:=H4.out.2.1 j
            simp only[upd] at e3 ⊢
            split
            ·rfl
            ·rename_i hne
             rw[if_neg hne] at e3
             exact e3
          case measure =>
           have e4:=hl6.wayLen (k:=4) (by decide) (by decide)
           have e5:=H4.out.1.wayLen (k:=4) (by decide) (by decide)
           rw[upd_same] at e4
           rw[HS4.out.2.2,List.length_cons] at e5
           show wayLen b 11 _<wayLen b 11 _
           rw[show wayLen b 11 wr=rest.length+1 from e5]
           exact Nat.lt_of_le_of_lt (Nat.le_of_eq e4) (Nat.lt_succ_self _)
    ·obtain⟨A0,cw,hA0,hA1, -, -, -⟩:=H3.out.1.win
     have HCN:=Lib.hid (show ∀ u,Below wr.heap.size wr u→Calls Tryz.prog 35 #[vCf c3.cf,.int .i64 ((t:Int)+1)] u (fun e w'=>e=.returned (.bool true)∧Below u.heap.size u w') from fun u hu=>connected35 c3.cf A0 cw hA0 (by rw[← HL.out.2.2.2.2.2];exact HR.out.2.2.2) (t+1) u (hA1.keep hu))
     have HCC:=Lib.hid (show c3.now=(t:Int)+1 by rw[← HL.out.2.2.2.2.2])
     have HUP:=Lib.hid (show c3.up=true by rw[← HL.out.2.2.2.2.2];exact hup0.out)
     clear hA0 hA1
     go_wp2
     refine AnyO.wp_anyI (by kernel_rfl) (by kernel_rfl) (AnyO.InvG (σ:=Unit) (fun σ=>AnyO.pvL [some (.pointer (some ⟨b,0,none⟩)),some (.pointer (some ⟨b,0,none⟩)),some (.pointer (some ⟨b,0,none⟩)),some (vCf c3.cf),some (.pointer (some ⟨b,0,none⟩)),some (.pointer (some ⟨b,0,none⟩)),some (.pointer (some ⟨b,4,none⟩)),some (.int .i64 ((t:Int)+1)),some (.bool true),some (.bool true)]) (fun _ D u=>Below wr.heap.size wr u)) (AnyO.InvG.start (g:=()) (below_drew _)) ?_ ?_
     ·intro i hi
      have hi2:i=8∨i=0∨i=1∨i=2∨i=3∨i=4∨i=5∨i=6∨i=7∨i=9:=by simp only[List.size_toArray,List.length_cons,List.length_nil] at hi;omega
      clear hi
      rcases hi2 with rfl|rfl|rfl|rfl|rfl|rfl|rfl|rfl|rfl|rfl
      ·refine AnyO.I rfl [3,7] ?_;rintro D vs u σ Q h0 hC hp ac hb K hK
       have s128:_=_:=AnyO.sv 128 3 hb hp Q
       have s132:_=_:=AnyO.sv 132 7 hb hp Q
       go_simp
       go_at_call 35
       refine (HCN.out u Q.out.2).mono ?_
       rintro e w2 ⟨rfl,hb⟩
       exact hK _ _ (AnyO.InvG.step (g:=σ) Q.out.1 rfl (Below.step Q.out.2 hb))
      all_goals
       refine AnyO.J rfl ?_;rintro D vs u σ Q h0 hC hp ac hb K hK
       try have s0:ac.tmps[0]?.getD undef=.pointer (some ⟨b,0,none⟩):=by rw[hb.out];kernel_rfl
       try have s125:_=_:=AnyO.sv 125 0 hb hp Q
       try have s126:_=_:=AnyO.sv 126 1 hb hp Q
       try have s127:_=_:=AnyO.sv 127 2 hb hp Q
       try have s129:_=_:=AnyO.sv 129 4 hb hp Q
       try have s130:_=_:=AnyO.sv 130 5 hb hp Q
       try have s131:_=_:=AnyO.sv 131 6 hb hp Q
       try have s133:_=_:=AnyO.sv 133 8 hb hp Q
       obtain⟨rr1_0,rr2_0⟩:=(H3.out.1.keep Q.out.2).cf
       have rr_1:=(H3.out.1.keep Q.out.2).row.cell 4
       rw[show (cLi (c3,sl3))[4]? = some (.int .i64 c3.now) from rfl,HCC.out] at rr_1
       go_simp
       exact hK _ _ (AnyO.InvG.step (g:=σ) Q.out.1 rfl Q.out.2)
     ·intro D vs u hI hD
      obtain⟨σ,hP,hW⟩:=hI
      have e0:_=_:=hP 0 (hD 0 (by decide))
      have e1:_=_:=hP 1 (hD 1 (by decide))
      have e2:_=_:=hP 2 (hD 2 (by decide))
      have e3:_=_:=hP 3 (hD 3 (by decide))
      have e4:_=_:=hP 4 (hD 4 (by decide))
      have e5:_=_:=hP 5 (hD 5 (by decide))
      have e6:_=_:=hP 6 (hD 6 (by decide))
      have e7:_=_:=hP 7 (hD 7 (by decide))
      have e8:_=_:=hP 8 (hD 8 (by decide))
      have e9:_=_:=hP 9 (hD 9 (by decide))
      have HW:=Lib.hid hW
      clear hW hP hD
      rw[puts_range [some 125,some 126,some 127,some 128,some 129,some 130,some 131,some 132,some 133,some 8] (by kernel_rfl)]
      simp only[putL,Nat.reduceAdd,e0,e1,e2,e3,e4,e5,e6,e7,e8,e9]
      clear e0 e1 e2 e3 e4 e5 e6 e7 e8 e9
      have c55:=(H3.out.1.keep HW.out).row.cell 5
      rw[show (cLi (c3,sl3))[5]? = some (.bool c3.up) from rfl,HUP.out] at c55
      go_simp
      go_wp2
      go_end0
      refine⟨rfl,F3,⟨sl3,pk3,?_,?_⟩,H3.out.2.2.1.trans (Kp.of_below HW.out)⟩
      ·rw[HL.out.2.2.2.2.1,H3.out.2.2.2.2,show ({ c with now:=((t+1:Nat):Int) }:Lc)=c3 from HL.out.2.2.2.2.2]
       exact H3.out.1.keep HW.out
      ·rw[HL.out.2.2.2.2.1,H3.out.2.2.2.2]
       exact H3.out.2.1
end Go.Proofs.YtdkjgcfhepplbaaGreatDoor
