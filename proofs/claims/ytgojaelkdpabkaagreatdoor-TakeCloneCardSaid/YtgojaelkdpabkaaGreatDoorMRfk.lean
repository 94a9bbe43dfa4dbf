/- The reference's Find. -/
import Derived.Test.YtgojaelkdpabkaaGreatDoorMTkr
namespace Go.Proofs.YtgojaelkdpabkaaGreatDoor
open Go.RowKit
set_option maxRecDepth 100000 in
set_option maxHeartbeats 1600000 in
theorem refFind49 (A:Option Addr) (c:Nat) (l:List Pt) (x:Id) (w:World) (hl:Sl w cA A l) (hn:l.length≤1000000) :
  Calls Tryz.prog 49 #[.slice A l.length c,vI x] w fun e w'=>e=.returned (.int .i64 (idxL l x))∧Below w.heap.size w w':=by
 obtain⟨b,hb⟩:∃ b,w.heap.size=b:=⟨_,rfl⟩
 have H1:=Lib.hid (And.intro (show Row (w.alloc (.cells (aI x) 29)) b (cI x) 29 by rw[← hb];exact Row.new w (cI x) _) (And.intro (hl.keep (below_alloc w (.cells (aI x) 29))) (below_alloc w (.cells (aI x) 29))))
 obtain⟨W1,hW1⟩:∃ W1,w.alloc (.cells (aI x) 29)=W1:=⟨_,rfl⟩
 rw[hW1] at H1
 clear hl
 go_enter Tryz.func49,Tryz.ntmps49
 go_wp2
 go_loopw [5] (fun i wr=>∃ k:Nat,i=.int .i64 k∧k≤l.length∧(∀ j (hj:j<k) (hj2:j<l.length),l[j].id≠x)∧Below W1.heap.size W1 wr) (fun i _=>l.length+1 - (intOf i).toNat)
 case atStart=>exact⟨0,rfl,Nat.zero_le _,fun j hj=>absurd hj (Nat.not_lt_zero _),Below.refl _ _⟩
 case round =>
  obtain⟨k,rfl,hk,hp,hb2⟩:=hrel
  by_cases hlt:k<l.length
  ·have hlt1:(k:Int)<(l.length:Int):=by omega
   obtain⟨ad,rfl, -, -,hat⟩:=Sl.pt (H1.out.2.1.keep hb2) hlt
   obtain⟨ok1,rd1⟩:=hat.id
   obtain⟨p,hpp⟩:∃ p,l[k]=p:=⟨_,rfl⟩
   rw[hpp] at rd1
   have rr:=Row.okw (H1.out.1.keep hb2) (cI_length x)
   have r1:=rr.1
   have r2:rdA wr ⟨b,0,none⟩ 32=vI x:=rr.2
   have HP:=Lib.hid hpp
   have HB:=Lib.hid (And.intro hp (Below.step H1.out.2.2 hb2))
   have HB2:=Lib.hid hb2
   clear hp hb2 hpp hat rr
   by_cases hx:p.id=x
   ·have hd:decide (p.id=x)=true:=decide_eq_true hx
    have HN:=Lib.hid (idx_some (pos_hit (l:=l) (x:=x) hlt (fun j hj=>HB.out.1 j hj (by omega)) (by rw[HP.out];exact hx)))
    clear hx
    go_wp2
    go_quiet (fail)
    go_wp2
    go_ret
    exact⟨by rw[HN.out];rfl,Below.step HB.out.2 (below_drewN _ _)⟩
   ·have hd:decide (p.id=x)=false:=decide_eq_false hx
    have HXX:=Lib.hid hx
    clear hx
    go_wp2
    go_quiet (fail)
    go_wp2
    go_roundw
    case rel =>
     refine⟨k+1,by go_num,by omega,fun j hj hj2=>?_,Below.step HB2.out (below_drewN _ _)⟩
     rcases Nat.lt_succ_iff_lt_or_eq.1 hj with h|h
     ·exact HB.out.1 j h hj2
     ·subst h
      rw[HP.out]
      exact HXX.out
    case measure=>simp[intOf] <;> omega
  ·have hlt1:¬ (k:Int)<(l.length:Int):=by omega
   have HN:=Lib.hid (idx_none (pos_none (l:=l) (x:=x) fun j hj=>hp j (by omega) hj))
   have HB:=Lib.hid (Below.step H1.out.2.2 hb2)
   clear hp hb2
   go_wp2
   go_ret
   exact⟨by rw[HN.out];rfl,by rw[← hb];exact HB.out⟩
open Go.RowKit
def withoutI (l:List Pt) (i:Int):List Pt:=if i<0 then l else l.take i.toNat++l.drop (i.toNat+1)
set_option maxRecDepth 100000 in
set_option maxHeartbeats 3200000 in
theorem refWithout73 (A:Option Addr) (c:Nat) (l:List Pt) (i:Int) (w:World) (hl:Sl w cA A l) (hc:l.length≤c) (hn:l.length≤1000000) (hi:i<(l.length:Int)) (hi0:-1≤i) :
  Calls Tryz.prog 73 #[.slice A l.length c,.int .i64 i] w fun e w'=>∃ A' c',e=.returned (.slice A' (withoutI l i).length c')∧Own w' w.heap.size 98 35 cA (.slice A' (withoutI l i).length c') (withoutI l i)∧Below w.heap.size w w':=by
 obtain⟨n,hnn⟩:∃ n,l.length=n:=⟨_,rfl⟩
 by_cases h0:i<0
 ·have HWI:=Lib.hid (show withoutI l i=l by unfold withoutI;rw[if_pos h0])
  have HL:=Lib.hid hl
  rw[hnn]
  clear hl
  go_enter Tryz.func73,Tryz.ntmps73
  go_wp2_with (at_builtin;refine wpList_append_sl _ rfl (.tmp 7) (.tmp 8) 58 rfl w.heap.size 98 35 64 cA underRAs rowRA (by decide) cA_length cA_one _ [] rfl (Own.new0 w w.heap.size _ 35 cA cA_length (Nat.le_refl _)) A n c l hnn rfl (HL.out.keep (below_alloc _ _)) (by simp;omega) (by simp;omega) (below_alloc w (.cells (aAs []) 98)).size ?_)
  intro v2 w2 ho hg
  have hb2:=Own.grew (Own.new0 w w.heap.size 98 35 cA cA_length (Nat.le_refl _)) hg (below_alloc w _) (Nat.le_refl _) (below_alloc w _).size
  obtain⟨A2,c2,rfl,hc2,hs2⟩:=Own.sl ho
  have HO:=Lib.hid (And.intro ho hb2)
  clear ho hb2 hg
  go_wp2
  go_ret
  rw[HWI.out]
  exact⟨_,_,rfl,HO.out.1,HO.out.2⟩
 ·obtain⟨k,rfl⟩:∃ k:Nat,i=(k:Int):=⟨i.toNat,by omega⟩
  have HE:=Lib.hid (show withoutI l (k:Int)=l.take k++l.drop (k+1) by unfold withoutI;rw[if_neg h0,Int.toNat_natCast])
  obtain⟨ad,rfl, -⟩:=hl (by intro e;subst e;simp at hi;omega)
  have hk:k<n:=by omega
  have hkb:k<1000000:=by omega
  have hcut:=Sl.cut cA_length hl (c:=c) (k:=k+1) hc
  rw[hnn]
  have htk:(l.take k).length=k:=by rw[List.length_take];omega
  have hkc:(k:Int)≤(c:Int):=by omega
  have hkn:(k:Int)+1≤(n:Int):=by omega
  have hnc:(n:Int)≤(c:Int):=by omega
  by_cases hc1:c=k+1
  ·rw[if_pos hc1] at hcut
   subst hc1
   obtain rfl:n=k+1:=by omega
   have HL:=Lib.hid (And.intro (hl.take k) (And.intro hcut htk))
   have HHL:=Lib.hid hl
   clear hl hcut
   go_enter Tryz.func73,Tryz.ntmps73
   go_wp2
   ·skip
    refine AnyO.wp_any_tail 9 (by kernel_rfl) (by kernel_rfl) (by kernel_rfl) (by kernel_rfl) (by kernel_rfl) (by kernel_rfl) (pstP [isOwn0G (α:=Pt) w.heap.size 98 35 cA,isV (.slice (some ad) (k+1) (k+1)),isV (.int .i64 (k:Int)),isV (.slice (some ad) k (k+1)),isOwnG w.heap.size 98 35 cA (l.take k),isV (.slice (some ad) (k+1) (k+1)),isV (.int .i64 (k:Int)),isV (.int .i64 ((k:Int)+1)),isV (.slice (some ad) 0 0)]) (MonoL.cons (Mono.own0G _ _ _ _) (MonoL.cons (Mono.v _) (MonoL.cons (Mono.v _) (MonoL.cons (Mono.v _) (MonoL.cons (Mono.ownG _ _ _ _ _) (MonoL.cons (Mono.v _) (MonoL.cons (Mono.v _) (MonoL.cons (Mono.v _) (MonoL.cons (Mono.v _) MonoL.nil))))))))) ?_ ?_
    ·intro i hi
     have hi2:i=4∨i=0∨i=1∨i=2∨i=3∨i=5∨i=6∨i=7∨i=8:=by omega
     clear hi
     rcases hi2 with rfl|rfl|rfl|rfl|rfl|rfl|rfl|rfl|rfl
     ·refine AnyO.S rfl [0,3] ?_;intro vs u hE hp ac hb K hK
      obtain⟨g10,e10,h10⟩:=hp.out 0 (by decide)
      have s10:ac.tmps[10]?.getD undef=.slice (some ⟨g10,0,none⟩) 0 0:=by rw[hb.out];exact (show _=vs 0 by kernel_rfl).trans e10
      clear e10
      have s13:_=_:=AnyO.sw 13 3 hb hp
      refine wp_append_fresh u (.tmp 10) (.tmp 13) 58 rfl w.heap.size 98 35 64 cA underRAs rowRA (by decide) cA_length g10 (ev_tmp s10) h10 (some ad) k (k+1) (l.take k) HL.out.2.2 (ev_tmp s13) (HL.out.1.keep (Below.step (below_drew _) hE)) (by omega) (by omega) hE.size ?_
      exact fun v w2 h1 h2=>hK _ _ h2 h1
     all_goals
      refine AnyO.T rfl ?_;intro vs u hE hp ac hb K hK
      try have s0:ac.tmps[0]?.getD undef=.slice (some ad) (k+1) (k+1):=by rw[hb.out];kernel_rfl
      try have s1:ac.tmps[1]?.getD undef=.int .i64 (k:Int):=by rw[hb.out];kernel_rfl
      try have s11:_=_:=AnyO.sw 11 1 hb hp
      try have s12:_=_:=AnyO.sw 12 2 hb hp
      try have s16:_=_:=AnyO.sw 16 6 hb hp
      try have s15:_=_:=AnyO.sw 15 5 hb hp
      try have s17:_=_:=AnyO.sw 17 7 hb hp
      have q1_0:(k:Int)≤((k+1):Int):=by omega
      have q2_1:IntKind.i64.wrap ((k:Int)+1)=(k:Int)+1:=by rw[IntKind.wrap_i64];omega
      have q3_2:(k:Int)+1≤((k+1):Int):=by omega
      go_simp
      first|exact hK _ _ (below_alloc _ _) ⟨_,rfl,Own.new0 u w.heap.size 98 35 cA cA_length hE.size⟩|exact hK _ _ (Below.refl _ _) rfl
    ·intro vs u hE hp
     obtain⟨g_0,e0,h_0⟩:=show isOwn0G (α:=Pt) w.heap.size 98 35 cA (vs 0) u from hp 0 (by decide)
     have e1:_=_:=hp 1 (by decide)
     have e2:_=_:=hp 2 (by decide)
     have e3:_=_:=hp 3 (by decide)
     have f4:isOwnG w.heap.size 98 35 cA (l.take k) (vs 4) u:=hp 4 (by decide)
     have e5:_=_:=hp 5 (by decide)
     have e6:_=_:=hp 6 (by decide)
     have e7:_=_:=hp 7 (by decide)
     have e8:_=_:=hp 8 (by decide)
     clear hp
     have HF:=Lib.hid (And.intro f4 hE)
     clear f4 hE
     rw[puts_range [some 10,some 11,some 12,some 13,some 14,some 15,some 16,some 17,some 18] (by kernel_rfl)]
     simp only[putL,Nat.reduceAdd,List.drop_succ_cons,List.drop_zero,e0,e1,e2,e3,e5,e6,e7,e8]
     clear e0 e1 e2 e3 e5 e6 e7 e8
     go_simp
     go_wp2_with (at_builtin;refine wpList_append_sl u rfl (.tmp 14) (.tmp 18) 58 rfl w.heap.size 98 35 64 cA underRAs rowRA (by decide) cA_length cA_one (vs 4) (l.take k) rfl HF.out.1 (some ad) 0 0 (l.drop (k+1)) (by rw[List.length_drop];omega) rfl (HL.out.2.1.keep HF.out.2) (by rw[HL.out.2.2];omega) (by rw[HL.out.2.2];omega) HF.out.2.size ?_)
     intro v2 w2 ho hg
     have hb2:=Own.grew HF.out.1 hg HF.out.2 (Nat.le_refl _) HF.out.2.size
     rw[← HE.out] at ho
     obtain⟨lz,hlz⟩:∃ lz,withoutI l (k:Int)=lz:=⟨_,rfl⟩
     rw[hlz] at ho
     have HLZ:=Lib.hid hlz
     clear hlz
     obtain⟨A2,c2,rfl,hc2,hs2⟩:=Own.sl ho
     have HO:=Lib.hid (And.intro ho hb2)
     clear ho hb2 hg hs2 hc2
     go_wp2
     go_ret
     exact⟨A2,c2,by rw[HLZ.out];rfl,by rw[HLZ.out];exact HO.out.1,HO.out.2⟩
  ·rw[if_neg hc1] at hcut
   rw[show Option.map (fun x:Addr=>x.add ((k+1) * 35)) (some ad)=some (ad.add ((k+1) * 35)) from rfl] at hcut
   have HL:=Lib.hid (And.intro (hl.take k) (And.intro hcut htk))
   have HHL:=Lib.hid hl
   clear hl hcut
   go_enter Tryz.func73,Tryz.ntmps73
   go_wp2
   ·skip
    refine AnyO.wp_any_tail 9 (by kernel_rfl) (by kernel_rfl) (by kernel_rfl) (by kernel_rfl) (by kernel_rfl) (by kernel_rfl) (pstP [isOwn0G (α:=Pt) w.heap.size 98 35 cA,isV (.slice (some ad) n c),isV (.int .i64 (k:Int)),isV (.slice (some ad) k c),isOwnG w.heap.size 98 35 cA (l.take k),isV (.slice (some ad) n c),isV (.int .i64 (k:Int)),isV (.int .i64 ((k:Int)+1)),isV (.slice (some (ad.add ((k+1) * 35))) (n - (k+1)) (c - (k+1)))]) (MonoL.cons (Mono.own0G _ _ _ _) (MonoL.cons (Mono.v _) (MonoL.cons (Mono.v _) (MonoL.cons (Mono.v _) (MonoL.cons (Mono.ownG _ _ _ _ _) (MonoL.cons (Mono.v _) (MonoL.cons (Mono.v _) (MonoL.cons (Mono.v _) (MonoL.cons (Mono.v _) MonoL.nil))))))))) ?_ ?_
    ·intro i hi
     have hi2:i=4∨i=0∨i=1∨i=2∨i=3∨i=5∨i=6∨i=7∨i=8:=by omega
     clear hi
     rcases hi2 with rfl|rfl|rfl|rfl|rfl|rfl|rfl|rfl|rfl
     ·refine AnyO.S rfl [0,3] ?_;intro vs u hE hp ac hb K hK
      obtain⟨g10,e10,h10⟩:=hp.out 0 (by decide)
      have s10:ac.tmps[10]?.getD undef=.slice (some ⟨g10,0,none⟩) 0 0:=by rw[hb.out];exact (show _=vs 0 by kernel_rfl).trans e10
      clear e10
      have s13:_=_:=AnyO.sw 13 3 hb hp
      refine wp_append_fresh u (.tmp 10) (.tmp 13) 58 rfl w.heap.size 98 35 64 cA underRAs rowRA (by decide) cA_length g10 (ev_tmp s10) h10 (some ad) k c (l.take k) HL.out.2.2 (ev_tmp s13) (HL.out.1.keep (Below.step (below_drew _) hE)) (by omega) (by omega) hE.size ?_
      exact fun v w2 h1 h2=>hK _ _ h2 h1
     all_goals
      refine AnyO.T rfl ?_;intro vs u hE hp ac hb K hK
      try have s0:ac.tmps[0]?.getD undef=.slice (some ad) n c:=by rw[hb.out];kernel_rfl
      try have s1:ac.tmps[1]?.getD undef=.int .i64 (k:Int):=by rw[hb.out];kernel_rfl
      try have s11:_=_:=AnyO.sw 11 1 hb hp
      try have s12:_=_:=AnyO.sw 12 2 hb hp
      try have s16:_=_:=AnyO.sw 16 6 hb hp
      try have s15:_=_:=AnyO.sw 15 5 hb hp
      try have s17:_=_:=AnyO.sw 17 7 hb hp
      have q1_0:(k:Int)≤(c:Int):=by omega
      have q2_1:IntKind.i64.wrap ((k:Int)+1)=(k:Int)+1:=by rw[IntKind.wrap_i64];omega
      have q3_2:(k:Int)+1≤(n:Int):=by omega
      go_simp
      first|exact hK _ _ (below_alloc _ _) ⟨_,rfl,Own.new0 u w.heap.size 98 35 cA cA_length hE.size⟩|exact hK _ _ (Below.refl _ _) rfl
    ·intro vs u hE hp
     obtain⟨g_0,e0,h_0⟩:=show isOwn0G (α:=Pt) w.heap.size 98 35 cA (vs 0) u from hp 0 (by decide)
     have e1:_=_:=hp 1 (by decide)
     have e2:_=_:=hp 2 (by decide)
     have e3:_=_:=hp 3 (by decide)
     have f4:isOwnG w.heap.size 98 35 cA (l.take k) (vs 4) u:=hp 4 (by decide)
     have e5:_=_:=hp 5 (by decide)
     have e6:_=_:=hp 6 (by decide)
     have e7:_=_:=hp 7 (by decide)
     have e8:_=_:=hp 8 (by decide)
     clear hp
     have HF:=Lib.hid (And.intro f4 hE)
     clear f4 hE
     rw[puts_range [some 10,some 11,some 12,some 13,some 14,some 15,some 16,some 17,some 18] (by kernel_rfl)]
     simp only[putL,Nat.reduceAdd,List.drop_succ_cons,List.drop_zero,e0,e1,e2,e3,e5,e6,e7,e8]
     clear e0 e1 e2 e3 e5 e6 e7 e8
     go_simp
     go_wp2_with (at_builtin;refine wpList_append_sl u rfl (.tmp 14) (.tmp 18) 58 rfl w.heap.size 98 35 64 cA underRAs rowRA (by decide) cA_length cA_one (vs 4) (l.take k) rfl HF.out.1 (some (ad.add ((k+1) * 35))) (n - (k+1)) (c - (k+1)) (l.drop (k+1)) (by rw[List.length_drop];omega) rfl (HL.out.2.1.keep HF.out.2) (by rw[HL.out.2.2];omega) (by rw[HL.out.2.2];omega) HF.out.2.size ?_)
     intro v2 w2 ho hg
     have hb2:=Own.grew HF.out.1 hg HF.out.2 (Nat.le_refl _) HF.out.2.size
     rw[← HE.out] at ho
     obtain⟨lz,hlz⟩:∃ lz,withoutI l (k:Int)=lz:=⟨_,rfl⟩
     rw[hlz] at ho
     have HLZ:=Lib.hid hlz
     clear hlz
     obtain⟨A2,c2,rfl,hc2,hs2⟩:=Own.sl ho
     have HO:=Lib.hid (And.intro ho hb2)
     clear ho hb2 hg hs2 hc2
     go_wp2
     go_ret
     exact⟨A2,c2,by rw[HLZ.out];rfl,by rw[HLZ.out];exact HO.out.1,HO.out.2⟩
open Go.RowKit
def keepR (l:List Pt) (a:Pt):List Pt:=let m:=withoutI l (idxL l a.id)++[{ a with state:=4 }];if 8<m.length then m.drop (m.length - 8) else m
def keepL (l:List Pt) (a:Pt):List Pt:=if a.state≠2∨a.bytes.size=0 then l else keepR l a
theorem cA_set33 (a:Pt) (n:Int):(cA a).set 33 (.int .i64 n)=cA { a with state:=n }:=by
 unfold cA
 rw[List.set_append_right _ _ (by rw[cI_length];omega),cI_length]
 rfl
theorem cA_set34 (a:Pt) (s:ByteArray):(cA a).set 34 (.string s)=cA { a with bytes:=s }:=by
 unfold cA
 rw[List.set_append_right _ _ (by rw[cI_length];omega),cI_length]
 rfl
theorem row_Aid {w:World} {b:Nat} {a:Pt} {t:TypeId} (h:Row w b (cA a) t):okA w ⟨b,0,none⟩ 32=true∧rdA w ⟨b,0,none⟩ 32=vI a.id:=by
 have:=h.at_ (cA_id a)
 have h1:=this.ok
 have h2:=this.rd
 rw[cI_length] at h1 h2
 exact⟨h1,h2⟩
theorem idx_lt (l:List Pt) (x:Id):idxL l x<(l.length:Int)∧-1≤idxL l x:=by
 cases h:posL l x with
 | none=>rw[idx_none h];omega
 | some k=>obtain⟨hk,_⟩:=pos_some h;rw[idx_some h];omega
theorem withoutI_len (l:List Pt) (i:Int) (h:i<(l.length:Int)):(withoutI l i).length≤l.length∧(0≤i→(withoutI l i).length+1=l.length):=by
 unfold withoutI
 by_cases h0:i<0
 ·rw[if_pos h0];omega
 ·rw[if_neg h0,List.length_append,List.length_take,List.length_drop];omega
def SlP (F:List Nat) (l:List Pt) (w:World):Ending→World→Prop:=fun e w'=>∃ v':SlV,e=.returned (.slice v'.1 v'.2.1 v'.2.2)∧SlF F w' cA v' l∧Below w.heap.size w w'
set_option maxRecDepth 100000 in
set_option maxHeartbeats 3200000 in
theorem refKeep75_yes (F:List Nat) (A0:Option Addr) (c n:Nat) (l:List Pt) (a:Pt) (w:World) (hnn:l.length=n) (h:SlF F w cA (A0,n,c) l) (hFw:∀ k∈F,k<w.heap.size) (hn:n≤8) (hs:a.state=2) (hb:a.bytes.size≠0) :
  Calls Tryz.prog 75 #[.slice A0 n c,vA a] w (SlP F (keepR l a) w):=by
 obtain⟨b,hbb⟩:∃ b,w.heap.size=b:=⟨_,rfl⟩
 have hF:=Lib.hid hFw
 obtain⟨ix,hix⟩:∃ ix,idxL l a.id=ix:=⟨_,rfl⟩
 obtain⟨m,hm⟩:∃ m,withoutI l ix=m:=⟨_,rfl⟩
 have hlt:=idx_lt l a.id
 rw[hix] at hlt
 have hml:=(withoutI_len l ix hlt.1).1
 rw[hm] at hml
 obtain⟨a4,ha4⟩:∃ a4:Pt,{ a with state:=4 }=a4:=⟨_,rfl⟩
 have HK:=Lib.hid (show keepR l a=(if 8<(m++[a4]).length then (m++[a4]).drop ((m++[a4]).length - 8) else m++[a4]) by unfold keepR;rw[hix,hm,ha4])
 have HN:=Lib.hid (And.intro hnn (And.intro hix (And.intro h.2.1 (And.intro hlt.1 (And.intro hlt.2 hm)))))
 have HL:=Lib.hid (And.intro h.2.2.1 (show l.length≤8 by omega))
 have HM:=Lib.hid (show m.length≤8 by omega)
 obtain⟨W2,hW2⟩:∃ W2,(w.alloc (.cells (aA a) 98)).setCell ⟨b,33,none⟩ (.int .i64 4)=W2:=⟨_,rfl⟩
 have hrow:Row (w.alloc (.cells (aA a) 98)) b (cA a) 98:=by rw[← hbb];exact Row.new w (cA a) _
 have HW:=Lib.hid (show Row W2 b (cA a4) 98∧Below w.heap.size w W2 by
  rw[← hW2,← ha4,← cA_set33]
  exact⟨hrow.set 33 _,Below.setCell' (below_alloc _ _) (by rw[hbb];exact Nat.le_refl _) 33 _⟩)
 have hid4:a4.id=a.id:=by rw[← ha4]
 have k33:(w.alloc (.cells (aA a) 98)).cell? ⟨b,33,none⟩=some (.int .i64 2):=by rw[← hs];exact (hrow.cell 33).trans (cA_at (aA_33 a))
 have k34:(w.alloc (.cells (aA a) 98)).cell? ⟨b,34,none⟩=some (.string a.bytes):=(hrow.cell 34).trans (cA_at (aA_34 a))
 have f33:=hrow.fz 33
 have hbe:¬ a.bytes.toList=[]:=by
  intro e
  apply hb
  have:=isE a.bytes
  rw[e] at this
  simpa using this.symm
 have hbi:a.bytes.toList.isEmpty=false:=by rw[isE];exact decide_eq_false hb
 clear hm hix hlt h hrow hml hFw ha4 hs hb
 go_enter Tryz.func75,Tryz.ntmps75
 go_wp2
 refine AnyO.wp_any_tail 8 (by kernel_rfl) (by kernel_rfl) (by kernel_rfl) (by kernel_rfl) (by kernel_rfl) (by kernel_rfl) (pstP [isV (.slice A0 n c),isV (.slice A0 n c),isV (.pointer (some ⟨b,0,none⟩)),isV (vI a.id),isV (.int .i64 ix),isOwnG w.heap.size 98 35 cA m,isV (vA a4),isOne cA a4]) (MonoL.cons (Mono.v _) (MonoL.cons (Mono.v _) (MonoL.cons (Mono.v _) (MonoL.cons (Mono.v _) (MonoL.cons (Mono.v _) (MonoL.cons (Mono.ownG _ _ _ _ _) (MonoL.cons (Mono.v _) (MonoL.cons (Mono.one _ _) MonoL.nil)))))))) ?_ ?_
 ·intro i hi
  have hi2:i=4∨i=5∨i=0∨i=1∨i=2∨i=3∨i=6∨i=7:=by omega
  clear hi
  rcases hi2 with rfl|rfl|rfl|rfl|rfl|rfl|rfl|rfl
  ·refine AnyO.S rfl [1,3] ?_;intro vs u hE hp ac hb K hK
   have s16:_=_:=AnyO.sw 16 1 hb hp
   have s18:_=_:=AnyO.sw 18 3 hb hp
   go_simp
   go_at_call 49
   have hf:=refFind49 A0 c l a.id u ((HL.out.1.keep HW.out.2).keep (Below.step (below_drew _) hE)) (by have:=HL.out.2;omega)
   rw[HN.out.1,HN.out.2.1] at hf
   refine hf.mono ?_
   rintro e w2 ⟨rfl,hb2⟩
   exact hK _ _ hb2 rfl
  ·refine AnyO.S rfl [0,4,4] ?_;intro vs u hE hp ac hb K hK
   have s15:_=_:=AnyO.sw 15 0 hb hp
   have s19:_=_:=AnyO.sw 19 4 hb hp
   go_simp
   go_at_call 73
   have hf:=refWithout73 A0 c l ix u ((HL.out.1.keep HW.out.2).keep (Below.step (below_drew _) hE)) (by rw[HN.out.1];exact HN.out.2.2.1) (by have:=HL.out.2;omega) HN.out.2.2.2.1 HN.out.2.2.2.2.1
   rw[HN.out.1,HN.out.2.2.2.2.2] at hf
   refine hf.mono ?_
   rintro e w2 ⟨A2,c2,rfl,ho2,hb2⟩
   exact hK _ _ hb2 (ho2.mono (Nat.le_trans HW.out.2.size hE.size))
  all_goals
   refine AnyO.T rfl ?_;intro vs u hE hp ac hb K hK
   try have s0:ac.tmps[0]?.getD undef=.slice A0 n c:=by rw[hb.out];kernel_rfl
   try have s3:ac.tmps[3]?.getD undef=.pointer (some ⟨b,0,none⟩):=by rw[hb.out];kernel_rfl
   try have s17:_=_:=AnyO.sw 17 2 hb hp
   try have s21:_=_:=AnyO.sw 21 6 hb hp
   have rr_0:=row_Aid (HW.out.1.keep (Below.step (below_drew _) hE))
   obtain⟨rr1_0,rr2_0⟩:=rr_0
   have rr1_1:=(Row.okw (HW.out.1.keep (Below.step (below_drew _) hE)) (cA_length a4)).1
   have rr2_1:rdA u ⟨b,0,none⟩ 35=vA a4:=(Row.okw (HW.out.1.keep (Below.step (below_drew _) hE)) (cA_length a4)).2
   go_simp
   first|exact hK _ _ (Below.refl _ _) rfl|exact hK _ _ (below_alloc _ _) (isOne.P u _ _)
 ·intro vs u hE hp
  have e0:_=_:=hp 0 (by decide)
  have e1:_=_:=hp 1 (by decide)
  have e2:_=_:=hp 2 (by decide)
  have e3:_=_:=hp 3 (by decide)
  have e4:_=_:=hp 4 (by decide)
  have f5:isOwnG w.heap.size 98 35 cA m (vs 5) u:=hp 5 (by decide)
  have e6:_=_:=hp 6 (by decide)
  obtain⟨g_7,e7,h_7⟩:=show isOne cA a4 (vs 7) u from hp 7 (by decide)
  clear hp
  have HF:=Lib.hid (And.intro f5 (And.intro h_7 hE))
  clear f5 h_7 hE
  rw[puts_range [some 15,some 16,some 17,some 18,some 19,some 20,some 21,some 22] (by kernel_rfl)]
  simp only[putL,Nat.reduceAdd,List.drop_succ_cons,List.drop_zero,e0,e1,e2,e3,e4,e6,e7]
  clear e0 e1 e2 e3 e4 e6 e7
  go_simp
  go_wp2_with (at_builtin;refine wpList_append_sl u rfl (.tmp 20) (.tmp 22) 58 rfl w.heap.size 98 35 64 cA underRAs rowRA (by decide) cA_length cA_one (vs 5) m rfl HF.out.1 (some ⟨g_7,0,none⟩) 1 1 [a4] rfl rfl HF.out.2.1 (by have:=HM.out;omega) (by have:=HM.out;omega) (Nat.le_trans HW.out.2.size HF.out.2.2.size) ?_)
  intro v2 w2 ho hg
  have hb2:=Own.grew HF.out.1 hg (Below.step HW.out.2 HF.out.2.2) (Nat.le_refl _) (Nat.le_trans HW.out.2.size HF.out.2.2.size)
  obtain⟨q,hq⟩:∃ q,m++[a4]=q:=⟨_,rfl⟩
  rw[hq] at ho
  obtain⟨A2,c2,rfl,hc2,hs2⟩:=Own.sl ho
  have hql:q.length=m.length+1:=by rw[← hq];simp
  have HQ:=Lib.hid (And.intro hq (And.intro ho (And.intro hb2 hs2)))
  clear hq ho hb2 hg hs2
  by_cases h9:q.length=9
  ·rw[h9]
   rw[h9] at hc2
   have hcut:=Sl.cut cA_length HQ.out.2.2.2 (c:=c2) (k:=1) (by rw[h9];exact hc2)
   rw[if_neg (by omega)] at hcut
   obtain⟨ad,rfl, -⟩:=HQ.out.2.2.2 (by intro e;rw[e] at h9;cases h9)
   have HC:=Lib.hid (And.intro hcut h9)
   clear hcut
   have hcc:¬ c2=1:=by omega
   have hc9:(9:Int)≤(c2:Int):=by omega
   go_wp2
   go_ret
   have hkr:keepR l a=q.drop 1:=by rw[HK.out,HQ.out.1,if_pos (by omega),HC.out.2]
   unfold SlP
   refine⟨((some (ad.add (1 * 35))),8,c2 - 1),rfl,?_,HQ.out.2.2.1⟩
   rw[hkr]
   refine⟨by rw[List.length_drop];show q.length - 1=8;omega,by show 8≤c2 - 1;omega,HC.out.1,fun ad2 e2 hx hm2=>?_⟩
   have hfo:=(SlF.own HQ.out.2.1 (by first|exact hF.out|(rw[← hbb];exact hF.out))).2.2.2 ad rfl (by intro e;rw[e] at h9;cases h9)
   have e3:=Option.some.inj e2
   rw[← e3] at hm2
   exact hfo (by simpa[block_of_add] using hm2)
  ·have hq8:¬ (8:Int)<(q.length:Int):=by have:=HM.out;omega
   clear hql
   go_wp2
   go_ret
   have hkr:keepR l a=q:=by rw[HK.out,HQ.out.1,if_neg (by omega)]
   unfold SlP
   refine⟨(A2,q.length,c2),rfl,?_,HQ.out.2.2.1⟩
   rw[hkr]
   exact SlF.own HQ.out.2.1 (by first|exact hF.out|(rw[← hbb];exact hF.out))
set_option maxRecDepth 100000 in
theorem refKeep75_no (A0:Option Addr) (c n:Nat) (a:Pt) (w:World) (hs:a.state≠2∨a.bytes.size=0) :
  Calls Tryz.prog 75 #[.slice A0 n c,vA a] w fun e w'=>e=.returned (.slice A0 n c)∧Below w.heap.size w w':=by
 obtain⟨b,hbb⟩:∃ b,w.heap.size=b:=⟨_,rfl⟩
 have hrow:Row (w.alloc (.cells (aA a) 98)) b (cA a) 98:=by rw[← hbb];exact Row.new w (cA a) _
 have k33:(w.alloc (.cells (aA a) 98)).cell? ⟨b,33,none⟩=some (.int .i64 a.state):=(hrow.cell 33).trans (cA_at (aA_33 a))
 have k34:(w.alloc (.cells (aA a) 98)).cell? ⟨b,34,none⟩=some (.string a.bytes):=(hrow.cell 34).trans (cA_at (aA_34 a))
 clear hrow
 by_cases h2:a.state=2
 ·have hbi:a.bytes.toList.isEmpty=true:=by rw[isE];exact decide_eq_true (hs.resolve_left (fun h=>h h2))
  have hbe:a.bytes.toList=[]:=by simpa using hbi
  rw[h2] at k33
  clear hs h2
  go_enter Tryz.func75,Tryz.ntmps75
  go_wp2
  go_ret
  exact⟨rfl,below_alloc _ _⟩
 ·have q1:(a.state != 2)=true:=by simpa using h2
  clear hs h2
  go_enter Tryz.func75,Tryz.ntmps75
  go_wp2
  go_ret
  exact⟨rfl,below_alloc _ _⟩
theorem refKeep75 (F:List Nat) (A0:Option Addr) (c n:Nat) (l:List Pt) (a:Pt) (w:World) (hnn:l.length=n) (h:SlF F w cA (A0,n,c) l) (hFw:∀ k∈F,k<w.heap.size) (hn:n≤8) :
  Calls Tryz.prog 75 #[.slice A0 n c,vA a] w (SlP F (keepL l a) w):=by
 by_cases hs:a.state≠2∨a.bytes.size=0
 ·refine (refKeep75_no A0 c n a w hs).mono ?_
  rintro e w' ⟨rfl,hb⟩
  unfold SlP
  exact⟨(A0,n,c),rfl,by unfold keepL;rw[if_pos hs];exact h.keep hb,hb⟩
 ·have e:keepL l a=keepR l a:=by unfold keepL;rw[if_neg hs]
  rw[e]
  exact refKeep75_yes F A0 c n l a w hnn h hFw hn (by omega) (by omega)
end Go.Proofs.YtgojaelkdpabkaaGreatDoor
