/- line: Up, Session, isSide, slices.Clone of bytes, take. -/
import Derived.Test.YtdkjgcfhepplbaaGreatDoorMLnR
import Derived.Test.YtdkjgcfhepplbaaGreatDoorMSnView
namespace Go.Proofs.YtdkjgcfhepplbaaGreatDoor
open Go.RowKit
theorem up21 (b:Nat) (c:Lc) (sl:Nat→SlV) (bs:Nat→List UInt8) (pk:Nat→List Pkt) (F:List Nat) (w:World) (h:LnR b c sl bs pk F w):Calls Tryz.prog 21 #[.pointer (some ⟨b,0,none⟩)] w fun e w'=>e=.returned (.bool c.up)∧w'=w:=by
 have k5:w.cell? ⟨b,5,none⟩=some (.bool c.up):=h.row.cell 5
 clear h
 go_enter Tryz.func21,Tryz.ntmps21
 go_wp2
 go_ret
 exact⟨rfl,rfl⟩
theorem session39 (b:Nat) (c:Lc) (sl:Nat→SlV) (bs:Nat→List UInt8) (pk:Nat→List Pkt) (F:List Nat) (w:World) (h:LnR b c sl bs pk F w):Calls Tryz.prog 39 #[.pointer (some ⟨b,0,none⟩)] w fun e w'=>e=.returned (.int .i64 c.sess)∧w'=w:=by
 have k5:w.cell? ⟨b,6,none⟩=some (.int .i64 c.sess):=h.row.cell 6
 clear h
 go_enter Tryz.func39,Tryz.ntmps39
 go_wp2
 go_ret
 exact⟨rfl,rfl⟩
theorem isSide75_0 (w:World):Calls Tryz.prog 75 #[.int .i64 0] w fun e w'=>e=.returned (.bool true)∧w=w':=by
 go_enter Tryz.func75,Tryz.ntmps75
 go_wp2
 go_ret
 exact⟨rfl,rfl⟩
theorem isSide75_1 (w:World):Calls Tryz.prog 75 #[.int .i64 1] w fun e w'=>e=.returned (.bool true)∧w=w':=by
 go_enter Tryz.func75,Tryz.ntmps75
 go_wp2
 go_ret
 exact⟨rfl,rfl⟩
@[go_sem] theorem eqlBs_nil (w:World) (a:Option Addr) (n c:Nat):(binOp .eql 94 (.slice a n c) (.slice none 0 0)).run Tryz.prog w=.ok (.bool a.isNone) w:=Sn.eql_nil w 94 5 a n c Tryz.underlying94
theorem rowU8:(Tryz.prog.info? 5).map (fun i=>(i.zero.map (·.cells.size),i.size,i.bytes))=some (some 1,1,1):=by kernel_rfl
theorem c1_len (b:UInt8):(c1 b).length=1:=rfl
set_option maxRecDepth 100000 in
set_option maxHeartbeats 800000 in
theorem clone110 (A:Option Addr) (n c:Nat) (xs:List UInt8) (w:World) (hn:xs.length=n) (hx:Sl w c1 A xs) (hm:n≤4294967296) :
  Calls Tryz.prog 110 #[.slice A n c] w fun e w'=>∃ A' c',e=.returned (.slice A' n c')∧Own w' w.heap.size 5 1 c1 (.slice A' n c') xs∧Below w.heap.size w w':=by
 have HX:=Lib.hid (And.intro hx (And.intro hn hm))
 cases A with
 | none =>
  have h0:=hx.none_
  subst h0
  obtain rfl:n=0:=hn.symm
  clear hx hm hn
  go_enter Tryz.func110,Tryz.ntmps110
  go_wp2
  go_ret
  exact⟨none,0,rfl,Own.nil _ _ _ _ _,Below.refl _ _⟩
 | some ad =>
  subst hn
  clear hx hm
  go_enter Tryz.func110,Tryz.ntmps110
  go_wp2_with (at_builtin;refine wpList_append_sl _ rfl (.tmp 5) (.tmp 6) 94 rfl w.heap.size 5 1 1 c1 Tryz.underlying94 rowU8 (by decide) c1_len c1_one (.slice (some ⟨w.heap.size,0,none⟩) 0 0) [] rfl (Own.lit (w:=w) c1_len [] (Nat.le_refl _) (by simp)) (some ad) xs.length c xs rfl rfl (HX.out.1.keep (below_alloc w (.cells #[] 5))) (by have:=HX.out.2.2;simp;omega) (by have:=HX.out.2.2;simp;omega) (by simp) ?_)
  intro v2 w2 ho hg
  have hb:=Own.grew (Own.lit (w:=w) (e:=5) c1_len [] (Nat.le_refl _) (by simp)) hg (below_alloc w (.cells #[] 5)) (Nat.le_refl _) (by simp)
  have H2:=Lib.hid (And.intro ho hb)
  obtain⟨A2,c2,rfl,_,_⟩:=ho.sl
  clear ho hg hb
  go_wp2
  go_ret
  exact⟨A2,c2,rfl,H2.out.1,H2.out.2⟩
theorem Kp.grew {F F':List Nat} {w u:World} (hb:Below w.heap.size w u) {u2:World} (hk:Kp F F' u u2):Kp F F' w u2 :=
 ⟨hk.os.trans hb.os,hk.tape.trans hb.tape,hk.output.trans hb.output,Nat.le_trans hb.size hk.size,fun k h1 h2=>⟨(hk.out k (Nat.lt_of_lt_of_le h1 hb.size) h2).1,(hk.out k (Nat.lt_of_lt_of_le h1 hb.size) h2).2.trans (hb.block k h1)⟩⟩
def TakeP (b:Nat) (c:Lc) (sl:Nat→SlV) (bs:Nat→List UInt8) (pk:Nat→List Pkt) (F:List Nat) (k m:Nat) (w:World) (e:Ending) (w':World):Prop :=
 ∃ A c' v F',e=.returned (.slice A (min m (bs k).length) c')∧Own w' w.heap.size 5 1 c1 (.slice A (min m (bs k).length) c') ((bs k).take m)∧LnR b c (upd sl k v) (upd bs k ((bs k).drop m)) pk F' w'∧Kp F F' w w'∧∀ g∈F',g∈F
theorem mem_blkL {v:SlV} {g:Nat}:g∈blkL v↔blkA v.1=some g:=by
 unfold blkL blkA
 cases v.1 <;> simp[eq_comm]
set_option maxRecDepth 100000 in
set_option maxHeartbeats 1600000 in
theorem take76 (b:Nat) (c:Lc) (sl:Nat→SlV) (bs:Nat→List UInt8) (pk:Nat→List Pkt) (F:List Nat) (k m:Nat) (w:World) (h:LnR b c sl bs pk F w) (hk:k<6) (hk1:k % 3≠1) (hm:m≤4294967296) (hl:(bs k).length≤4294967296) (o:Nat) (ho:7+k=o) :
  Calls Tryz.prog 76 #[.pointer (some ⟨b,o,none⟩),.int .i64 (m:Int)] w (TakeP b c sl bs pk F k m w):=by
 obtain⟨A,hA⟩:∃ A,(sl k).1=A:=⟨_,rfl⟩
 obtain⟨n,hn⟩:∃ n,(sl k).2.1=n:=⟨_,rfl⟩
 obtain⟨cp,hcp⟩:∃ cp,(sl k).2.2=cp:=⟨_,rfl⟩
 have hob:=h.ob k hk hk1
 rw[hA,hn,hcp] at hob
 have hnl:n=(bs k).length:=hob.1
 have hncp:n≤cp:=hob.2.1
 obtain⟨r,hr⟩:∃ r,min m n=r:=⟨_,rfl⟩
 have hrn:r≤n:=by omega
 have hrm:r≤m:=by omega
 have hri:min (m:Int) (n:Int)=(r:Int):=by omega
 have c0:w.cell? ⟨b,o,none⟩=some (.slice A n cp):=by rw[← ho,← hA,← hn,← hcp];exact h.cell hk
 have htk:(bs k).take m=(bs k).take r:=by
  rw[← hr]
  by_cases hmn:m≤n
  ·rw[Nat.min_eq_left hmn]
  ·rw[Nat.min_eq_right (by omega),List.take_of_length_le (by omega),List.take_of_length_le (by omega)]
 have hdr:(bs k).drop m=(bs k).drop r:=by
  rw[← hr]
  by_cases hmn:m≤n
  ·rw[Nat.min_eq_left hmn]
  ·rw[Nat.min_eq_right (by omega),List.drop_eq_nil_of_le (by omega),List.drop_eq_nil_of_le (by omega)]
 have hsl:Sl w c1 A ((bs k).take r):=by
  intro hne
  obtain⟨ad,e,hat⟩:=hob.sl (fun x=>List.cons_ne_nil _ _) (fun e=>hne (by rw[e,List.take_nil]))
  refine⟨ad,e,hat.1,fun j u hu=>hat.2 j u ?_⟩
  have h6:(bs k).flatMap c1=((bs k).take r).flatMap c1++((bs k).drop r).flatMap c1:=by rw[← List.flatMap_append,List.take_append_drop]
  rw[h6,List.getElem?_append_left (List.getElem?_eq_some_iff.1 hu).1]
  exact hu
 have HS:=Lib.hid (And.intro hsl (show ((bs k).take r).length=r by rw[List.length_take];omega))
 have HB:=Lib.hid (And.intro h (And.intro hob (And.intro hA (And.intro hn hcp))))
 have HT:=Lib.hid (And.intro htk (And.intro hdr (show min m (bs k).length=r by rw[← hnl];exact hr)))
 have HO:=Lib.hid ho
 have hcz:(cp:Int) - 0=cp:=by omega
 unfold TakeP
 rw[HT.out.1,HT.out.2.1,HT.out.2.2]
 clear hob hnl hsl htk hdr h hA hn hcp hr ho
 by_cases hcr:cp=r
 case' pos=>subst hcr
 all_goals
  go_enter Tryz.func76,Tryz.ntmps76
  go_wp2_with (go_at_call 110;refine (clone110 A _ _ _ w HS.out.2 HS.out.1 (by omega)).mono ?_;rintro e w2 ⟨A2,c2,rfl,ho2,hb2⟩;have c3:=cell_below c0 hb2;have hb3:=HB.out.1.keep hb2;have f3:=hb3.row.fz o;have H2:=Lib.hid (And.intro ho2 (And.intro hb2 hb3));clear ho2 hb2 hb3)
  have hbl:=HB.out.1.row.lt
  have hcut:=(HB.out.2.1.keep H2.out.2.1).cut c1_len _ hrn
  go_ret
 ·rw[if_pos rfl,show n - cp=0 by omega,Nat.sub_self] at hcut
  have hs:=H2.out.2.2.setB hk hk1 (v:=(A,0,0)) hcut (World.grownBy.refl w2 _) (fun g hg=>Or.inl (by rw[HB.out.2.2.1];exact hg))
  rw[HO.out] at hs
  exact⟨A2,c2,_,_,rfl,H2.out.1.same (fun j hj=>heap_set_other w2 b o _ j (by have:=(Own.lt H2.out.1 j hj).1;omega)),hs.1,Kp.grew H2.out.2.1 hs.2,fun g hg=>(List.mem_append.1 hg).elim (fun h1=>(HB.out.1.sep k g hk (by rw[HB.out.2.2.1];exact mem_blkL.1 h1)).2.1) id⟩
 ·rw[if_neg hcr] at hcut
  have hs:=H2.out.2.2.setB hk hk1 (v:=(A.map (·.add (r * 1)),n - r,cp - r)) hcut (World.grownBy.refl w2 _) (fun g hg=>Or.inl (by
   have h:=blk_cut A 1 0 (r * 1)
   rw[if_neg (by decide)] at h
   rw[HB.out.2.2.1,← h]
   exact hg))
  rw[HO.out] at hs
  simp only[Nat.mul_one] at hs
  exact⟨A2,c2,_,_,rfl,H2.out.1.same (fun j hj=>heap_set_other w2 b o _ j (by have:=(Own.lt H2.out.1 j hj).1;omega)),hs.1,Kp.grew H2.out.2.1 hs.2,fun g hg=>(List.mem_append.1 hg).elim (fun h1=>(HB.out.1.sep k g hk (by
   have h2:blkA (A.map (·.add (r * 1)))=some g:=by rw[Nat.mul_one];exact mem_blkL.1 h1
   have h:=blk_cut A 1 0 (r * 1)
   rw[if_neg (by decide)] at h
   rw[HB.out.2.2.1,← h]
   exact h2)).2.1) id⟩
open Go.RowKit
theorem conv_nil (w:World):(convert 94 9 (.slice none 0 0)).run Tryz.prog w=.ok (.string ⟨#[]⟩) w:=by kernel_rfl
theorem conv_own {w:World} {base:Nat} {A:Option Addr} {n c:Nat} {l:List UInt8} (h:Own w base 5 1 c1 (.slice A n c) l):(convert 94 9 (.slice A n c)).run Tryz.prog w=.ok (.string ⟨l.toArray⟩) w:=by
 rcases h.some' with e|⟨ad,n',c',e,h1,h2,h3⟩
 ·obtain⟨rfl,rfl,rfl⟩:A=none∧n=0∧c=0:=by simpa using e
  obtain⟨A,c,e,_,_⟩:=h.sl
  have e2:none=A∧0=l.length∧0=c:=by simpa using e
  obtain rfl:l=[]:=List.eq_nil_of_length_eq_zero e2.2.1.symm
  exact conv_nil w
 ·obtain⟨rfl,rfl,rfl⟩:A=some ad∧n=n'∧c=c':=by simpa using e
  exact conv_bs h3 h1 (by simp)
section
variable (b : Nat) (c : Lc) (sl : Nat → SlV) (bs : Nat → List UInt8) (pk : Nat → List Pkt) (F : List Nat)
def RcvP (k:Nat) (w:World) (e:Ending) (w':World):Prop :=
 ∃ v F',e=.returned (.tuple #[.string ⟨(bs k).toArray⟩,.int .i64 0])∧LnR b c (upd sl k v) (upd bs k []) pk F' w'∧Kp F F' w w'
section
set_option maxRecDepth 100000
set_option maxHeartbeats 1600000
theorem receive43_1 (w:World) (h:LnR b c sl bs pk F w) (hl:(bs 5).length≤1048576) :
  Calls Tryz.prog 43 #[.pointer (some ⟨b,0,none⟩),.int .i64 1,.int .i64 1048576] w (RcvP b c sl bs pk F 5 w):=by
 have ht:(bs 5).take 1048576=bs 5:=List.take_of_length_le hl
 have hd:(bs 5).drop 1048576=[]:=List.drop_eq_nil_of_le hl
 have hmn:min 1048576 (bs 5).length=(bs 5).length:=by omega
 have HB:=Lib.hid (take76 b c sl bs pk F 5 1048576 w h (by decide) (by decide) (by decide) (by omega) 12 rfl)
 have HT:=Lib.hid (And.intro ht (And.intro hd hmn))
 have hk:w.cell? ⟨b,12,none⟩=some _:=h.cell (k:=5) (by decide)
 clear h ht hd hmn
 go_enter Tryz.func43,Tryz.ntmps43
 go_wp2_with (first
  | (go_at_call 75;refine (isSide75_1 _).mono ?_;rintro e w1 ⟨rfl,rfl⟩)
  | (go_at_call 76;refine (HB.out).mono ?_;rintro e w2 ⟨A2,c2,v2,F2,rfl,ho2,hl2,hk2, -⟩;rw[HT.out.2.2];rw[HT.out.1,HT.out.2.2] at ho2;rw[HT.out.2.1] at hl2;have hc2:=conv_own ho2;have H2:=Lib.hid (And.intro hl2 hk2);clear ho2 hl2 hk2))
 go_ret2
 exact⟨_,_,rfl,H2.out.1,H2.out.2⟩
theorem receive43_0 (w:World) (h:LnR b c sl bs pk F w) (hl:(bs 2).length≤1048576) :
  Calls Tryz.prog 43 #[.pointer (some ⟨b,0,none⟩),.int .i64 0,.int .i64 1048576] w (RcvP b c sl bs pk F 2 w):=by
 have ht:(bs 2).take 1048576=bs 2:=List.take_of_length_le hl
 have hd:(bs 2).drop 1048576=[]:=List.drop_eq_nil_of_le hl
 have hmn:min 1048576 (bs 2).length=(bs 2).length:=by omega
 have HB:=Lib.hid (take76 b c sl bs pk F 2 1048576 w h (by decide) (by decide) (by decide) (by omega) 9 rfl)
 have HT:=Lib.hid (And.intro ht (And.intro hd hmn))
 have hk:w.cell? ⟨b,9,none⟩=some _:=h.cell (k:=2) (by decide)
 clear h ht hd hmn
 go_enter Tryz.func43,Tryz.ntmps43
 go_wp2_with (first
  | (go_at_call 75;refine (isSide75_0 _).mono ?_;rintro e w1 ⟨rfl,rfl⟩)
  | (go_at_call 76;refine (HB.out).mono ?_;rintro e w2 ⟨A2,c2,v2,F2,rfl,ho2,hl2,hk2, -⟩;rw[HT.out.2.2];rw[HT.out.1,HT.out.2.2] at ho2;rw[HT.out.2.1] at hl2;have hc2:=conv_own ho2;have H2:=Lib.hid (And.intro hl2 hk2);clear ho2 hl2 hk2))
 go_ret2
 exact⟨_,_,rfl,H2.out.1,H2.out.2⟩
end
end
open Go.RowKit
def SB (b:Nat) (c:Lc) (sl:Nat→SlV) (bs:Nat→List UInt8) (pk:Nat→List Pkt) (F:List Nat) (k:Nat) (l:List UInt8) (W:World) (v:SlV) (u:World):Bool→Bool→Prop
 | false,_=>Below W.heap.size W u
 | true,false=>W.grownBy u (blkA (sl k).1)∧Os u 5 1 c1 v.1 v.2.1 v.2.2 l∧∀ g,blkA v.1=some g→blkA (sl k).1=some g∨W.heap.size≤g
 | true,true=>LnR b c (upd sl k v) (upd bs k l) pk (blkL v++F) u∧Kp F (blkL v++F) W u
section
variable {b : Nat} {c : Lc} {sl : Nat → SlV} {bs : Nat → List UInt8} {pk : Nat → List Pkt} {F : List Nat} {k : Nat} {l : List UInt8} {W : World} {v : SlV} {u u' : World} {d1 d2 : Bool}
theorem SB.grew {A':Option Addr} {n' c':Nat} (h:Below W.heap.size W u) (ho:Os u' 5 1 c1 A' n' c' l) (hg:OsGrew u (sl k).1 u' A'):SB b c sl bs pk F k l W (A',n',c') u' true false :=
 ⟨below_grown h hg.grown,ho,fun g e=>by
  rcases hg.blk with h1|h1
  ·exact Or.inl (h1▸e)
  ·rw[h1] at e
   injection e with e
   subst e
   exact Or.inr h.size⟩
theorem SB.stored (h:LnR b c sl bs pk F W) (hk:k<6) (hm:k % 3≠1) (hs:SB b c sl bs pk F k l W v u true false):SB b c sl bs pk F k l W v (u.setCell ⟨b,7+k,none⟩ (sv v)) true true:=h.setB hk hm hs.2.1 hs.1 hs.2.2
theorem setB_rok (h:LnR b c sl bs pk F W) (hk:k<6) (hs:SB b c sl bs pk F k l W v u true false) (i:Nat):u.frozen? ⟨b,i,none⟩=false :=
 (h.row.same (hs.1.block b h.row.lt (fun e=>(h.sep k b hk e.symm).1 rfl))).fz i
theorem setB_cell (h:LnR b c sl bs pk F W) (hk:k<6) (hs:SB b c sl bs pk F k l W v u true false):u.cell? ⟨b,7+k,none⟩=some (.slice (sl k).1 (sl k).2.1 (sl k).2.2) :=
 ((h.row.same (hs.1.block b h.row.lt (fun e=>(h.sep k b hk e.symm).1 rfl))).cell _).trans (cLi_sl c sl hk)
end
theorem rowU8z:(Tryz.prog.info? 5).map (fun i=>(i.zero,i.size,i.bytes))=some (some (.int .u8 0),1,1):=by kernel_rfl
section
variable (b : Nat) (c : Lc) (sl : Nat → SlV) (bs : Nat → List UInt8) (pk : Nat → List Pkt) (F : List Nat)
def SndP (k:Nat) (tx:ByteArray) (w:World) (e:Ending) (w':World):Prop :=
 ∃ v F',e=.returned (.int .i64 0)∧LnR b c (upd sl k v) (upd bs k (bs k++tx.data.toList)) pk F' w'∧Kp F F' w w'
section
set_option maxRecDepth 100000
set_option maxHeartbeats 3200000
theorem send50_0 (tx:ByteArray) (w:World) (h:LnR b c sl bs pk F w) (hup:c.up=true) (hl:(bs 0).length+tx.size≤1048576) :
  Calls Tryz.prog 50 #[.pointer (some ⟨b,0,none⟩),.int .i64 0,.string tx] w (SndP b c sl bs pk F 0 tx w):=by
 obtain⟨A,hA⟩:∃ A,(sl 0).1=A:=⟨_,rfl⟩
 obtain⟨n,hn⟩:∃ n,(sl 0).2.1=n:=⟨_,rfl⟩
 obtain⟨cp,hcp⟩:∃ cp,(sl 0).2.2=cp:=⟨_,rfl⟩
 have hob:=h.ob 0 (by decide) (by decide)
 rw[hA,hn,hcp] at hob
 have hnl:n=(bs 0).length:=hob.1
 have k5:w.cell? ⟨b,5,none⟩=some (.bool true):=by rw[← hup];exact h.row.cell 5
 have c0:w.cell? ⟨b,7,none⟩=some (.slice A n cp):=by rw[← hA,← hn,← hcp];exact h.cell (k:=0) (by decide)
 have hlt:¬ 1048576<(n:Int)+(tx.size:Int):=by omega
 have HB:=Lib.hid (And.intro h (And.intro hA (And.intro hn (And.intro hcp (show n+tx.size≤1048576 by omega)))))
 clear hob hnl h hA hn hcp hup hl
 go_enter Tryz.func50,Tryz.ntmps50
 go_wp2_with (go_at_call 75;refine (isSide75_0 _).mono ?_;rintro e w1 ⟨rfl,rfl⟩)
 refine AnyO.wp_anyI (by kernel_rfl) (by kernel_rfl) (AnyO.InvG (σ:=SlV) (fun σ=>AnyO.pvL [some (.pointer (some ⟨b,0,none⟩)),some (.int .i64 0),some (.pointer (some ⟨b,0,none⟩)),some (.int .i64 0),some (.pointer (some ⟨b,0,none⟩)),some (.pointer (some ⟨b,7,none⟩)),some (.pointer (some ⟨b,7,none⟩)),some (.pointer (some ⟨b,7,none⟩)),some (.slice A n cp),some (.string tx),some (.slice σ.1 σ.2.1 σ.2.2),some (.pointer (some ⟨b,0,none⟩)),some (.pointer (some ⟨b,7,none⟩)),some (.pointer (some ⟨b,7,none⟩)),some (.pointer (some ⟨b,7,none⟩)),none]) (fun σ D u=>SB b c sl bs pk F 0 (bs 0++tx.data.toList) w σ u (D 10) (D 15))) (AnyO.InvG.start (g:=(none,0,0)) (below_drew _)) ?_ ?_
 ·intro i hi
  have hi2:i=8∨i=10∨i=15∨i=0∨i=1∨i=2∨i=3∨i=4∨i=5∨i=6∨i=7∨i=9∨i=11∨i=12∨i=13∨i=14:=by simp only[List.size_toArray,List.length_cons,List.length_nil] at hi;omega
  clear hi
  rcases hi2 with rfl|rfl|rfl|rfl|rfl|rfl|rfl|rfl|rfl|rfl|rfl|rfl|rfl|rfl|rfl|rfl
  ·refine AnyO.I rfl [7] ?_;rintro D vs u σ Q h0 hC hp ac hb K hK
   have s40:_=_:=AnyO.sv 40 7 hb hp Q
   have hf10:=AnyO.fls (hC.out 10) h0 (by kernel_rfl)
   have hst:=Q.out.2
   rw[hf10] at hst
   have rr:=(HB.out.1.keep hst).cell (k:=0) (by decide)
   rw[HB.out.2.1,HB.out.2.2.1,HB.out.2.2.2.1] at rr
   clear hst hf10
   go_simp;exact hK _ _ (AnyO.InvG.step (g:=σ) Q.out.1 rfl Q.out.2)
  ·refine AnyO.I rfl [8,9] ?_;rintro D vs u σ Q h0 hC hp ac hb K hK
   have s41:_=_:=AnyO.sv 41 8 hb hp Q
   have s42:_=_:=AnyO.sv 42 9 hb hp Q
   have hf15:=AnyO.fls (hC.out 15) h0 (by kernel_rfl)
   have hst:=Q.out.2
   rw[h0] at hst
   have hos:=(HB.out.1.keep hst).ob 0 (by decide) (by decide)
   rw[HB.out.2.1,HB.out.2.2.1,HB.out.2.2.2.1] at hos
   refine wp_append_os_text u (.tmp 41) (.tmp 42) 94 9 rfl Tryz.underlying94 Tryz.underlying9 rowU8z (ev_tmp s41) hos tx (ev_tmp s42) (by have:=HB.out.2.2.2.2;omega) ?_
   intro A2 c2 w2 ho2 hg2
   rw[← HB.out.2.1] at hg2
   refine hK _ _ (AnyO.InvG.ghost (g:=σ) (A2,n+tx.size,c2) Q.out.1 ?_ rfl ?_)
   ·intro j hj hq
    rcases j with _|_|_|_|_|_|_|_|_|_|_|_|_|_|_|_|j
    all_goals first|exact hq|exact absurd (show D 10=true from hj) (by rw[h0];decide)|exact absurd (show D 15=true from hj) (by rw[hf15];decide)
   rw[show AnyO.addD D 10 10=true from rfl,show AnyO.addD D 10 15=D 15 from rfl,hf15]
   exact SB.grew hst ho2 hg2
  ·refine AnyO.I rfl [14,10,10,0,1,2,3,4,5,6,7,8,9,10] ?_;rintro D vs u σ Q h0 hC hp ac hb K hK
   have s47:_=_:=AnyO.sv 47 14 hb hp Q
   have s43:_=_:=AnyO.sv 43 10 hb hp Q
   have hp10:D 10=true:=hp.out 10 (by decide)
   have hst:=Q.out.2
   rw[hp10,h0] at hst
   have rr1:=setB_rok (k:=0) HB.out.1 (by decide) hst 7
   have rr2:=setB_cell (k:=0) HB.out.1 (by decide) hst
   have HST:=Lib.hid hst
   clear hst
   go_simp
   exact hK undef _ (AnyO.InvG.step (g:=σ) Q.out.1 trivial (by rw[show AnyO.addD D 15 10=D 10 from rfl,hp10,show AnyO.addD D 15 15=true from rfl];exact SB.stored (k:=0) HB.out.1 (by decide) (by decide) HST.out))
  all_goals
   refine AnyO.J rfl ?_;rintro D vs u σ Q h0 hC hp ac hb K hK
   try have s0:ac.tmps[0]?.getD undef=.pointer (some ⟨b,0,none⟩):=by rw[hb.out];kernel_rfl
   try have s1:ac.tmps[1]?.getD undef=.int .i64 0:=by rw[hb.out];kernel_rfl
   try have s35:_=_:=AnyO.sv 35 2 hb hp Q
   try have s37:_=_:=AnyO.sv 37 4 hb hp Q
   try have s38:_=_:=AnyO.sv 38 5 hb hp Q
   try have s36:_=_:=AnyO.sv 36 3 hb hp Q
   try have s39:_=_:=AnyO.sv 39 6 hb hp Q
   try have s2:ac.tmps[2]?.getD undef=.string tx:=by rw[hb.out];kernel_rfl
   try have s33:_=_:=AnyO.sv 33 0 hb hp Q
   try have s44:_=_:=AnyO.sv 44 11 hb hp Q
   try have s45:_=_:=AnyO.sv 45 12 hb hp Q
   try have s34:_=_:=AnyO.sv 34 1 hb hp Q
   try have s46:_=_:=AnyO.sv 46 13 hb hp Q
   go_simp
   exact hK _ _ (AnyO.InvG.step (g:=σ) Q.out.1 rfl Q.out.2)
 ·intro D vs u hI hD
  obtain⟨σ,hP,hW⟩:=hI
  have e0:_=_:=hP 0 (hD 0 (by decide))
  have e1:_=_:=hP 1 (hD 1 (by decide))
  have e2:_=_:=hP 2 (hD 2 (by decide))
  have e3:_=_:=hP 3 (hD 3 (by decide))
  have e4:_=_:=hP 4 (hD 4 (by decide))
  have e5:_=_:=hP 5 (hD 5 (by decide))
  have e6:_=_:=hP 6 (hD 6 (by decide))
  have e7:_=_:=hP 7 (hD 7 (by decide))
  have e8:_=_:=hP 8 (hD 8 (by decide))
  have e9:_=_:=hP 9 (hD 9 (by decide))
  have e10:_=_:=hP 10 (hD 10 (by decide))
  have e11:_=_:=hP 11 (hD 11 (by decide))
  have e12:_=_:=hP 12 (hD 12 (by decide))
  have e13:_=_:=hP 13 (hD 13 (by decide))
  have e14:_=_:=hP 14 (hD 14 (by decide))
  rw[show D 10=true from hD 10 (by decide),show D 15=true from hD 15 (by decide)] at hW
  have HW:=Lib.hid hW
  clear hW hP hD
  rw[puts_range [some 33,some 34,some 35,some 36,some 37,some 38,some 39,some 40,some 41,some 42,some 43,some 44,some 45,some 46,some 47,none] (by kernel_rfl)]
  simp only[putL,Nat.reduceAdd,e0,e1,e2,e3,e4,e5,e6,e7,e8,e9,e10,e11,e12,e13,e14]
  clear e0 e1 e2 e3 e4 e5 e6 e7 e8 e9 e10 e11 e12 e13 e14
  go_simp
  go_wp2
  go_ret
  exact⟨_,_,rfl,HW.out.1,HW.out.2⟩
theorem send50_1 (tx:ByteArray) (w:World) (h:LnR b c sl bs pk F w) (hup:c.up=true) (hl:(bs 3).length+tx.size≤1048576) :
  Calls Tryz.prog 50 #[.pointer (some ⟨b,0,none⟩),.int .i64 1,.string tx] w (SndP b c sl bs pk F 3 tx w):=by
 obtain⟨A,hA⟩:∃ A,(sl 3).1=A:=⟨_,rfl⟩
 obtain⟨n,hn⟩:∃ n,(sl 3).2.1=n:=⟨_,rfl⟩
 obtain⟨cp,hcp⟩:∃ cp,(sl 3).2.2=cp:=⟨_,rfl⟩
 have hob:=h.ob 3 (by decide) (by decide)
 rw[hA,hn,hcp] at hob
 have hnl:n=(bs 3).length:=hob.1
 have k5:w.cell? ⟨b,5,none⟩=some (.bool true):=by rw[← hup];exact h.row.cell 5
 have c0:w.cell? ⟨b,10,none⟩=some (.slice A n cp):=by rw[← hA,← hn,← hcp];exact h.cell (k:=3) (by decide)
 have hlt:¬ 1048576<(n:Int)+(tx.size:Int):=by omega
 have HB:=Lib.hid (And.intro h (And.intro hA (And.intro hn (And.intro hcp (show n+tx.size≤1048576 by omega)))))
 clear hob hnl h hA hn hcp hup hl
 go_enter Tryz.func50,Tryz.ntmps50
 go_wp2_with (go_at_call 75;refine (isSide75_1 _).mono ?_;rintro e w1 ⟨rfl,rfl⟩)
 refine AnyO.wp_anyI (by kernel_rfl) (by kernel_rfl) (AnyO.InvG (σ:=SlV) (fun σ=>AnyO.pvL [some (.pointer (some ⟨b,0,none⟩)),some (.int .i64 1),some (.pointer (some ⟨b,0,none⟩)),some (.int .i64 1),some (.pointer (some ⟨b,0,none⟩)),some (.pointer (some ⟨b,7,none⟩)),some (.pointer (some ⟨b,10,none⟩)),some (.pointer (some ⟨b,10,none⟩)),some (.slice A n cp),some (.string tx),some (.slice σ.1 σ.2.1 σ.2.2),some (.pointer (some ⟨b,0,none⟩)),some (.pointer (some ⟨b,7,none⟩)),some (.pointer (some ⟨b,10,none⟩)),some (.pointer (some ⟨b,10,none⟩)),none]) (fun σ D u=>SB b c sl bs pk F 3 (bs 3++tx.data.toList) w σ u (D 10) (D 15))) (AnyO.InvG.start (g:=(none,0,0)) (below_drew _)) ?_ ?_
 ·intro i hi
  have hi2:i=8∨i=10∨i=15∨i=0∨i=1∨i=2∨i=3∨i=4∨i=5∨i=6∨i=7∨i=9∨i=11∨i=12∨i=13∨i=14:=by simp only[List.size_toArray,List.length_cons,List.length_nil] at hi;omega
  clear hi
  rcases hi2 with rfl|rfl|rfl|rfl|rfl|rfl|rfl|rfl|rfl|rfl|rfl|rfl|rfl|rfl|rfl|rfl
  ·refine AnyO.I rfl [7] ?_;rintro D vs u σ Q h0 hC hp ac hb K hK
   have s40:_=_:=AnyO.sv 40 7 hb hp Q
   have hf10:=AnyO.fls (hC.out 10) h0 (by kernel_rfl)
   have hst:=Q.out.2
   rw[hf10] at hst
   have rr:=(HB.out.1.keep hst).cell (k:=3) (by decide)
   rw[HB.out.2.1,HB.out.2.2.1,HB.out.2.2.2.1] at rr
   clear hst hf10
   go_simp;exact hK _ _ (AnyO.InvG.step (g:=σ) Q.out.1 rfl Q.out.2)
  ·refine AnyO.I rfl [8,9] ?_;rintro D vs u σ Q h0 hC hp ac hb K hK
   have s41:_=_:=AnyO.sv 41 8 hb hp Q
   have s42:_=_:=AnyO.sv 42 9 hb hp Q
   have hf15:=AnyO.fls (hC.out 15) h0 (by kernel_rfl)
   have hst:=Q.out.2
   rw[h0] at hst
   have hos:=(HB.out.1.keep hst).ob 3 (by decide) (by decide)
   rw[HB.out.2.1,HB.out.2.2.1,HB.out.2.2.2.1] at hos
   refine wp_append_os_text u (.tmp 41) (.tmp 42) 94 9 rfl Tryz.underlying94 Tryz.underlying9 rowU8z (ev_tmp s41) hos tx (ev_tmp s42) (by have:=HB.out.2.2.2.2;omega) ?_
   intro A2 c2 w2 ho2 hg2
   rw[← HB.out.2.1] at hg2
   refine hK _ _ (AnyO.InvG.ghost (g:=σ) (A2,n+tx.size,c2) Q.out.1 ?_ rfl ?_)
   ·intro j hj hq
    rcases j with _|_|_|_|_|_|_|_|_|_|_|_|_|_|_|_|j
    all_goals first|exact hq|exact absurd (show D 10=true from hj) (by rw[h0];decide)|exact absurd (show D 15=true from hj) (by rw[hf15];decide)
   rw[show AnyO.addD D 10 10=true from rfl,show AnyO.addD D 10 15=D 15 from rfl,hf15]
   exact SB.grew hst ho2 hg2
  ·refine AnyO.I rfl [14,10,10,0,1,2,3,4,5,6,7,8,9,10] ?_;rintro D vs u σ Q h0 hC hp ac hb K hK
   have s47:_=_:=AnyO.sv 47 14 hb hp Q
   have s43:_=_:=AnyO.sv 43 10 hb hp Q
   have hp10:D 10=true:=hp.out 10 (by decide)
   have hst:=Q.out.2
   rw[hp10,h0] at hst
   have rr1:=setB_rok (k:=3) HB.out.1 (by decide) hst 10
   have rr2:=setB_cell (k:=3) HB.out.1 (by decide) hst
   have HST:=Lib.hid hst
   clear hst
   go_simp
   exact hK undef _ (AnyO.InvG.step (g:=σ) Q.out.1 trivial (by rw[show AnyO.addD D 15 10=D 10 from rfl,hp10,show AnyO.addD D 15 15=true from rfl];exact SB.stored (k:=3) HB.out.1 (by decide) (by decide) HST.out))
  all_goals
   refine AnyO.J rfl ?_;rintro D vs u σ Q h0 hC hp ac hb K hK
   try have s0:ac.tmps[0]?.getD undef=.pointer (some ⟨b,0,none⟩):=by rw[hb.out];kernel_rfl
   try have s1:ac.tmps[1]?.getD undef=.int .i64 1:=by rw[hb.out];kernel_rfl
   try have s35:_=_:=AnyO.sv 35 2 hb hp Q
   try have s37:_=_:=AnyO.sv 37 4 hb hp Q
   try have s38:_=_:=AnyO.sv 38 5 hb hp Q
   try have s36:_=_:=AnyO.sv 36 3 hb hp Q
   try have s39:_=_:=AnyO.sv 39 6 hb hp Q
   try have s2:ac.tmps[2]?.getD undef=.string tx:=by rw[hb.out];kernel_rfl
   try have s33:_=_:=AnyO.sv 33 0 hb hp Q
   try have s44:_=_:=AnyO.sv 44 11 hb hp Q
   try have s45:_=_:=AnyO.sv 45 12 hb hp Q
   try have s34:_=_:=AnyO.sv 34 1 hb hp Q
   try have s46:_=_:=AnyO.sv 46 13 hb hp Q
   go_simp
   exact hK _ _ (AnyO.InvG.step (g:=σ) Q.out.1 rfl Q.out.2)
 ·intro D vs u hI hD
  obtain⟨σ,hP,hW⟩:=hI
  have e0:_=_:=hP 0 (hD 0 (by decide))
  have e1:_=_:=hP 1 (hD 1 (by decide))
  have e2:_=_:=hP 2 (hD 2 (by decide))
  have e3:_=_:=hP 3 (hD 3 (by decide))
  have e4:_=_:=hP 4 (hD 4 (by decide))
  have e5:_=_:=hP 5 (hD 5 (by decide))
  have e6:_=_:=hP 6 (hD 6 (by decide))
  have e7:_=_:=hP 7 (hD 7 (by decide))
  have e8:_=_:=hP 8 (hD 8 (by decide))
  have e9:_=_:=hP 9 (hD 9 (by decide))
  have e10:_=_:=hP 10 (hD 10 (by decide))
  have e11:_=_:=hP 11 (hD 11 (by decide))
  have e12:_=_:=hP 12 (hD 12 (by decide))
  have e13:_=_:=hP 13 (hD 13 (by decide))
  have e14:_=_:=hP 14 (hD 14 (by decide))
  rw[show D 10=true from hD 10 (by decide),show D 15=true from hD 15 (by decide)] at hW
  have HW:=Lib.hid hW
  clear hW hP hD
  rw[puts_range [some 33,some 34,some 35,some 36,some 37,some 38,some 39,some 40,some 41,some 42,some 43,some 44,some 45,some 46,some 47,none] (by kernel_rfl)]
  simp only[putL,Nat.reduceAdd,e0,e1,e2,e3,e4,e5,e6,e7,e8,e9,e10,e11,e12,e13,e14]
  clear e0 e1 e2 e3 e4 e5 e6 e7 e8 e9 e10 e11 e12 e13 e14
  go_simp
  go_wp2
  go_ret
  exact⟨_,_,rfl,HW.out.1,HW.out.2⟩
end
end
end Go.Proofs.YtdkjgcfhepplbaaGreatDoor
