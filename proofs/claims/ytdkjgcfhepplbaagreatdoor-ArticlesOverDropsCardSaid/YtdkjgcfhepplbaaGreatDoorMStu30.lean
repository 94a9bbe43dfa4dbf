/- Stuff: the program's and the reference's. -/
import Derived.Test.YtdkjgcfhepplbaaGreatDoorMTxB
import Derived.Test.YtdkjgcfhepplbaaGreatDoorMTyA
namespace Go.Proofs.YtdkjgcfhepplbaaGreatDoor
open Go.RowKit
def stE (l:List UInt8):Int:=if 262144<l.length then 5 else if l.any (· == 13) then 6 else 0
def stT (l:List UInt8):List UInt8:=if stE l=0 then stuffL l else []
theorem stE_long (l:List UInt8) (h:262144<l.length):stE l=5∧stT l=[]:=by
 have e:stE l=5:=by unfold stE;rw[if_pos h]
 exact⟨e,by unfold stT;rw[e];rfl⟩
theorem stE_byte (l:List UInt8) (h:¬ 262144<l.length) (h2:l.any (· == 13)=true):stE l=6∧stT l=[]:=by
 have e:stE l=6:=by unfold stE;rw[if_neg h,if_pos h2]
 exact⟨e,by unfold stT;rw[e];rfl⟩
theorem stE_ok (l:List UInt8) (h:¬ 262144<l.length) (h2:l.any (· == 13)=false):stE l=0∧stT l=stuffL l:=by
 have e:stE l=0:=by unfold stE;rw[if_neg h,h2];rfl
 exact⟨e,by unfold stT;rw[if_pos e]⟩
def linesP (ps:List ByteArray):List UInt8:=(ps.map fun x=>dotL (bl x)++[13,10]).flatten
theorem linesP_snoc (ps:List ByteArray) (x:ByteArray):linesP (ps++[x])=linesP ps++(dotL (bl x)++[13,10]):=by
 unfold linesP
 rw[List.map_append,List.flatten_append]
 simp
theorem linesP_stuff (ps:List ByteArray):linesP ps++[46,13,10]=stuffP (ps.map bl):=by
 unfold linesP stuffP
 rw[List.map_map]
 rfl
theorem linesP_take_le (ps:List ByteArray) (k:Nat):(linesP (ps.take k)).length≤(linesP ps).length:=by
 have h:=List.take_append_drop k ps
 have e:linesP ps=linesP (ps.take k)++linesP (ps.drop k):=by
  rw[← congrArg linesP h]
  unfold linesP
  rw[List.map_append,List.flatten_append]
 rw[e,List.length_append]
 omega
def Laid1 (w:World):Prop:=∃ m,w.cell? ⟨2,0,none⟩=some (.int .i64 m)
theorem Laid1.keep {w w':World} (h:Laid1 w) (hb:Below w.heap.size w w'):Laid1 w':=by
 obtain⟨m,hm⟩:=h
 exact⟨m,cell_below hm hb⟩
set_option maxRecDepth 100000 in
set_option maxHeartbeats 3200000 in
theorem stuff17 (s:ByteArray) (w:World) (hs:s.size≤1000000) (hL:Laid1 w) :
  Calls Tryz.prog 29 #[.string s] w fun e w'=>∃ t,e=.returned (.tuple #[.string t,.int .i64 (stE (bl s))])∧bl t=stT (bl s)∧Below w.heap.size w w':=by
 by_cases hl:262144<s.size
 ·have HX:=Lib.hid (stE_long (bl s) (by rw[bl_length];exact hl))
  go_enter Tryz.func29,Tryz.ntmps29
  go_wp2
  go_ret2
  rw[HX.out.1,HX.out.2]
  exact⟨⟨#[]⟩,rfl,rfl,Below.refl _ _⟩
 ·have HL:=Lib.hid (show ¬ 262144<(bl s).length by rw[bl_length];exact hl)
  have H39:=Lib.hid (fun w1=>Tryz.strings_Contains_one s 13 w1)
  rw[index_any] at H39
  cases hb:(bl s).any (· == 13) with
  | true =>
   rw[show s.data.toList.any (· == 13)=true from hb] at H39
   have HX:=Lib.hid (stE_byte (bl s) HL.out hb)
   clear hb
   go_enter Tryz.func29,Tryz.ntmps29
   go_wp2_with (go_at_call 18;refine (H39.out _).mono ?_;rintro e w1 ⟨rfl,rfl⟩)
   go_ret2
   rw[HX.out.1,HX.out.2]
   exact⟨⟨#[]⟩,rfl,rfl,Below.refl _ _⟩
  | false =>
   rw[show s.data.toList.any (· == 13)=false from hb] at H39
   have HX:=Lib.hid (stE_ok (bl s) HL.out hb)
   clear hb
   have HB0:=Lib.hid (Bd.new w)
   have HW0:=Lib.hid (below_alloc w (.cells #[.pointer none,.slice none 0 0] 132))
   obtain⟨W1,hW1⟩:∃ W1,w.alloc (.cells #[.pointer none,.slice none 0 0] 132)=W1:=⟨_,rfl⟩
   rw[hW1] at HB0 HW0
   obtain⟨mx,hmx⟩:=hL.keep HW0.out
   have hg:=splitB_go 10 s
   have hlen:=Lib.splitB_all ⟨#[10]⟩ (by decide) 0 _ s rfl
   have H40:=Lib.hid (Tryz.strings_Split s ⟨#[10]⟩ mx W1 (by omega) hmx (by decide))
   generalize Lib.countB s ⟨#[10]⟩=cnt at hg hlen H40
   obtain⟨ps,hps⟩:∃ ps,Lib.splitB ⟨#[10]⟩ 0 cnt s=ps:=⟨_,rfl⟩
   rw[hps] at hg hlen H40
   rw[← hlen] at H40
   obtain⟨N,hN⟩:∃ N,ps.length=N:=⟨_,rfl⟩
   rw[hN] at H40
   have hwhole:linesP ps++[46,13,10]=stuffL (bl s):=by rw[linesP_stuff,hg];rfl
   have hbig:(linesP ps).length≤5000000:=by
    have h1:=congrArg List.length hwhole
    have h2:=stuffP_le 10 (bl s) []
    rw[bl_length] at h2
    unfold stuffL at h1
    simp only[List.length_append,List.length_cons,List.length_nil] at h1 h2
    omega
   have hNs:N≤1000001:=by
    have h3:=splitGo_len (bl s) []
    rw[← hg,List.length_map,bl_length] at h3
    omega
   have HH:=Lib.hid (And.intro hwhole (And.intro hbig hN))
   clear hps hg hlen hwhole hbig hmx hL hN
   obtain⟨B,hB⟩:∃ B,w.heap.size=B:=⟨_,rfl⟩
   rw[hB] at HB0 HW0
   obtain⟨g,hgd⟩:∃ g,W1.heap.size=g:=⟨_,rfl⟩
   have hb2:=below_alloc W1 (.cells (ps.map Value.string).toArray 9)
   have hrow:=Row.new W1 (ps.map Value.string) 9
   have HB2:=Lib.hid (HB0.out.more hb2 [g] (fun k hk=>by rw[List.mem_singleton.1 hk,← hgd];exact⟨Nat.le_refl _,by simp⟩))
   obtain⟨W2,hW2⟩:∃ W2,W1.alloc (.cells (ps.map Value.string).toArray 9)=W2:=⟨_,rfl⟩
   rw[hW2] at HB2 hb2 hrow
   rw[hgd] at hrow
   have HW2:=Lib.hid (show Below B w W2 from HW0.out.trans (by rw[← hB];exact hb2.mono HW0.out.size))
   have HR:=Lib.hid hrow
   have HS:=Lib.hid (And.intro hW1 hB)
   rw[hW2,hgd] at H40
   clear hrow hb2 hgd
   go_enter Tryz.func29,Tryz.ntmps29
   go_wp2_with (first
    | (go_at_call 18;refine (H39.out _).mono ?_;rintro e w1 ⟨rfl,rfl⟩)
    | (go_at_call 60;refine H40.out.mono ?_;rintro e w2 ⟨rfl,rfl⟩))
   go_loopw [15] (fun i wr=>∃ k:Nat,k≤N∧i=.int .i64 k∧Bd B B (linesP (ps.take k)) [g] wr∧KeepF B [g] w2 wr) (fun i _=>N - (intOf i).toNat)
   case atStart=>exact⟨0,Nat.zero_le _,rfl,HB2.out,KeepF.refl⟩
   case round =>
    obtain⟨k,hk,rfl,hb,hkf⟩:=hrel
    have hrw:=HR.out.same (hkf.2 g List.mem_cons_self)
    have HK:=Lib.hid (And.intro hb (And.intro hkf (show (linesP (ps.take k)).length≤5000000 from Nat.le_trans (linesP_take_le ps k) HH.out.2.1)))
    by_cases hlt:k<N
    ·have hkl:k<ps.length:=by rw[HH.out.2.2];exact hlt
     obtain⟨x,hx⟩:∃ x,ps[k]=x:=⟨_,rfl⟩
     have cx:wr.cell? ⟨g,k,none⟩=some (.string x):=(hrw.cell k).trans (by rw[List.getElem?_map,List.getElem?_eq_getElem hkl,hx];rfl)
     have htk:linesP (ps.take (k+1))=linesP (ps.take k)++(dotL (bl x)++[13,10]):=by rw[List.take_succ_eq_append_getElem hkl,linesP_snoc,hx]
     have hxl:x.size≤5000000:=by
      have h1:=linesP_take_le ps (k+1)
      have h2:=HH.out.2.1
      rw[htk] at h1
      have h3:(bl x).length≤(dotL (bl x)).length:=by unfold dotL;split <;> simp
      rw[bl_length] at h3
      simp only[List.length_append,List.length_cons,List.length_nil] at h1
      omega
     have hpre:=pre_dot x
     have HT:=Lib.hid (And.intro htk hxl)
     clear hb hkf hrw hx htk hxl
     by_cases hp:(bl x).head? = some 46
     ·rw[decide_eq_true hp] at hpre
      have HP:=Lib.hid (And.intro hpre (show dotL (bl x)=46 :: bl x by unfold dotL;rw[if_pos hp]))
      clear hp hpre
      have T0:True:=trivial
      have T1:True:=trivial
      have T2:True:=trivial
      go_wp2_with (first
       | (have hh:=T0;clear hh T0;go_at_call 61;refine (Tryz.strings_HasPrefix x ⟨#[46]⟩ _).mono ?_;rw[show Lib.hasPrefix x.data.toList (⟨#[46]⟩:ByteArray).data.toList=true from HP.out.1];rintro e w3 ⟨rfl,rfl⟩)
       | (go_at_call 62;refine (HK.out.1.byte 46 46 rfl (by have:=HK.out.2.2;omega)).mono ?_;rintro e w4 ⟨rfl,hb4,hk4⟩;have H4:=Lib.hid (And.intro hb4 hk4);clear hb4 hk4)
       | (have hh:=T1;clear hh T1;go_at_call 63;refine (H4.out.1.str x (by have:=HK.out.2.2;have:=HT.out.2;simp only[List.length_append,List.length_cons,List.length_nil];omega)).mono ?_;rintro e w5 ⟨rfl,hb5,hk5⟩;have H5:=Lib.hid (And.intro hb5 hk5);clear hb5 hk5)
       | (have hh:=T2;clear hh T2;go_at_call 63;refine (H5.out.1.str ⟨#[13,10]⟩ (by have:=HK.out.2.2;have:=HT.out.2;have h9:=bl_length x;simp only[List.length_append,List.length_cons,List.length_nil];rw[h9];show _+2≤_;omega)).mono ?_;rintro e w6 ⟨rfl,hb6,hk6⟩;have H6:=Lib.hid (And.intro hb6 hk6);clear hb6 hk6))
      go_roundw
      case rel =>
       refine⟨k+1,by omega,by go_num,?_,((HK.out.2.1.trans H4.out.2).trans H5.out.2).trans H6.out.2⟩
       have h:=H6.out.1
       rw[HT.out.1,HP.out.2]
       simpa[bl] using h
      case measure=>simp[intOf] <;> omega
     ·rw[decide_eq_false hp] at hpre
      have HP:=Lib.hid (And.intro hpre (show dotL (bl x)=bl x by unfold dotL;rw[if_neg hp]))
      clear hp hpre
      have T0:True:=trivial
      have T1:True:=trivial
      have T2:True:=trivial
      go_wp2_with (first
       | (have hh:=T0;clear hh T0;go_at_call 61;refine (Tryz.strings_HasPrefix x ⟨#[46]⟩ _).mono ?_;rw[show Lib.hasPrefix x.data.toList (⟨#[46]⟩:ByteArray).data.toList=false from HP.out.1];rintro e w3 ⟨rfl,rfl⟩)
       | (have hh:=T1;clear hh T1;go_at_call 63;refine (HK.out.1.str x (by have:=HK.out.2.2;have:=HT.out.2;omega)).mono ?_;rintro e w5 ⟨rfl,hb5,hk5⟩;have H5:=Lib.hid (And.intro hb5 hk5);clear hb5 hk5)
       | (have hh:=T2;clear hh T2;go_at_call 63;refine (H5.out.1.str ⟨#[13,10]⟩ (by have:=HK.out.2.2;have:=HT.out.2;have h9:=bl_length x;simp only[List.length_append];rw[h9];show _+2≤_;omega)).mono ?_;rintro e w6 ⟨rfl,hb6,hk6⟩;have H6:=Lib.hid (And.intro hb6 hk6);clear hb6 hk6))
      go_roundw
      case rel =>
       refine⟨k+1,by omega,by go_num,?_,(HK.out.2.1.trans H5.out.2).trans H6.out.2⟩
       have h:=H6.out.1
       rw[HT.out.1,HP.out.2]
       simpa[bl] using h
      case measure=>simp[intOf] <;> omega
    ·obtain rfl:k=N:=by omega
     clear hb hkf hrw
     have T1:True:=trivial
     go_wp2_with (first
      | (have hh:=T1;clear hh T1;go_at_call 63;refine (HK.out.1.str ⟨#[46,13,10]⟩ (by have:=HK.out.2.2;show _+3≤_;omega)).mono ?_;rintro e w5 ⟨rfl,hb5,hk5⟩;have H5:=Lib.hid (And.intro hb5 hk5);clear hb5 hk5)
      | (go_at_call 64;refine (H5.out.1.string).mono ?_;rintro x w6 ⟨rfl,hw6⟩;have H6:=Lib.hid hw6;clear hw6))
     go_ret2
     rw[HX.out.1,HX.out.2]
     refine⟨_,rfl,?_,?_⟩
     ·have h:=HH.out.1
      have h3:=HH.out.2.2
      show linesP (ps.take k)++[46,13,10]=_
      rw[List.take_of_length_le (by omega)]
      exact h
     ·rw[HS.out.2]
      exact ((HW2.out.trans HK.out.2.1.1).trans H5.out.2.1).trans H6.out
end Go.Proofs.YtdkjgcfhepplbaaGreatDoor
