/- ArticlesOverDrops is true for all texts, interruptions and sizes. -/
import Derived.Test.YtdkjgcfhepplbaaGreatDoorMSs9
import Derived.BigQuiet
namespace Go.Proofs.YtdkjgcfhepplbaaGreatDoor
open Go.RowKit
def vP3 (a b c:UInt8):Value:=.agg #[.int .u8 (a.toNat:Int),.int .u8 (b.toNat:Int),.int .u8 (c.toNat:Int)]
def cTt (t:ByteArray):List Value:=[.string t]
theorem cTt_length (t:ByteArray):(cTt t).length=1:=rfl
theorem Sl.tt {w:World} {A:Option Addr} {xs:List ByteArray} (h:Sl w cTt A xs) {k:Nat} (hk:k<xs.length):∃ ad,A=some ad∧w.cell? (ad.add k)=some (.string xs[k]):=by
 obtain⟨ad,e,hat⟩:=Sl.at_ cTt_length h hk
 refine⟨ad,e,?_⟩
 have:=hat.2 0 _ rfl
 rwa[add_of_add,Nat.mul_one,Nat.add_zero] at this
section
variable (w : World)
theorem bl_idN (i:Nat) (h:i<3):(blA 39 #[(0,.int .u8 ((i:Int)+1))]).run Tryz.prog w=.ok (vI (idN i)) w:=by
 have h0:(blA 39 #[(0,.int .u8 1)]).run Tryz.prog w=.ok (vI (idN 0)) w:=by kernel_rfl
 have h1:(blA 39 #[(0,.int .u8 2)]).run Tryz.prog w=.ok (vI (idN 1)) w:=by kernel_rfl
 have h2:(blA 39 #[(0,.int .u8 3)]).run Tryz.prog w=.ok (vI (idN 2)) w:=by kernel_rfl
 rcases (show i=0∨i=1∨i=2 by omega) with rfl|rfl|rfl
 ·exact h0
 ·exact h1
 ·exact h2
end
theorem at_txid {w:World} {ad:Addr} {x:Txt} (h:At w ad (cTx x)):okA w ad 32=true∧rdA w ad 32=vI x.1∧w.cell? ⟨ad.block,ad.off+32,none⟩=some (.string x.2):=by
 have h2:At w ad (cI x.1):=⟨h.1,fun i v hv=>h.2 i v (by
  unfold cTx
  rw[List.getElem?_append_left (List.getElem?_eq_some_iff.1 hv).1]
  exact hv)⟩
 have h3:=h2.ok
 have h4:=h2.rd
 rw[cI_length] at h3 h4
 have h5:=h.2 32 (.string x.2) (by simp[cTx,cI_length,List.getElem?_append_right])
 exact⟨h3,h4,cell_plain h5⟩
theorem at_otid {w:World} {ad:Addr} {x:Sn.Out} (h:At w ad (Sn.cO x)):okA w ad 32=true∧rdA w ad 32=vI x.1∧w.cell? ⟨ad.block,ad.off+32,none⟩=some (.int .i64 x.2.1):=by
 have h2:At w ad (cI x.1):=⟨h.1,fun i v hv=>h.2 i v (by
  unfold Sn.cO
  rw[List.getElem?_append_left (List.getElem?_eq_some_iff.1 hv).1]
  exact hv)⟩
 have h3:=h2.ok
 have h4:=h2.rd
 rw[cI_length] at h3 h4
 have h5:=h.2 32 (.int .i64 x.2.1) (by simp[Sn.cO,cI_length,List.getElem?_append_right])
 exact⟨h3,h4,cell_plain h5⟩
theorem wr_i64 (j:Nat) (h:j≤2):IntKind.i64.wrap ((j:Int)+1)=(j:Int)+1:=by
 simp[IntKind.wrap,IntKind.bits,IntKind.signed]
 omega
theorem wr_u8 (j:Nat) (h:j≤2):IntKind.u8.wrap ((j:Int)+1)=(j:Int)+1:=by
 simp[IntKind.wrap,IntKind.bits,IntKind.signed]
 omega
def q15 (x:Cf) (arts:List Sn.Art) (j:Nat):Ps:={ ps0 x with snd:=⟨arts.take j,0,Sn.zA,[],none⟩ }
set_option maxRecDepth 100000 in
set_option maxHeartbeats 12800000 in
theorem articles_law (A:Option Addr) (c:Nat) (texts:List ByteArray) (d:Int) (s0 s1 s2:UInt8) (w:World) (hs:Sl w cTt A texts) (hc:texts.length≤c) (hd:0≤d∧d≤18446744073709551615) (hL:Laid w) (hE:Sn.EffAt w) :
  Calls Tryz.prog 3 #[.slice A texts.length c,.int .u64 d,vP3 s0 s1 s2] w fun e w'=>e=.returned (.bool true)∧Below w.heap.size w w':=by
 obtain⟨b0,hb0⟩:∃ b,w.heap.size=b:=⟨_,rfl⟩
 obtain⟨W0,hW0⟩:∃ W0,w.alloc (.cells #[.int .u8 (s0.toNat:Int),.int .u8 (s1.toNat:Int),.int .u8 (s2.toNat:Int)] 24)=W0:=⟨_,rfl⟩
 have HW0:=Lib.hid (show Below w.heap.size w W0∧Row W0 b0 [.int .u8 (s0.toNat:Int),.int .u8 (s1.toNat:Int),.int .u8 (s2.toNat:Int)] 24 from by
  subst hW0 hb0
  exact⟨below_alloc _ _,Row.new w _ _⟩)
 have H0:=Lib.hid (And.intro hs (And.intro hc (And.intro hL hE)))
 obtain⟨n,hn⟩:∃ n,texts.length=n:=⟨_,rfl⟩
 have HN:=Lib.hid hn
 rw[hn]
 clear hs hc hL hE hn
 unfold vP3
 by_cases h3:3<n
 ·have h3i:(3:Int)<(n:Int):=by omega
  go_enter Tryz.func3,Tryz.ntmps3
  go_wp2_with (first
   | (go_at_call 4;refine (knownL _ (H0.out.2.2.1.keep HW0.out.1)).mono ?_;rintro e w1 ⟨rfl,hb1⟩;have H1:=Lib.hid (Below.step HW0.out.1 hb1);clear hb1)
   | (go_at_call 5;refine (known34L _ (H0.out.2.2.1.keep H1.out)).mono ?_;rintro e w2 ⟨rfl,hb2⟩;have H2:=Lib.hid (Below.step H1.out hb2);clear hb2)
   | (go_at_call 4;refine (knownL _ (H0.out.2.2.1.keep H2.out)).mono ?_;rintro e w3 ⟨rfl,hb3⟩;have H3:=Lib.hid (Below.step H2.out hb3);clear hb3)
   | (go_at_call 5;refine (known34L _ (H0.out.2.2.1.keep H3.out)).mono ?_;rintro e w4 ⟨rfl,hb4⟩;have H4:=Lib.hid (Below.step H3.out hb4);clear hb4))
  go_ret
  exact⟨rfl,H4.out⟩
 have h3i:¬ (3:Int)<(n:Int):=by omega
 have hn3:n≤3:=by omega
 obtain⟨r,hr⟩:∃ r,100+s0.toNat=r:=⟨_,rfl⟩
 obtain⟨dl,hdl⟩:∃ dl,s1.toNat % 3=dl:=⟨_,rfl⟩
 obtain⟨ch,hch⟩:∃ ch,20+s2.toNat=ch:=⟨_,rfl⟩
 have z0:=s0.toNat_lt
 have z1:=s1.toNat_lt
 have z2:=s2.toNat_lt
 have HR:=Lib.hid (show 100≤r∧r≤1000∧dl≤2∧20≤ch∧ch≤1000 from ⟨by omega,by omega,by omega,by omega,by omega⟩)
 have HE:=Lib.hid (show 100+(s0.toNat:Int)=(r:Int)∧(s1.toNat:Int) % 3=(dl:Int)∧20+(s2.toNat:Int)=(ch:Int) from ⟨by omega,by omega,by omega⟩)
 have y0:(s0.toNat:Int)≤255:=by omega
 have y1:(s1.toNat:Int)≤255:=by omega
 have y2:(s2.toNat:Int)≤255:=by omega
 clear hr hdl hch z0 z1 z2
 go_enter Tryz.func3,Tryz.ntmps3
 go_wp2_with (first
  | (go_at_call 4;refine (knownL _ (H0.out.2.2.1.keep HW0.out.1)).mono ?_;rintro e w1 ⟨rfl,hb1⟩;have H1:=Lib.hid (show Below w.heap.size w w1∧Row w1 b0 _ _ from ⟨Below.step HW0.out.1 hb1,HW0.out.2.keep hb1⟩);clear hb1)
  | (go_at_call 5;refine (known34L _ (H0.out.2.2.1.keep H1.out.1)).mono ?_;rintro e w2 ⟨rfl,hb2⟩;have H2:=Lib.hid (show Below w.heap.size w w2∧Row w2 b0 _ _ from ⟨Below.step H1.out.1 hb2,H1.out.2.keep hb2⟩);have c0:w2.cell? ⟨b0,0,none⟩=some (.int .u8 (s0.toNat:Int)):=H2.out.2.cell 0;have c1:w2.cell? ⟨b0,1,none⟩=some (.int .u8 (s1.toNat:Int)):=H2.out.2.cell 1;have c2:w2.cell? ⟨b0,2,none⟩=some (.int .u8 (s2.toNat:Int)):=H2.out.2.cell 2;clear hb2)
  | (go_at_call 6;rw[HE.out.1,HE.out.2.1,HE.out.2.2];refine (begin6 w r dl (ch:Int) w2 H2.out.1 (by have:=HR.out;omega) (by have:=HR.out;omega) (by have:=HR.out;omega) (by have:=HR.out;omega) (by have:=HR.out;omega)).mono ?_;rintro e w3 ⟨a,x,rfl,x1,x2,x3,h3⟩;have H3:=Lib.hid h3;have HX:=Lib.hid (And.intro x1 (And.intro x2 x3));clear h3 x1 x2 x3 c0 c1 c2 H1 H2))
 clear y0 y1 y2 HW0
 obtain⟨arts,harts⟩:∃ arts,artsOf texts=arts:=⟨_,rfl⟩
 have HA:=Lib.hid harts
 clear harts
 go_loopw [9,10] (fun iv _ wr=>∃ j:Nat,j≤n∧iv=.int .i64 (j:Int)∧SsAt w a (ch:Int) (q15 x arts j) wr∧∀ k (h:k<texts.length),k<j→TxtOk texts[k]) (fun iv _ _=>n - (intOf iv).toNat)
 case atStart=>exact⟨0,Nat.zero_le _,rfl,H3.out,fun k h h2=>absurd h2 (Nat.not_lt_zero _)⟩
 case round =>
  clear H3
  obtain⟨j,hj,rfl,hss,hok⟩:=hrel
  obtain⟨G,gv,hss⟩:=hss
  have k2:wr.cell? ⟨a.k,2,none⟩=some (.pointer (some ⟨a.sn,0,none⟩)):=hss.row.cell 2
  have HS:=Lib.hid hss
  have HOK:=Lib.hid hok
  clear hss hok
  by_cases hlt:j<n
  ·have hji:(j:Int)<(n:Int):=by omega
   have hjl:j<texts.length:=by rw[HN.out];exact hlt
   obtain⟨t,ht⟩:∃ t:ByteArray,texts[j]'hjl=t:=⟨_,rfl⟩
   have HT:=Lib.hid ht
   obtain⟨ad,rfl,hcl0⟩:=Sl.tt (H0.out.1.keep HS.out.gp.bel) hjl
   have hcl:wr.cell? (ad.add j)=some (.string t):=by
    rw[← ht]
    exact hcl0
   clear ht hcl0
   by_cases ht0:t.size=0
   ·have hem:t.toList.isEmpty=true:=by
     rw[List.isEmpty_iff,ByteArray.toList_eq,Array.toList_eq_nil_iff]
     exact Array.eq_empty_of_size_eq_zero ht0
    go_wp2
    go_ret
    exact⟨rfl,by first|exact HS.out.gp.bel|(rw[← hb0];exact HS.out.gp.bel)⟩
   ·have hem:t.toList.isEmpty=false:=ne_toList (by omega)
    by_cases ht1:100<t.size
    ·have ht1i:(100:Int)<(t.size:Int):=by omega
     go_wp2
     go_ret
     exact⟨rfl,by first|exact HS.out.gp.bel|(rw[← hb0];exact HS.out.gp.bel)⟩
    ·have ht1i:¬ (100:Int)<(t.size:Int):=by omega
     go_wp2
     obtain⟨wo,rfl⟩:∃ x,x=wr:=⟨_,rfl⟩
     go_loopw [10] (fun kv wr5=>∃ k:Nat,k≤t.size∧kv=.int .i64 (k:Int)∧wr5=wo∧∀ i (h:i<t.size),i<k→t[i]≠13) (fun kv _=>t.size - (intOf kv).toNat)
     case atStart=>exact⟨0,Nat.zero_le _,rfl,rfl,fun i h h2=>absurd h2 (Nat.not_lt_zero _)⟩
     case round =>
      obtain⟨k,hk,rfl,hwr,hno⟩:=hrel
      obtain rfl:=hwr.symm
      have HNO:=Lib.hid hno
      clear hno
      by_cases hlk:k<t.size
      ·have hki:(k:Int)<(t.size:Int):=by omega
       have HK:=Lib.hid hlk
       by_cases h13:t[k]=13
       ·have hb13:(((t[k].toNat:Nat):Int)==13)=true:=by rw[h13];rfl
        clear h13
        go_wp2
        go_ret
        exact⟨rfl,by first|exact HS.out.gp.bel|(rw[← hb0];exact HS.out.gp.bel)⟩
       ·have hb13:(((t[k].toNat:Nat):Int)==13)=false:=by
         rw[beq_eq_false_iff_ne]
         intro e
         exact h13 (UInt8.toNat_inj.1 (by show t[k].toNat=13;omega))
        have H13:=Lib.hid h13
        clear h13
        go_wp2
        go_roundw
        case rel =>
         refine⟨k+1,hlk,by go_num,by first|rfl|trivial,fun i h h2=>?_⟩
         by_cases hik:i=k
         ·subst hik
          exact H13.out
         ·exact HNO.out i h (by omega)
        case measure=>simp[intOf];omega
      ·obtain rfl:k=t.size:=by omega
       have HTX:=Lib.hid (show TxtOk t from ⟨by omega,by omega,fun hm=>by
        obtain⟨i,hi,e⟩:=List.mem_iff_getElem.1 hm
        have hi2:i<t.size:=by rw[Array.length_toList] at hi;exact hi
        exact HNO.out i hi2 hi2 (by rw[← e];rfl)⟩)
       have ADD:Hid (∀ u,Below wo.heap.size wo u→Calls Tryz.prog 7 #[.pointer (some ⟨a.sn,0,none⟩),vI (idN j),.string t] u fun e w'=>e=.returned (.int .i64 0)∧SsN w a (ch:Int) (q15 x arts (j+1)) G wo w'):=Lib.hid fun u hb=>by
        have ho:=HTX.out
        have hja:j<texts.length:=hjl
        have hn3':=HN.out
        refine ((HS.out.keep hb).add (x:=idN j) (t:=t) (idN_ne (by omega)) hem (by omega) (crL_nocr ho.2.2) (by rw[← HA.out];exact no_has hja (by omega)) (by show (arts.take j).length<1024;rw[List.length_take];omega)).mono fun e w' ⟨e1,h5⟩=>⟨e1,?_⟩
        have e3:arts.take (j+1)=arts.take j++[(idN j,t)]:=by
         have e4:=arts_take hja
         rw[HA.out] at e4
         rw[e4]
         exact congrArg (fun z=>arts.take j++[(idN j,z)]) HT.out
        have e2:({ q15 x arts j with snd:={ (q15 x arts j).snd with wait:=(q15 x arts j).snd.wait++[(idN j,t)] } }:Ps)=q15 x arts (j+1):=by
         unfold q15
         rw[e3]
        rw[← e2]
        exact h5.under (Kp.of_below hb)
       clear HNO
       go_wp2
       refine AnyO.wp_anyI (by kernel_rfl) (by kernel_rfl) (AnyO.InvG (σ:=Unit) (fun σ=>AnyO.pvL [some (.pointer (some ⟨a.k,0,none⟩)),some (.pointer (some ⟨a.k,0,none⟩)),some (.pointer (some ⟨a.k,2,none⟩)),some (.pointer (some ⟨a.sn,0,none⟩)),some (.int .i64 (j:Int)),some (.int .i64 ((j:Int)+1)),some (.int .u8 ((j:Int)+1)),some (vI (idN j)),some (.slice (some ad) n c),some (.int .i64 (j:Int)),some (.pointer (some (ad.add j))),some (.string t),some (.int .i64 0),some (.bool false)]) (fun σ D u=>W1 wo (fun (_:Unit) u=>SsN w a (ch:Int) (q15 x arts (j+1)) G wo u) σ (D 12) u)) (AnyO.InvG.start (g:=()) (below_drew wo)) ?_ ?_
       ·intro i hi
        have hi2:i=3∨i=7∨i=11∨i=12∨i=0∨i=1∨i=2∨i=4∨i=5∨i=6∨i=8∨i=9∨i=10∨i=13:=by simp only[List.size_toArray,List.length_cons,List.length_nil] at hi;omega
        clear hi
        rcases hi2 with rfl|rfl|rfl|rfl|rfl|rfl|rfl|rfl|rfl|rfl|rfl|rfl|rfl|rfl
        ·refine AnyO.I rfl [2] ?_;rintro D vs u σ Q h0 hC hp ac hb K hK
         have s84:_=_:=AnyO.sv 84 2 hb hp Q
         have hf12:=AnyO.fls (hC.out 12) h0 (by kernel_rfl)
         have hst:=Q.out.2
         rw[hf12] at hst
         have rr:=(HS.out.keep hst).row.cell 2
         have rr2:u.cell? ⟨a.k,2,none⟩=some (.pointer (some ⟨a.sn,0,none⟩)):=rr
         clear hst rr
         go_simp;exact hK _ _ (AnyO.InvG.step (g:=σ) Q.out.1 rfl Q.out.2)
        ·refine AnyO.I rfl [6] ?_;rintro D vs u σ Q h0 hC hp ac hb K hK
         have s88:_=_:=AnyO.sv 88 6 hb hp Q
         have rr1:=bl_idN u j (by omega)
         go_simp;exact hK _ _ (AnyO.InvG.step (g:=σ) Q.out.1 rfl Q.out.2)
        ·refine AnyO.I rfl [10] ?_;rintro D vs u σ Q h0 hC hp ac hb K hK
         have s92:_=_:=AnyO.sv 92 10 hb hp Q
         have hf12:=AnyO.fls (hC.out 12) h0 (by kernel_rfl)
         have hst:=Q.out.2
         rw[hf12] at hst
         have rr1:=cell_below hcl hst
         clear hst
         go_simp;exact hK _ _ (AnyO.InvG.step (g:=σ) Q.out.1 rfl Q.out.2)
        ·refine AnyO.I rfl [3,7,11] ?_;rintro D vs u σ Q h0 hC hp ac hb K hK
         have s85:_=_:=AnyO.sv 85 3 hb hp Q
         have s89:_=_:=AnyO.sv 89 7 hb hp Q
         have s93:_=_:=AnyO.sv 93 11 hb hp Q
         have hf13:=AnyO.fls (hC.out 13) h0 (by kernel_rfl)
         have hst:=Q.out.2
         rw[h0] at hst
         have HST:=Lib.hid hst
         clear hst
         go_simp
         go_at_call 7
         refine (ADD.out u HST.out).mono ?_
         rintro e w2 ⟨rfl,hq⟩
         refine hK _ _ (AnyO.InvG.step (g:=σ) Q.out.1 rfl ?_)
         rw[show AnyO.addD D 12 12=true from rfl]
         exact hq
        all_goals
         refine AnyO.J rfl ?_;rintro D vs u σ Q h0 hC hp ac hb K hK
         try have s7:ac.tmps[7]?.getD undef=.pointer (some ⟨a.k,0,none⟩):=by rw[hb.out];kernel_rfl
         try have s82:_=_:=AnyO.sv 82 0 hb hp Q
         try have s83:_=_:=AnyO.sv 83 1 hb hp Q
         try have s9:ac.tmps[9]?.getD undef=.int .i64 (j:Int):=by rw[hb.out];kernel_rfl
         try have s86:_=_:=AnyO.sv 86 4 hb hp Q
         try have s87:_=_:=AnyO.sv 87 5 hb hp Q
         try have s0:ac.tmps[0]?.getD undef=.slice (some ad) n c:=by rw[hb.out];kernel_rfl
         try have s90:_=_:=AnyO.sv 90 8 hb hp Q
         try have s91:_=_:=AnyO.sv 91 9 hb hp Q
         try have s94:_=_:=AnyO.sv 94 12 hb hp Q
         have rr1_0:=wr_i64 j (by omega)
         have rr1_1:=wr_u8 j (by omega)
         go_simp
         exact hK _ _ (AnyO.InvG.step (g:=σ) Q.out.1 rfl Q.out.2)
       ·intro D vs u hI hD
        obtain⟨σ,hP,hW⟩:=hI
        have e0:_=_:=hP 0 (hD 0 (by decide))
        have e1:_=_:=hP 1 (hD 1 (by decide))
        have e2:_=_:=hP 2 (hD 2 (by decide))
        have e3:_=_:=hP 3 (hD 3 (by decide))
        have e4:_=_:=hP 4 (hD 4 (by decide))
        have e5:_=_:=hP 5 (hD 5 (by decide))
        have e6:_=_:=hP 6 (hD 6 (by decide))
        have e7:_=_:=hP 7 (hD 7 (by decide))
        have e8:_=_:=hP 8 (hD 8 (by decide))
        have e9:_=_:=hP 9 (hD 9 (by decide))
        have e10:_=_:=hP 10 (hD 10 (by decide))
        have e11:_=_:=hP 11 (hD 11 (by decide))
        have e12:_=_:=hP 12 (hD 12 (by decide))
        have e13:_=_:=hP 13 (hD 13 (by decide))
        rw[show D 12=true from hD 12 (by decide)] at hW
        have HW:=Lib.hid hW
        clear hW hP hD
        rw[puts_range [some 82,some 83,some 84,some 85,some 86,some 87,some 88,some 89,some 90,some 91,some 92,some 93,some 94,some 95] (by kernel_rfl)]
        simp only[putL,Nat.reduceAdd,e0,e1,e2,e3,e4,e5,e6,e7,e8,e9,e10,e11,e12,e13]
        clear e0 e1 e2 e3 e4 e5 e6 e7 e8 e9 e10 e11 e12 e13
        go_simp
        go_wp2
        go_roundw
        case rel =>
         refine⟨j+1,hlt,by go_num,HW.out.at,fun k2 h h2=>?_⟩
         by_cases hkj:k2=j
         ·subst hkj
          rw[HT.out]
          exact HTX.out
         ·exact HOK.out k2 h (by omega)
        case measure=>simp[intOf];omega
  ·obtain rfl:j=n:=by omega
   have HPA:=Lib.hid (show PaOk arts r dl ch from by
    rw[← HA.out]
    exact pa_ok (by rw[HN.out];exact hn3) (fun k h=>HOK.out k h (by rw[← HN.out];exact h)) HR.out.1 HR.out.2.1 HR.out.2.2.1 HR.out.2.2.2.1 HR.out.2.2.2.2)
   have HI0:=Lib.hid (show Inv arts r dl ch 0 (q15 x arts j) from by
    have:=Inv.begin HPA.out HX.out.1 HX.out.2.1 HX.out.2.2
    unfold q15
    rw[List.take_of_length_le (by rw[← HA.out,arts_len,HN.out];exact Nat.le_refl _)]
    exact this)
   have HS0:=Lib.hid (show SsAt w a (ch:Int) (q15 x arts j) wr from ⟨_,_,HS.out⟩)
   clear HS HOK k2
   go_wp2
   obtain⟨wo,rfl⟩:∃ x,x=wr:=⟨_,rfl⟩
   go_loopw [11] (fun iv wr5=>∃ (i:Nat) (p:Ps),i≤300∧iv=.int .i64 (i:Int)∧SsAt w a (ch:Int) p wr5∧Inv arts r dl ch i p) (fun iv _=>300 - (intOf iv).toNat)
   case atStart=>exact⟨0,_,Nat.zero_le _,rfl,HS0.out,HI0.out⟩
   case round =>
    clear HS0 HI0
    obtain⟨i,p,hi,rfl,hss,hinv⟩:=hrel
    have k7:=hss.c7
    by_cases hlt:i<300
    ·have hii:(i:Int)<300:=by omega
     have HS:=Lib.hid hss
     have HI:=Lib.hid hinv
     clear hss hinv
     by_cases h64:i<64
     ·have h64i:(i:Int)<64:=by omega
      go_wp2_with (go_at_call 8;refine (minute8 w a r dl ch i arts p _ HS.out H0.out.2.2.1 H0.out.2.2.2 HPA.out HI.out hi _ (fun h=>absurd h (by omega))).mono ?_;rintro e w5 ⟨rfl,p',h5,hi5⟩;have H5:=Lib.hid (And.intro h5 hi5);clear h5 hi5)
      go_roundw
      case rel=>exact⟨i+1,p',hlt,by go_num,H5.out.1,H5.out.2⟩
      case measure=>simp[intOf];omega
     ·have h64i:¬ (i:Int)<64:=by omega
      go_wp2_with (go_at_call 8;refine (minute8 w a r dl ch i arts p _ HS.out H0.out.2.2.1 H0.out.2.2.2 HPA.out HI.out hi _ (fun h=>rfl)).mono ?_;rintro e w5 ⟨rfl,p',h5,hi5⟩;have H5:=Lib.hid (And.intro h5 hi5);clear h5 hi5)
      go_roundw
      case rel=>exact⟨i+1,p',hlt,by go_num,H5.out.1,H5.out.2⟩
      case measure=>simp[intOf];omega
    ·obtain rfl:i=300:=by omega
     obtain⟨hgot,o,hsnd,hou⟩:=hinv.fin
     obtain⟨G,⟨Ag,ng,cg⟩,hss⟩:=hss
     have hal:arts.length=j:=by rw[← HA.out,arts_len,HN.out]
     have hng:ng=j:=by
      obtain⟨A2,c2,e2, -, -⟩:=hss.got.sl
      rw[hgot,hal] at e2
      injection e2
     subst hng
     have k2:wr.cell? ⟨a.k,2,none⟩=some (.pointer (some ⟨a.sn,0,none⟩)):=hss.row.cell 2
     have k6:wr.cell? ⟨a.k,6,none⟩=some (.slice Ag ng cg):=hss.row.cell 6
     have HS:=Lib.hid hss
     have HG:=Lib.hid (And.intro hgot (And.intro hsnd (And.intro hou hal)))
     clear hss hgot hsnd hou hal
     go_wp2_with (first
      | (go_at_call 9;refine HS.out.state.mono ?_;rintro e w6 ⟨rfl,rfl⟩;rw[show p.snd.state=0 from by rw[HG.out.2.1]])
      | (go_at_call 10;refine (HS.out.waiting (by rw[HG.out.2.1];exact Nat.zero_le _)).mono ?_;rintro e w7 ⟨A7,n7,c7,rfl,hn7,h7⟩;obtain rfl:n7=0:=(by rw[HG.out.2.1] at hn7;exact hn7.symm);have k22:w7.cell? ⟨a.k,2,none⟩=some (.pointer (some ⟨a.sn,0,none⟩)):=h7.row.cell 2;have H7:=Lib.hid h7;clear h7 hn7)
      | (go_at_call 11;refine H7.out.outcomes.mono ?_;rintro e w8 ⟨A8,n8,c8,rfl,hn8,hs8,h8⟩;obtain rfl:n8=ng:=(by rw[HG.out.2.1] at hn8;exact hn8.symm.trans (HG.out.2.2.1.1.trans HG.out.2.2.2));have H8:=Lib.hid (And.intro hs8 h8);clear hs8 h8 hn8))
     obtain⟨hs8,G9,⟨A9,n9,c9⟩,h9, -⟩:=H8.out
     have hn9:n9=n8:=by
      obtain⟨A2,c2,e2, -, -⟩:=h9.got.sl
      rw[show ({ p with snd:={ p.snd with outs:=[] } }:Ps).got=arts from HG.out.1,HG.out.2.2.2] at e2
      injection e2
     subst hn9
     have H9:=Lib.hid (show Below w.heap.size w w8∧Row w8 a.k _ _∧Sl w8 Sn.cO A8 p.snd.outs∧Sl w8 cTx A9 arts from ⟨h9.gp.bel,h9.row,hs8,by
      obtain⟨A2,c2,e2, -,hsl⟩:=h9.got.sl
      injection e2 with e3 e4 e5
      rw[show A9=A2 from e3]
      rw[show ({ p with snd:={ p.snd with outs:=[] } }:Ps).got=arts from HG.out.1] at hsl
      exact hsl⟩)
     clear hs8 h9 H8 H7 HS k2 k6 k7
     go_loopw [13] (fun iv wr=>∃ i:Nat,i≤n9∧iv=.int .i64 (i:Int)∧Below w8.heap.size w8 wr) (fun iv _=>n9 - (intOf iv).toNat)
     case atStart=>exact⟨0,Nat.zero_le _,rfl,Below.refl _ _⟩
     case round =>
      obtain⟨i,hi,rfl,hbw⟩:=hrel
      have HBW:=Lib.hid hbw
      by_cases hlt:i<n9
      ·have hii:(i:Int)<(n9:Int):=by omega
       have hit:i<texts.length:=by rw[HN.out];exact hlt
       obtain⟨t,ht⟩:∃ t:ByteArray,texts[i]'hit=t:=⟨_,rfl⟩
       have hai:=arts_at hit
       rw[HA.out] at hai
       obtain⟨hal,hae⟩:=List.getElem?_eq_some_iff.1 hai
       obtain⟨ad,rfl,tt0⟩:=Sl.tt (H0.out.1.keep H9.out.1) hit
       have tt:∀ m,(wr.drewN m).cell? (ad.add i)=some (.string t):=fun m=>by
        rw[← ht]
        exact cell_below (cell_below tt0 hbw) (below_drewN wr m)
       obtain⟨ag,rfl,hat9⟩:=Sl.at_ cTx_length H9.out.2.2.2 hal
       rw[hae] at hat9
       have hol:i<p.snd.outs.length:=by rw[HG.out.2.1];show i<o.length;rw[HG.out.2.2.1.1,HG.out.2.2.2];exact hlt
       obtain⟨ao,rfl,hat8⟩:=Sl.at_ Sn.cO_length H9.out.2.2.1 hol
       obtain⟨⟨oi,ov,oc⟩,hoe⟩:∃ q:Sn.Out,p.snd.outs[i]'hol=q:=⟨_,rfl⟩
       rw[hoe] at hat8
       have hov:oi=idN i∧(ov=0∨ov=1):=by
        have h1:=HG.out.2.2.1.2 i (by rw[HG.out.2.2.1.1,HG.out.2.2.2];exact hlt)
        obtain⟨x1,x2,x3,x4⟩:=h1
        have h2:o[i]'(by rw[HG.out.2.2.1.1,HG.out.2.2.2];exact hlt)=(oi,ov,oc):=by
         rw[← hoe]
         congr 1
         rw[HG.out.2.1]
        rw[h2] at x3 x4
        rw[hai] at x2
        exact⟨x3.trans (by rw[← Option.some.inj x2]),x4⟩
       obtain⟨rfl,hov⟩:=hov
       have HU:∀ m,Below w8.heap.size w8 (wr.drewN m):=fun m=>Below.step hbw (below_drewN wr m)
       have c6:∀ m,(wr.drewN m).cell? ⟨a.k,6,none⟩=some (.slice (some ag) n9 c9):=fun m=>(H9.out.2.1.keep (HU m)).cell 6
       have gi1:∀ m,okA (wr.drewN m) (ag.add (i * 33)) 32=true:=fun m=>(at_txid (hat9.keep (HU m))).1
       have gi2:∀ m,rdA (wr.drewN m) (ag.add (i * 33)) 32=vI (idN i):=fun m=>(at_txid (hat9.keep (HU m))).2.1
       have gt:∀ m,(wr.drewN m).cell? ⟨(ag.add (i * 33)).block,(ag.add (i * 33)).off+32,none⟩=some (.string t):=fun m=>by
        rw[← ht]
        exact (at_txid (hat9.keep (HU m))).2.2
       have o1:∀ m,okA (wr.drewN m) (ao.add (i * 34)) 32=true:=fun m=>(at_otid (hat8.keep (HU m))).1
       have o2:∀ m,rdA (wr.drewN m) (ao.add (i * 34)) 32=vI (idN i):=fun m=>(at_otid (hat8.keep (HU m))).2.1
       have o3:∀ m,(wr.drewN m).cell? ⟨(ao.add (i * 34)).block,(ao.add (i * 34)).off+32,none⟩=some (.int .i64 ov):=fun m=>(at_otid (hat8.keep (HU m))).2.2
       have rr1:=wr_i64 i (by omega)
       have rr2:=wr_u8 i (by omega)
       have rr3:∀ m,(blA 39 #[(0,.int .u8 ((i:Int)+1))]).run Tryz.prog (wr.drewN m)=.ok (vI (idN i)) (wr.drewN m):=fun m=>bl_idN _ i (by omega)
       clear ht hai hal hae tt0 hat9 hol hoe hat8 HU hbw hit
       rcases hov with rfl|rfl
       all_goals
        go_wp2
        go_quiet (fail)
        go_wp2
        go_roundw
        case rel=>exact⟨i+1,hlt,by go_num,Below.step HBW.out (below_drewN _ _)⟩
        case measure=>simp[intOf];omega
      ·obtain rfl:i=n9:=by omega
       go_wp2
       go_ret
       exact⟨rfl,by first|exact Below.step H9.out.1 HBW.out|(rw[← hb0];exact Below.step H9.out.1 HBW.out)⟩
end Go.Proofs.YtdkjgcfhepplbaaGreatDoor
