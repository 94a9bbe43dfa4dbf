/- bulletinlaw30.known: the examples. bulletinlaw30.CommandStuff: whatever the texts, the law returns true. -/
import Derived.Test.YtdkjgcfhepplbaaGreatDoorMDcA
namespace Go.Proofs.YtdkjgcfhepplbaaGreatDoor
section
open Go.RowKit
def cHello:Cm:=⟨1,⟨#[97,98]⟩,zI,0,0,7,0,⟨#[]⟩⟩
theorem isE (s:ByteArray):s.toList.isEmpty=decide (s.size=0):=by
 rw[ByteArray.toList_eq,Bool.eq_iff_iff,List.isEmpty_iff,decide_eq_true_eq,← bl_length]
 exact List.length_eq_zero_iff.symm
theorem chk_hello:chk cHello=0:=by
 unfold chk chkF psC
 simp only[isE]
 decide +kernel
theorem itoa7:Lib.itoa 7=[55]:=by
 rw[show (7:Int)=((7:Nat):Int) from rfl,Lib.itoa_nonneg,Lib.decDigits,dif_pos (by decide)]
 decide
theorem words_hello:(wordsC (formC cHello).1 (formC cHello).2.1 (wdsC cHello)).map bl=[[104,101,108,108,111],[97,98],Lib.itoa 7]:=by rfl
theorem enc_hello:encT cHello=[104,101,108,108,111,32,97,98,32,55,13,10]:=by
 unfold encT lineC
 rw[if_neg (by rw[chk_hello];decide),words_hello,itoa7]
 decide +kernel
def qB:List UInt8:=[113,117,105,116,13,10,120]
theorem dec_quit:(decL qB).1.verb=11∧(decL qB).2.1=6∧(decL qB).2.2=0:=by decide +kernel
theorem stuff_ex:stE [97,10,46,98]=0∧stT [97,10,46,98]=[97,13,10,46,46,98,13,10,46,13,10]:=by decide +kernel
theorem hello_ok:cHello.ok:=⟨by decide,by decide,⟨by decide,by decide⟩,⟨by decide,by decide⟩,⟨by decide,by decide⟩,⟨by decide,by decide⟩⟩
set_option maxRecDepth 100000 in
set_option maxHeartbeats 1600000 in
theorem known11 (w:World) (hL:Laid w):Calls Tryz.prog 12 #[] w fun e w'=>e=.returned (.bool true)∧Below w.heap.size w w':=by
 have H15:=Lib.hid (encode15 cHello w hL hello_ok)
 rw[chk_hello,enc_hello] at H15
 obtain⟨⟨dq,nq,eq⟩,hq⟩:∃ r,decL qB=r:=⟨_,rfl⟩
 have hq1:=dec_quit
 rw[hq] at hq1
 obtain⟨hv,hn,he⟩:=hq1
 simp only at hv hn he
 subst hn he
 have H12:=Lib.hid (fun w1 (hl:Laid w1)=>decode12 ⟨#[113,117,105,116,13,10,120]⟩ w1 (by decide) hl)
 rw[show bl (⟨#[113,117,105,116,13,10,120]⟩:ByteArray)=qB from rfl,hq] at H12
 have H17:=Lib.hid (fun w1 (hm:Laid1 w1)=>stuff17 ⟨#[97,10,46,98]⟩ w1 (by decide) hm)
 rw[show bl (⟨#[97,10,46,98]⟩:ByteArray)=[97,10,46,98] from rfl,stuff_ex.1,stuff_ex.2] at H17
 have HL:=Lib.hid hL
 have HV:=Lib.hid hv
 clear hL hv hq
 go_enter Tryz.func12,Tryz.ntmps12
 go_wp2_with (first
  | (go_at_call 27;refine H15.out.mono ?_;rintro e w1 ⟨t,rfl,ht,hb1⟩;have h1:(t.toList==[104,101,108,108,111,32,97,98,32,55,13,10])=true:=(by rw[ByteArray.toList_eq,show t.data.toList=_ from ht];decide);have H1:=Lib.hid hb1;clear ht hb1)
  | (go_at_call 28;refine (H12.out _ (HL.out.keep H1.out)).mono ?_;rintro e w2 ⟨rfl,hb2⟩;have c0:(w2.alloc (.cells (aC dq) 74)).cell? ⟨w2.heap.size,0,none⟩=some (.int .i64 11):=(by rw[← HV.out];exact (Row.new w2 (cC dq) 74).cell 0);have H2:=Lib.hid (And.intro hb2 c0);clear hb2 c0)
  | (go_at_call 29;refine (H17.out _ ((((HL.out.keep H1.out).keep H2.out.1).keep (below_alloc _ _)).max)).mono ?_;rintro e w3 ⟨u,rfl,hu,hb3⟩;have h3:(u.toList==[97,13,10,46,46,98,13,10,46,13,10])=true:=(by rw[ByteArray.toList_eq,show u.data.toList=_ from hu];decide);have c0:=cell_below H2.out.2 hb3;have H3:=Lib.hid hb3;clear hu hb3))
 go_ret
 exact⟨rfl,Below.step (Below.step (Below.step H1.out H2.out.1) (below_alloc _ _)) H3.out⟩
end
section
open Go.RowKit
theorem any13 (l:List UInt8) (h:l.any (· == 13)=false):13∉l:=by
 intro hm
 have:=List.any_eq_false.1 h 13 hm
 simp at this
theorem stE_zero (l:List UInt8) (h:stE l=0):l.length≤262144∧13∉l:=by
 unfold stE at h
 split at h
 ·cases h
 ·split at h
  ·cases h
  ·next h1 h2=>exact⟨by omega,any13 l (Bool.eq_false_iff.2 h2)⟩
end
end Go.Proofs.YtdkjgcfhepplbaaGreatDoor
