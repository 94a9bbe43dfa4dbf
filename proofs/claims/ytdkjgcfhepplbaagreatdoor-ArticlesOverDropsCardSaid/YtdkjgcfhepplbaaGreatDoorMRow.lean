/- Bytes and strings as lists; the classes of bytes. ascii.skip at the class of hexadecimal digits: the offset behind the longest run of them. The plain functions of the commands' texts. command.firstLine. The reference's has. Stuffed texts: the plain laws of the reference's loop. The reference's stuffed. Stuffed texts: plain laws. The library's pieces are those of splitGo. Unstuff: the plain steps of its loop. -/
import Derived.Test.YtdkjgcfhepplbaaGreatDoorMCore
import Derived.Lib.Strings
import Derived.Lib.IndexBytes
import Derived.Test.YtdkjgcfhepplbaaGreatDoorMShelf
import Derived.Lib.SplitLaws
import Derived.Laws.IdiomCopy
namespace Go.Proofs.YtdkjgcfhepplbaaGreatDoor
section
open Go.RowKit
abbrev bl (s:ByteArray):List UInt8:=s.data.toList
abbrev vB (c:UInt8):Value:=.int .u8 (c.toNat:Int)
def digB (c:UInt8):Bool:=decide (48≤c.toNat) && decide (c.toNat≤57)
def hexB (c:UInt8):Bool:=digB c || (decide (97≤c.toNat) && decide (c.toNat≤102))
def hexV (c:UInt8):Nat:=if c.toNat≤57 then c.toNat - 48 else c.toNat - 87
def hexI (c:UInt8):Int:=if hexB c=true then (hexV c:Int) else -1
theorem ret_bool {a b:Bool} (h:a=b):Ending.returned (.bool a)=.returned (.bool b):=by rw[h]
theorem ret_int {k:IntKind} {a b:Int} (h:a=b):Ending.returned (.int k a)=.returned (.int k b):=by rw[h]
theorem byte_all {p:UInt8→Bool} (h:(List.range 256).all (fun n=>p (UInt8.ofNat n))=true) (c:UInt8):p c=true:=by
 have:=List.all_eq_true.1 h c.toNat (List.mem_range.2 c.toNat_lt)
 rwa[UInt8.ofNat_toNat] at this
theorem hexI_index (c:UInt8):Lib.indexByte [48,49,50,51,52,53,54,55,56,57,97,98,99,100,101,102] c=hexI c :=
 eq_of_beq (byte_all (p:=fun c=>Lib.indexByte [48,49,50,51,52,53,54,55,56,57,97,98,99,100,101,102] c==hexI c) (by decide +kernel) c)
theorem toUInt8_toNat (c:UInt8):((c.toNat:Int)).toNat.toUInt8=c:=by simp
theorem hexV_lt (c:UInt8) (h:hexB c=true):hexV c<16:=by
 unfold hexB digB at h
 unfold hexV
 simp at h
 split <;> omega
section
set_option maxHeartbeats 400000
theorem isDigit_b (c:UInt8) (w:World):Calls Tryz.prog 124 #[vB c] w fun e w'=>e=.returned (.bool (digB c))∧w=w':=by
 go_enter Tryz.func124,Tryz.ntmps124
 go_wp2
 all_goals
  go_ret
  exact⟨ret_bool (by unfold digB;rw[Bool.eq_iff_iff];simp;try omega),rfl⟩
theorem isHex_b (c:UInt8) (w:World):Calls Tryz.prog 138 #[vB c] w fun e w'=>e=.returned (.bool (hexB c))∧w=w':=by
 have hi:decide (0≤hexI c)=hexB c:=by
  unfold hexI
  by_cases h:hexB c=true
  ·rw[if_pos h,h];simp
  ·rw[if_neg h];simp at h;simp[h]
 have H:=Lib.hid hi;clear hi
 go_enter Tryz.func138,Tryz.ntmps138
 go_wp2_with (go_at_call 57;refine (Tryz.strings_IndexByte _ _ _).mono ?_;rw[toUInt8_toNat,show (⟨#[48,49,50,51,52,53,54,55,56,57,97,98,99,100,101,102]⟩:ByteArray).data.toList=[48,49,50,51,52,53,54,55,56,57,97,98,99,100,101,102] from rfl,hexI_index];rintro e w' ⟨rfl,rfl⟩)
 go_ret
 exact⟨ret_bool H.out,rfl⟩
theorem hexValue_b (c:UInt8) (h:hexB c=true) (w:World):Calls Tryz.prog 139 #[vB c] w fun e w'=>e=.returned (.int .u8 (hexV c:Int))∧w=w':=by
 have hi:hexI c=(hexV c:Int):=by unfold hexI;rw[if_pos h]
 have hv:=hexV_lt c h
 have hw:IntKind.u8.wrap (hexV c:Int)=(hexV c:Int):=by simp[IntKind.wrap,IntKind.bits,IntKind.signed];omega
 go_enter Tryz.func139,Tryz.ntmps139
 go_wp2_with (go_at_call 57;refine (Tryz.strings_IndexByte _ _ _).mono ?_;rw[toUInt8_toNat,show (⟨#[48,49,50,51,52,53,54,55,56,57,97,98,99,100,101,102]⟩:ByteArray).data.toList=[48,49,50,51,52,53,54,55,56,57,97,98,99,100,101,102] from rfl,hexI_index,hi];rintro e w' ⟨rfl,rfl⟩)
 go_ret
 exact⟨by rfl,rfl⟩
end
end
section
open Go.RowKit
def runL (p:UInt8→Bool) (l:List UInt8):Nat:=(l.takeWhile p).length
theorem bl_drop (s:ByteArray) (j:Nat) (h:j<s.size):(bl s).drop j=s[j] :: (bl s).drop (j+1):=by
 rw[List.drop_eq_getElem_cons (by simpa using h)]
 rfl
theorem bl_length (s:ByteArray):(bl s).length=s.size:=(Lib.size_eq s).symm
theorem runL_yes (p:UInt8→Bool) (s:ByteArray) (j:Nat) (h:j<s.size) (hp:p s[j]=true):runL p ((bl s).drop j)=runL p ((bl s).drop (j+1))+1:=by
 rw[bl_drop s j h]
 unfold runL
 rw[List.takeWhile_cons,if_pos hp]
 simp
theorem runL_no (p:UInt8→Bool) (s:ByteArray) (j:Nat) (h:j<s.size) (hp:p s[j]=false):runL p ((bl s).drop j)=0:=by
 rw[bl_drop s j h]
 unfold runL
 rw[List.takeWhile_cons,if_neg (by simp[hp])]
 rfl
theorem runL_le (p:UInt8→Bool) (l:List UInt8):runL p l≤l.length:=by
 unfold runL
 exact (List.takeWhile_prefix p).sublist.length_le
theorem runL_end (p:UInt8→Bool) (s:ByteArray) (j:Nat) (h:s.size≤j):runL p ((bl s).drop j)=0:=by
 rw[List.drop_eq_nil_of_le (by rw[bl_length];exact h)]
 rfl
set_option maxHeartbeats 400000 in
theorem skip_hex (s:ByteArray) (k:Nat) (w:World) (hk:k≤s.size) (hs:s.size≤4611686018427387904) :
  Calls Tryz.prog 129 #[.string s,.int .i64 (k:Int),.func (.func 138) #[] #[]] w fun e w'=>e=.returned (.int .i64 ((k+runL hexB ((bl s).drop k):Nat):Int))∧w=w':=by
 go_enter Tryz.func129,Tryz.ntmps129
 go_wp2
 go_loop [1] (fun i=>∃ j:Nat,j≤s.size∧i=.int .i64 j∧k+runL hexB ((bl s).drop k)=j+runL hexB ((bl s).drop j)) (fun i=>s.size - (intOf i).toNat)
 case atStart=>exact⟨k,hk,rfl,rfl⟩
 case round =>
  obtain⟨j,hj,rfl,he⟩:=hrel
  by_cases hlt:j<s.size
  ·rcases hp:hexB s[j] with _|_
   ·rw[runL_no hexB s j hlt hp] at he
    have HE:=Lib.hid he;clear he
    go_wp2_with (go_at_call 138;refine (isHex_b _ _).mono ?_;rintro e w' ⟨rfl,rfl⟩)
    go_ret
    exact⟨ret_int (by have:=HE.out;omega),rfl⟩
   ·rw[runL_yes hexB s j hlt hp] at he
    have HE:=Lib.hid he;clear he
    go_wp2_with (go_at_call 138;refine (isHex_b _ _).mono ?_;rintro e w' ⟨rfl,rfl⟩)
    go_round
    case rel=>exact⟨j+1,hlt,by go_num,by rw[HE.out];omega⟩
    case measure=>simp[intOf];omega
  ·rw[runL_end hexB s j (by omega)] at he
   have HE:=Lib.hid he;clear he
   have hjn:j=s.size:=by omega
   subst hjn
   go_wp2
   go_ret
   exact⟨ret_int (by have:=HE.out;omega),rfl⟩
end
section
open Go.RowKit
def splitGo (c:UInt8):List UInt8→List UInt8→List (List UInt8)
 | cur,[]=>[cur]
 | cur,x :: xs=>if x=c then cur :: splitGo c [] xs else splitGo c (cur++[x]) xs
def dotL (l:List UInt8):List UInt8:=if l.head? = some 46 then 46 :: l else l
def stuffP (ps:List (List UInt8)):List UInt8:=(ps.map fun l=>dotL l++[13,10]).flatten++[46,13,10]
def stuffL (s:List UInt8):List UInt8:=stuffP (splitGo 10 [] s)
theorem splitGo_ne (c:UInt8) (cur s:List UInt8):splitGo c cur s≠[]:=by
 induction s generalizing cur with
 | nil=>simp[splitGo]
 | cons x xs ih =>
  simp only[splitGo]
  split
  ·simp
  ·exact ih _
theorem stuffP_cons (l:List UInt8) (ps:List (List UInt8)):stuffP (l :: ps)=dotL l++[13,10]++stuffP ps:=by
 simp[stuffP,List.append_assoc]
def flGo:UInt8→List UInt8→Nat→Int×Nat
 | _,[],_=>(4,0)
 | last,x :: xs,i =>
  if x=13 then (if xs≠[]∧xs.head?≠some 10 then (6,0) else flGo 13 xs (i+1))
  else if x=10 then (if last=13 then (0,i) else (6,0))
  else flGo x xs (i+1)
theorem flGo_lt (last:UInt8) (s:List UInt8) (i k:Nat) (h:flGo last s i=(0,k)):i≤k∧k<i+s.length:=by
 induction s generalizing last i with
 | nil=>simp[flGo] at h
 | cons x xs ih =>
  simp only[flGo] at h
  split at h
  ·split at h
   ·simp at h
   ·have:=ih _ _ h
    simp only[List.length_cons]
    omega
  ·split at h
   ·split at h
    ·simp only[Prod.mk.injEq,true_and] at h
     simp only[List.length_cons]
     omega
    ·simp at h
   ·have:=ih _ _ h
    simp only[List.length_cons]
    omega
def unGo:Nat→Bool→List UInt8→Nat→List UInt8→List UInt8×Nat×Int
 | 0,_,_,_,_=>([],0,4)
 | fuel+1,first,text,n,s =>
  match flGo 0 s 0 with
  | (0,k) =>
   let l:=s.take (k - 1)
   if l=[46] then (if first then ([],0,3) else (text,n+(k+1),0))
   else if l.head? = some 46∧l[1]?≠some 46 then ([],0,3)
   else
    let l':=if l.head? = some 46 then l.drop 1 else l
    let text':=(if first then text else text++[10])++l'
    if 262144<text'.length then ([],0,5) else unGo fuel false text' (n+(k+1)) (s.drop (k+1))
  | (e,_)=>([],0,e)
def unL (s:List UInt8):List UInt8×Nat×Int:=unGo (s.length+1) true [] 0 s
end
section
open Go.RowKit
def prevB (s:ByteArray) (j:Nat):UInt8:=if h:0<j∧j≤s.size then s[j - 1]'(by omega) else 0
theorem flGo_step (s:ByteArray) (j:Nat) (h:j<s.size):flGo (prevB s j) ((bl s).drop j) j =
  if s[j]=13 then (if (h2:j+1<s.size)→s[j+1]=10 then flGo (prevB s (j+1)) ((bl s).drop (j+1)) (j+1) else (6,0))
  else if s[j]=10 then (if prevB s j=13 then (0,j) else (6,0)) else flGo (prevB s (j+1)) ((bl s).drop (j+1)) (j+1):=by
 have hp:prevB s (j+1)=s[j]:=by unfold prevB;rw[dif_pos ⟨by omega,by omega⟩];rfl
 rw[hp,bl_drop s j h,flGo]
 by_cases h13:s[j]=13
 ·rw[if_pos h13,if_pos h13]
  by_cases h2:j+1<s.size
  ·rw[bl_drop s (j+1) h2]
   by_cases h10:s[j+1]=10
   ·rw[if_neg (by simp[h10]),if_pos (fun _=>h10),h13]
   ·rw[if_pos (by simp[h10]),if_neg (fun hh=>h10 (hh h2))]
  ·rw[List.drop_eq_nil_of_le (by rw[bl_length];omega),if_neg (by simp),if_pos (fun hh=>absurd hh h2),h13]
 ·rw[if_neg h13,if_neg h13]
theorem flGo_end (s:ByteArray) (j:Nat) (h:s.size≤j):flGo (prevB s j) ((bl s).drop j) j=(4,0):=by
 rw[List.drop_eq_nil_of_le (by rw[bl_length];exact h)];rfl
def flS (s:ByteArray) (r:Int×Nat):ByteArray:=if r.1=0 then s.extract 0 (r.2 - 1) else ⟨#[]⟩
set_option maxRecDepth 100000 in
set_option maxHeartbeats 1600000 in
theorem first47 (s:ByteArray) (w:World) (hs:s.size≤4611686018427387904) :
  Calls Tryz.prog 96 #[.string s] w fun e w'=>e=.returned (.tuple #[.string (flS s (flGo 0 (bl s) 0)),.int .i64 (flGo 0 (bl s) 0).1])∧w'=w:=by
 go_enter Tryz.func96,Tryz.ntmps96
 go_wp2
 go_loop [4] (fun i=>∃ j:Nat,j≤s.size∧i=.int .i64 j∧flGo 0 (bl s) 0=flGo (prevB s j) ((bl s).drop j) j) (fun i=>s.size - (intOf i).toNat)
 case atStart=>exact⟨0,by omega,rfl,rfl⟩
 case round =>
  obtain⟨j,hj,rfl,he⟩:=hrel
  have HE:=Lib.hid he;clear he
  by_cases hlt:j<s.size
  ·have HS:=Lib.hid (HE.out.trans (flGo_step s j hlt))
   have hb:∀ c:UInt8,(((s[j].toNat:Nat):Int)==((c.toNat:Nat):Int))=(s[j]==c):=fun c=>by
    rw[Bool.eq_iff_iff];simp only[beq_iff_eq,Int.natCast_inj];exact⟨UInt8.toNat_inj.1,fun h=>by rw[h]⟩
   have HB:=Lib.hid hb
   clear hb
   by_cases h13:s[j]=13
   ·have e13:(((s[j].toNat:Nat):Int)==13)=true:=(HB.out 13).trans (by simp[h13])
    have H13:=Lib.hid h13
    clear h13
    by_cases h2:j+1<s.size
    ·have hb2:∀ c:UInt8,(((s[j+1].toNat:Nat):Int) != ((c.toNat:Nat):Int))=(s[j+1] != c):=fun c=>by
      unfold bne
      rw[Bool.not_inj_iff,Bool.eq_iff_iff];simp only[beq_iff_eq,Int.natCast_inj];exact⟨UInt8.toNat_inj.1,fun h=>by rw[h]⟩
     by_cases h10:s[j+1]=10
     ·have e10:(((s[j+1].toNat:Nat):Int) != 10)=false:=(hb2 10).trans (by simp[h10])
      have H10:=Lib.hid (And.intro h10 hb2)
      clear h10 hb2
      go_wp2
      go_round
      case rel=>exact⟨j+1,hlt,by go_num,by rw[HS.out,if_pos H13.out,if_pos (fun _=>H10.out.1)]⟩
      case measure=>simp[intOf];omega
     ·have e10:(((s[j+1].toNat:Nat):Int) != 10)=true:=(hb2 10).trans (by simp[h10])
      have H10:=Lib.hid h10
      clear h10 hb2
      go_wp2
      go_ret2
      rw[HS.out,if_pos H13.out,if_neg (fun hh=>H10.out (hh h2))]
      exact⟨rfl,rfl⟩
    ·go_wp2
     go_round
     case rel=>exact⟨j+1,hlt,by go_num,by rw[HS.out,if_pos H13.out,if_pos (fun hh=>absurd hh h2)]⟩
     case measure=>simp[intOf];omega
   ·have e13:(((s[j].toNat:Nat):Int)==13)=false:=(HB.out 13).trans (by simp[h13])
    have H13:=Lib.hid h13
    clear h13
    by_cases h10:s[j]=10
    ·have e10:(((s[j].toNat:Nat):Int)==10)=true:=(HB.out 10).trans (by simp[h10])
     have H10:=Lib.hid h10
     clear h10
     cases j with
     | zero =>
      go_wp2
      go_ret2
      rw[HS.out,if_neg H13.out,if_pos H10.out,if_neg (by unfold prevB;rw[dif_neg (by omega)];decide)]
      exact⟨rfl,rfl⟩
     | succ j =>
      have hj1:j<s.size:=by omega
      have hb2:∀ c:UInt8,(((s[j].toNat:Nat):Int) != ((c.toNat:Nat):Int))=(s[j] != c):=fun c=>by
       unfold bne
       rw[Bool.not_inj_iff,Bool.eq_iff_iff];simp only[beq_iff_eq,Int.natCast_inj];exact⟨UInt8.toNat_inj.1,fun h=>by rw[h]⟩
      have hpv:prevB s (j+1)=s[j]:=by unfold prevB;rw[dif_pos ⟨by omega,by omega⟩];rfl
      by_cases hc:s[j]=13
      ·have ec:(((s[j].toNat:Nat):Int) != 13)=false:=(hb2 13).trans (by simp[hc])
       have HC:=Lib.hid (And.intro hc hpv)
       clear hc hb2 hpv
       go_wp2
       go_ret2
       rw[HS.out,if_neg H13.out,if_pos H10.out,if_pos (HC.out.2.trans HC.out.1)]
       exact⟨rfl,rfl⟩
      ·have ec:(((s[j].toNat:Nat):Int) != 13)=true:=(hb2 13).trans (by simp[hc])
       have HC:=Lib.hid (And.intro hc hpv)
       clear hc hb2 hpv
       go_wp2
       go_ret2
       rw[HS.out,if_neg H13.out,if_pos H10.out,if_neg (fun h=>HC.out.1 (HC.out.2.symm.trans h))]
       exact⟨rfl,rfl⟩
    ·have e10:(((s[j].toNat:Nat):Int)==10)=false:=(HB.out 10).trans (by simp[h10])
     have H10:=Lib.hid h10
     clear h10
     go_wp2
     go_round
     case rel=>exact⟨j+1,hlt,by go_num,by rw[HS.out,if_neg H13.out,if_neg H10.out]⟩
     case measure=>simp[intOf];omega
  ·have hjn:j=s.size:=by omega
   subst hjn
   go_wp2
   go_ret2
   rw[HE.out,flGo_end _ _ (Nat.le_refl _)]
   exact⟨rfl,rfl⟩
end
section
open Go.RowKit
def seg (s:ByteArray) (a b:Nat):List UInt8:=((bl s).drop a).take (b - a)
theorem dotL_le (l:List UInt8):(dotL l).length≤l.length+1:=by
 unfold dotL
 split
 ·simp
 ·omega
theorem stuffP_le (c:UInt8) (s:List UInt8):∀ cur,(stuffP (splitGo c cur s)).length≤cur.length+4 * s.length+6:=by
 induction s with
 | nil =>
  intro cur
  have:=dotL_le cur
  rw[splitGo,stuffP_cons]
  simp only[stuffP,List.map_nil,List.flatten_nil,List.nil_append,List.length_append,List.length_cons,List.length_nil]
  omega
 | cons x xs ih =>
  intro cur
  rw[splitGo]
  split
  ·have:=dotL_le cur
   have:=ih []
   rw[stuffP_cons]
   simp only[List.length_append,List.length_cons,List.length_nil] at this ⊢
   omega
  ·have:=ih (cur++[x])
   simp only[List.length_append,List.length_cons,List.length_nil] at this ⊢
   omega
end
section
open Go.RowKit
theorem bl_app (a b:ByteArray):bl (a++b)=bl a++bl b:=by simp[bl]
theorem bl_seg (s:ByteArray) (a b:Nat) (_hb:b≤s.size):bl (s.extract a b)=seg s a b:=by
 unfold seg bl
 rw[Lib.extract_data]
end
section
def joinP:List (List UInt8)→List UInt8
 | []=>[]
 | [l]=>l
 | l :: l2 :: ps=>l++10 :: joinP (l2 :: ps)
theorem joinP_cons (l:List UInt8) (ps:List (List UInt8)) (h:ps≠[]):joinP (l :: ps)=l++10 :: joinP ps:=by
 cases ps with
 | nil=>exact absurd rfl h
 | cons a ps=>rfl
theorem joinP_split (s:List UInt8):∀ cur,joinP (splitGo 10 cur s)=cur++s:=by
 induction s with
 | nil=>intro cur;simp[splitGo,joinP]
 | cons x xs ih =>
  intro cur
  rw[splitGo]
  split
  ·next h=>rw[joinP_cons _ _ (splitGo_ne _ _ _),ih,h];rfl
  ·rw[ih];simp
def plainB (l:List UInt8):Prop:=10∉l∧13∉l
theorem split_plain (s:List UInt8):∀ cur,plainB cur→13∉s→∀ l∈splitGo 10 cur s,plainB l:=by
 induction s with
 | nil=>intro cur hc _ l hl;simp only[splitGo,List.mem_singleton] at hl;rw[hl];exact hc
 | cons x xs ih =>
  intro cur hc h13 l hl
  rw[splitGo] at hl
  have h13':13∉xs:=fun h=>h13 (List.mem_cons_of_mem _ h)
  have hx:x≠13:=fun h=>h13 (by rw[h];exact List.mem_cons_self)
  split at hl
  ·rcases List.mem_cons.1 hl with h|h
   ·rw[h];exact hc
   ·exact ih [] ⟨by simp,by simp⟩ h13' l h
  ·next hn =>
   refine ih (cur++[x]) ⟨?_,?_⟩ h13' l hl
   ·intro h
    rcases List.mem_append.1 h with h|h
    ·exact hc.1 h
    ·exact hn (List.mem_singleton.1 h).symm
   ·intro h
    rcases List.mem_append.1 h with h|h
    ·exact hc.2 h
    ·exact hx (List.mem_singleton.1 h).symm
theorem dotL_plain (l:List UInt8) (h:plainB l):plainB (dotL l):=by
 unfold dotL
 split
 ·refine⟨?_,?_⟩
  ·intro hm
   rcases List.mem_cons.1 hm with h2|h2
   ·exact absurd h2 (by decide)
   ·exact h.1 h2
  ·intro hm
   rcases List.mem_cons.1 hm with h2|h2
   ·exact absurd h2 (by decide)
   ·exact h.2 h2
 ·exact h
theorem dotL_ne (l:List UInt8):dotL l≠[46]:=by
 unfold dotL
 split
 ·next h =>
  intro e
  have:l=[]:=(List.cons.inj e).2
  rw[this] at h
  simp at h
 ·next h =>
  intro e
  rw[e] at h
  simp at h
theorem dotL_two (l:List UInt8) (h:(dotL l).head? = some 46):dotL l=46 :: l∧l.head? = some 46:=by
 unfold dotL at h ⊢
 split at h
 ·next h2=>rw[if_pos h2];exact⟨rfl,h2⟩
 ·next h2=>exact absurd h h2
theorem dotL_back (l:List UInt8):(if (dotL l).head? = some 46 then (dotL l).drop 1 else dotL l)=l:=by
 split
 ·next h=>rw[(dotL_two l h).1];rfl
 ·next h =>
  unfold dotL at h ⊢
  split
  ·next h2=>rw[if_pos h2] at h;simp at h
  ·rfl
theorem flGo_line (l:List UInt8) (hl:plainB l) (r:List UInt8):∀ (last:UInt8) (i:Nat),flGo last (l++13 :: 10 :: r) i=(0,i+l.length+1):=by
 induction l with
 | nil=>intro last i;simp[flGo]
 | cons x xs ih =>
  intro last i
  have h10:x≠10:=fun h=>hl.1 (by rw[h];exact List.mem_cons_self)
  have h13:x≠13:=fun h=>hl.2 (by rw[h];exact List.mem_cons_self)
  rw[List.cons_append,flGo,if_neg h13,if_neg h10,ih ⟨fun h=>hl.1 (List.mem_cons_of_mem _ h),fun h=>hl.2 (List.mem_cons_of_mem _ h)⟩]
  simp only[List.length_cons]
  congr 1
  omega
theorem unGo_last (f:Nat) (text:List UInt8) (n:Nat) (rest:List UInt8):unGo (f+1) false text n ([46,13,10]++rest)=(text,n+3,0):=by
 simp[unGo,flGo]
theorem unGo_line (f:Nat) (first:Bool) (text:List UInt8) (n:Nat) (l:List UInt8) (hl:plainB l) (r:List UInt8)
  (hb:((if first then text else text++[10])++l).length≤262144) :
  unGo (f+1) first text n (dotL l++13 :: 10 :: r)=unGo f false ((if first then text else text++[10])++l) (n+((dotL l).length+2)) r:=by
 rw[unGo,flGo_line _ (dotL_plain l hl) r]
 simp only[Nat.zero_add,Nat.add_sub_cancel]
 rw[List.take_left,if_neg (dotL_ne l),if_neg (by
  rintro⟨h1,h2⟩
  obtain⟨h3,h4⟩:=dotL_two l h1
  rw[h3] at h2
  apply h2
  rw[List.getElem?_cons_succ,← List.head?_eq_getElem?]
  exact h4),dotL_back,if_neg (by omega)]
 congr 1
 rw[show (dotL l).length+1+1=(dotL l++[13,10]).length by simp,show dotL l++13 :: 10 :: r=(dotL l++[13,10])++r by simp,List.drop_left]
theorem unGo_all (rest:List UInt8):∀ (ps:List (List UInt8)) (fuel:Nat) (first:Bool) (text:List UInt8) (n:Nat),ps≠[]→(∀ l∈ps,plainB l)→ps.length<fuel →
  ((if first then text else text++[10])++joinP ps).length≤262144 →
  unGo fuel first text n (stuffP ps++rest)=((if first then text else text++[10])++joinP ps,n+(stuffP ps).length,0):=by
 intro ps
 induction ps with
 | nil=>intro _ _ _ _ h;exact absurd rfl h
 | cons l ps ih =>
  intro fuel first text n _ hp hf hb
  obtain⟨f,rfl⟩:∃ f,fuel=f+1:=⟨fuel - 1,by simp only[List.length_cons] at hf;omega⟩
  have hl:=hp l List.mem_cons_self
  have e1:stuffP (l :: ps)++rest=dotL l++13 :: 10 :: (stuffP ps++rest):=by rw[stuffP_cons];simp
  have hle:l.length≤(joinP (l :: ps)).length:=by
   cases ps with
   | nil=>exact Nat.le_refl _
   | cons a ps=>rw[joinP_cons _ _ (by simp),List.length_append];omega
  rw[e1,unGo_line f first text n l hl _ (by rw[List.length_append] at hb ⊢;omega)]
  cases ps with
  | nil =>
   obtain⟨g,rfl⟩:∃ g,f=g+1:=⟨f - 1,by simp only[List.length_cons,List.length_nil] at hf;omega⟩
   rw[show stuffP []=[46,13,10] from rfl,unGo_last,stuffP_cons,show joinP [l]=l from rfl]
   rw[show stuffP []=[46,13,10] from rfl]
   simp only[List.length_append,List.length_cons,List.length_nil]
   congr 2
  | cons a ps =>
   rw[joinP_cons _ _ (by simp)] at hb ⊢
   rw[ih f false _ _ (by simp) (fun x hx=>hp x (List.mem_cons_of_mem _ hx)) (by simp only[List.length_cons] at hf ⊢;omega) (by simpa using hb)]
   rw[stuffP_cons l (a :: ps)]
   simp only[List.length_append,List.length_cons,Bool.false_eq_true,if_false,List.append_assoc,List.cons_append,List.nil_append]
   congr 2
   omega
theorem splitGo_len (s:List UInt8):∀ cur,(splitGo 10 cur s).length≤s.length+1:=by
 induction s with
 | nil=>intro cur;simp[splitGo]
 | cons x xs ih =>
  intro cur
  rw[splitGo]
  split
  ·have:=ih [];simp only[List.length_cons];omega
  ·have:=ih (cur++[x]);simp only[List.length_cons];omega
theorem stuffP_len (ps:List (List UInt8)):2 * ps.length+3≤(stuffP ps).length:=by
 induction ps with
 | nil=>simp[stuffP]
 | cons l ps ih=>rw[stuffP_cons];simp only[List.length_append,List.length_cons,List.length_nil];omega
theorem un_stuff (s rest:List UInt8) (h13:13∉s) (hs:s.length≤262144):unL (stuffL s++rest)=(s,(stuffL s).length,0):=by
 unfold unL stuffL
 have hj:=joinP_split s []
 rw[unGo_all rest _ _ true [] 0 (splitGo_ne _ _ _) (split_plain s [] ⟨by simp,by simp⟩ h13) (by
  have:=stuffP_len (splitGo 10 [] s)
  rw[List.length_append]
  omega) (by simp only[if_true,List.nil_append];rw[hj];exact hs)]
 simp only[if_true,List.nil_append,Nat.zero_add]
 rw[hj]
 rfl
end
section
open Go.Lib
theorem splitGo_cur (c:UInt8) (s:List UInt8):∀ cur,splitGo c cur s=match splitGo c [] s with|[]=>[]|h :: t=>(cur++h) :: t:=by
 induction s with
 | nil=>intro cur;simp[splitGo]
 | cons x xs ih =>
  intro cur
  rw[splitGo,splitGo]
  by_cases h:x=c
  ·rw[if_pos h,if_pos h];simp
  ·rw[if_neg h,if_neg h,ih (cur++[x]),ih ([]++[x])]
   cases splitGo c [] xs with
   | nil=>rfl
   | cons a t=>simp
theorem splitK_ne (c b:UInt8) (l:List UInt8) (k:Nat) (h:b≠c):splitK [c] 0 k (b :: l)=match splitK [c] 0 k l with|[]=>[]|h :: t=>(b :: h) :: t:=by
 cases k with
 | zero=>rfl
 | succ k =>
  have hp:([c]:List UInt8).isPrefixOf (b :: l)=false:=by simp[List.isPrefixOf,Ne.symm h]
  have hix:index (b :: l) [c]=if index l [c] == -1 then -1 else index l [c]+1:=by rw[index,hp];simp
  have hge:=index_ge l [c]
  rw[splitK,splitK,hix]
  by_cases hm:index l [c]=-1
  ·rw[hm];rfl
  ·obtain⟨j,hj⟩:∃ j:Nat,index l [c]=j:=⟨(index l [c]).toNat,by omega⟩
   rw[hj]
   have e1:((j:Int) == -1)=false:=by simp only[beq_eq_false_iff_ne];omega
   have e2:(((j:Int)+1) == -1)=false:=by simp only[beq_eq_false_iff_ne];omega
   rw[e1]
   simp only[Bool.false_eq_true,if_false]
   rw[e2]
   simp only[Bool.false_eq_true,if_false]
   rw[show ((j:Int)+1).toNat=j+1 by omega,Int.toNat_natCast]
   simp[Nat.add_assoc]
theorem splitK_go (c:UInt8) (s:List UInt8):splitK [c] 0 (count s [c]) s=splitGo c [] s:=by
 induction s with
 | nil=>rw[count_one];rfl
 | cons b l ih =>
  by_cases h:b=c
  ·rw[h,count_cons_eq,Nat.add_comm,splitK]
   have hix:index (c :: l) [c]=0:=by rw[index];simp[List.isPrefixOf]
   rw[hix,splitGo,if_pos rfl,← ih]
   rfl
  ·rw[count_cons_ne b c l h,splitK_ne c b l _ h,ih,splitGo,if_neg h,splitGo_cur c l ([]++[b])]
   rfl
theorem splitB_go (c:UInt8) (s:ByteArray):(splitB ⟨#[c]⟩ 0 (countB s ⟨#[c]⟩) s).map bl=splitGo c [] (bl s):=by
 have h:=splitB_data ⟨#[c]⟩ 0 (countB s ⟨#[c]⟩) s
 exact h.trans (splitK_go c (bl s))
theorem index_any (c:UInt8) (l:List UInt8):decide (0≤indexByte l c)=l.any (· == c):=by
 induction l with
 | nil=>rfl
 | cons b l ih =>
  have hge:=indexByte_ge l c
  rw[indexByte,List.any_cons,← ih]
  by_cases h:(b==c)=true
  ·rw[h];rfl
  ·rw[Bool.not_eq_true] at h
   rw[h]
   simp only[Bool.false_eq_true,if_false,Bool.false_or]
   by_cases hm:indexByte l c=-1
   ·rw[hm];rfl
   ·have e:(indexByte l c == -1)=false:=by simpa using hm
    rw[e]
    simp only[Bool.false_eq_true,if_false,decide_eq_decide]
    omega
theorem pre_dot (s:ByteArray):Lib.hasPrefix s.data.toList [46]=decide ((bl s).head? = some 46):=by
 unfold Lib.hasPrefix bl
 cases s.data.toList with
 | nil=>rfl
 | cons a t =>
  simp only[List.isPrefixOf,Bool.and_true,List.head?_cons,Option.some.injEq]
  rw[Bool.eq_iff_iff,decide_eq_true_eq,beq_iff_eq]
  exact⟨Eq.symm,Eq.symm⟩
end
section
theorem unGo_err (f:Nat) (first:Bool) (text:List UInt8) (n:Nat) (l:List UInt8) (e:Int) (k:Nat) (h:flGo 0 l 0=(e,k)) (he:e≠0):unGo (f+1) first text n l=([],0,e):=by
 rw[unGo,h]
 split
 ·next heq=>exact absurd (Prod.mk.inj heq).1 he
 ·next heq=>rw[← (Prod.mk.inj heq).1]
def preL (first:Bool) (text:List UInt8):List UInt8:=if first then text else text++[10]
theorem unGo_ok (f:Nat) (first:Bool) (text:List UInt8) (n:Nat) (l:List UInt8) (k:Nat) (h:flGo 0 l 0=(0,k)):unGo (f+1) first text n l =
  if l.take (k - 1)=[46] then (if first then ([],0,3) else (text,n+(k+1),0))
  else if (l.take (k - 1)).head? = some 46∧(l.take (k - 1))[1]?≠some 46 then ([],0,3)
  else if 262144<(preL first text++(if (l.take (k - 1)).head? = some 46 then (l.take (k - 1)).drop 1 else l.take (k - 1))).length then ([],0,5)
  else unGo f false (preL first text++(if (l.take (k - 1)).head? = some 46 then (l.take (k - 1)).drop 1 else l.take (k - 1))) (n+(k+1)) (l.drop (k+1)):=by
 rw[unGo,h]
 rfl
theorem flGo_pos (last:UInt8) (s:List UInt8) (i k:Nat) (h:flGo last s i=(0,k)) (hl:last≠13):i+1≤k:=by
 cases s with
 | nil=>simp[flGo] at h
 | cons x xs =>
  simp only[flGo] at h
  split at h
  ·split at h
   ·simp at h
   ·exact (flGo_lt _ _ _ _ h).1
  ·split at h
   ·simp at h
   ·exact (flGo_lt _ _ _ _ h).1
theorem line_of (s:ByteArray) (n k:Nat) (hn:n≤s.size) (h:flGo 0 ((bl s).drop n) 0=(0,k)):1≤k∧n+k<s.size∧bl (s.extract n (n+k - 1))=((bl s).drop n).take (k - 1):=by
 have h1:=flGo_lt _ _ _ _ h
 have h2:=flGo_pos _ _ _ _ h (by decide)
 rw[List.length_drop,bl_length] at h1
 refine⟨by omega,by omega,?_⟩
 rw[bl_seg s n (n+k - 1) (by omega)]
 unfold seg
 rw[show n+k - 1 - n=k - 1 by omega]
def addL (first:Bool) (text l:List UInt8):List UInt8:=preL first text++l
section
variable {f n k : Nat} {first : Bool} {text : List UInt8} {s L : ByteArray} {X : List UInt8 × Nat × Int}
variable (hk : flGo 0 ((bl s).drop n) 0 = (0, k)) (hL : bl L = ((bl s).drop n).take (k - 1)) (hu : unGo (f + 1) first text n ((bl s).drop n) = X)
include hk hL hu
theorem un_dot (hd:bl L=[46]):X=if first then ([],0,3) else (text,n+(k+1),0):=by
 rw[← hu,unGo_ok f first text n _ k hk,← hL,if_pos hd]
theorem un_bad (hd:bl L≠[46]) (h1:(bl L).head? = some 46) (h2:(bl L)[1]?≠some 46):X=([],0,3):=by
 rw[← hu,unGo_ok f first text n _ k hk,← hL,if_neg hd,if_pos ⟨h1,h2⟩]
theorem un_long (hd:bl L≠[46]) (l:List UInt8) (h:((bl L).head?≠some 46∧l=bl L)∨((bl L).head? = some 46∧(bl L)[1]? = some 46∧l=(bl L).drop 1)) (h5:262144<(addL first text l).length):X=([],0,5):=by
 rw[← hu,unGo_ok f first text n _ k hk,← hL,if_neg hd]
 unfold addL at h5
 rcases h with⟨h1,rfl⟩|⟨h1,h2,rfl⟩
 ·rw[if_neg (fun hh=>h1 hh.1),if_neg h1,if_pos h5]
 ·rw[if_neg (fun hh=>hh.2 h2),if_pos h1,if_pos h5]
theorem un_more (hd:bl L≠[46]) (l:List UInt8) (h:((bl L).head?≠some 46∧l=bl L)∨((bl L).head? = some 46∧(bl L)[1]? = some 46∧l=(bl L).drop 1)) (h5:¬ 262144<(addL first text l).length):unGo f false (addL first text l) (n+(k+1)) ((bl s).drop (n+(k+1)))=X:=by
 rw[← hu,unGo_ok f first text n _ k hk,← hL,if_neg hd]
 unfold addL at h5 ⊢
 rcases h with⟨h1,rfl⟩|⟨h1,h2,rfl⟩
 ·rw[if_neg (fun hh=>h1 hh.1),if_neg h1,if_neg h5,List.drop_drop]
 ·rw[if_neg (fun hh=>hh.2 h2),if_pos h1,if_neg h5,List.drop_drop]
end
end
open Go.RowKit
def Row (w:World) (b:Nat) (cs:List Value) (t:TypeId):Prop:=w.heap[b]? = some (.cells cs.toArray t (0,0))
section
variable {w w' : World} {b : Nat} {cs : List Value} {t : TypeId}
theorem Row.cell (h:Row w b cs t) (k:Nat):w.cell? ⟨b,k,none⟩=cs[k]?:=by
 unfold Row at h
 simp[World.cell?,h]
theorem Row.fz (h:Row w b cs t) (k:Nat):w.frozen? ⟨b,k,none⟩=false:=by
 unfold Row at h
 simp[World.frozen?,h]
theorem Row.lt (h:Row w b cs t):b<w.heap.size:=(Array.getElem?_eq_some_iff.1 h).1
theorem add_off (b k j:Nat):(⟨b,k,none⟩:Addr).add j=⟨b,k+j,none⟩:=by unfold Addr.add;split <;> simp_all
theorem Row.at_ (h:Row w b cs t) {k n:Nat} {ds:List Value} (hd:(cs.drop k).take n=ds):At w ⟨b,k,none⟩ ds:=by
 refine⟨h.lt,fun j u hu=>?_⟩
 rw[add_off,h.cell]
 rw[← hd,List.getElem?_take] at hu
 split at hu
 ·rwa[List.getElem?_drop] at hu
 ·cases hu
theorem Row.keep (h:Row w b cs t) (hb:Below w.heap.size w w'):Row w' b cs t:=(hb.block b h.lt).trans h
theorem Row.same (h:Row w b cs t) (hb:w'.heap[b]? = w.heap[b]?):Row w' b cs t:=hb.trans h
theorem Row.new (w:World) (cs:List Value) (t:TypeId):Row (w.alloc (.cells cs.toArray t)) w.heap.size cs t:=by
 show (w.heap.push _)[w.heap.size]? = _
 simp
theorem Row.set (h:Row w b cs t) (k:Nat) (v:Value):Row (w.setCell ⟨b,k,none⟩ v) b (cs.set k v) t:=by
 unfold Row at *
 simp only[World.setCell,Array.getElem?_modify,h]
 simp
theorem heap_set_other (w:World) (g k:Nat) (v:Value) (j:Nat) (hj:j≠g):(w.setCell ⟨g,k,none⟩ v).heap[j]? = w.heap[j]?:=Below.heap_setCell w _ v j hj
def stD (w:World) (b k:Nat) (ds:List Value):World:=w.setCells b k ds
theorem heap_setCells_other (b:Nat):∀ (ds:List Value) (k:Nat) (w:World) (j:Nat),j≠b→(w.setCells b k ds).heap[j]? = w.heap[j]?
 | [],_,_,_,_=>rfl
 | v :: r,k,w,j,h=>by
  rw[World.setCells,heap_setCells_other b r (k+1) _ j h]
  exact heap_set_other w b k v j h
theorem heap_stD_other (w:World) (b k:Nat) (ds:List Value) (j:Nat) (h:j≠b):(stD w b k ds).heap[j]? = w.heap[j]?:=heap_setCells_other b ds k w j h
theorem setCells_size (b:Nat):∀ (ds:List Value) (k:Nat) (w:World),(w.setCells b k ds).heap.size=w.heap.size
 | [],_,_=>rfl
 | v :: r,k,w=>by rw[World.setCells,setCells_size b r (k+1)];simp[World.setCell]
theorem setCells_os (b:Nat):∀ (ds:List Value) (k:Nat) (w:World),(w.setCells b k ds).os=w.os∧(w.setCells b k ds).tape=w.tape∧(w.setCells b k ds).output=w.output
 | [],_,_=>⟨rfl,rfl,rfl⟩
 | v :: r,k,w=>by rw[World.setCells];exact setCells_os b r (k+1) _
theorem Below.stD {B:Nat} {a w:World} (h:Below B a w) {b:Nat} (hb:B≤b) (k:Nat) (ds:List Value):Below B a (stD w b k ds):=by
 obtain⟨h1,h2,h3⟩:=setCells_os b ds k w
 exact⟨h1.trans h.os,h2.trans h.tape,h3.trans h.output,Nat.le_trans h.size (Nat.le_of_eq (setCells_size b ds k w).symm),fun j hj=>(heap_stD_other w b k ds j (by omega)).trans (h.block j hj)⟩
theorem Row.sets:∀ (ds:List Value) (k:Nat) {w:World} {cs:List Value},Row w b cs t→k+ds.length≤cs.length→Row (w.setCells b k ds) b (cs.take k++ds++cs.drop (k+ds.length)) t
 | [],k,w,cs,h,hk=>by
  rw[World.setCells]
  simpa using h
 | v :: r,k,w,cs,h,hk=>by
  have hk2:k+1+r.length≤(cs.set k v).length:=by rw[List.length_set];simp at hk;omega
  have ih:=Row.sets r (k+1) (h.set k v) hk2
  rw[World.setCells]
  have e:(cs.set k v).take (k+1)++r++(cs.set k v).drop (k+1+r.length)=cs.take k++v :: r++cs.drop (k+(v :: r).length):=by
   have hlt:k<cs.length:=by simp at hk;omega
   rw[List.take_succ_eq_append_getElem (by rw[List.length_set];exact hlt),List.getElem_set_self,List.take_set_of_le (Nat.le_refl k),List.drop_set_of_lt (by omega),List.length_cons]
   simp only[List.append_assoc,List.cons_append,List.nil_append]
   rw[show k+1+r.length=k+(r.length+1) by omega]
  rwa[e] at ih
theorem Row.stD (h:Row w b cs t) (k:Nat) (ds:List Value) (hk:k+ds.length≤cs.length):Row (stD w b k ds) b (cs.take k++ds++cs.drop (k+ds.length)) t:=Row.sets ds k h hk
end
def stOk (w:World) (b k n:Nat):Bool:=match w.heap[b]? with|some (.cells cs _ (0,0))=>decide (k+n≤cs.size)|_=>false
section
variable {P : Program} (w : World)
theorem Row.ok {b:Nat} {cs:List Value} {t:TypeId} (h:Row w b cs t) (k n:Nat) (hk:k+n≤cs.length):stOk w b k n=true:=by
 unfold Row at h
 simp only[stOk,h]
 simpa using hk
theorem run_stA_off (ty:TypeId) (b k:Nat) (ds:List Value) (n:Nat) (h:stOk w b k n=true) (hi:(P.info? ty).map (·.size)=some n) (hn:ds.length=n) (h1:∀ v∈ds,v.oneCell'=true) :
  (stA ty (.pointer (some ⟨b,k,none⟩)) (.agg ds.toArray)).run P w=.ok () (stD w b k ds):=by
 unfold stOk at h
 split at h
 ·rename_i cs t hg
  have hk:k+n≤cs.size:=of_decide_eq_true h
  subst hn
  cases hq:P.info? ty with
  | none=>simp[hq] at hi
  | some i =>
   have hs:i.size=ds.length:=by simpa[hq] using hi
   have hst:=run_storeCells_cells (P:=P) b k ds 0 w (fun j hj=>by simp[World.cell?,hg];omega) (fun j hj=>by simp[World.frozen?,hg]) h1
   simp only[stA,Instr.storeAt,Instr.sureAddr,Sem.run_bind,Sem.run_pure,Result.andThen_ok]
   unfold storeVar
   have hc:(Value.agg ds.toArray).cells=ds.toArray:=rfl
   simp[Sem.run_bind,sizeOf,typeInfo,hq,hs,hst,stD,hc]
 ·cases h
end
end Go.Proofs.YtdkjgcfhepplbaaGreatDoor
