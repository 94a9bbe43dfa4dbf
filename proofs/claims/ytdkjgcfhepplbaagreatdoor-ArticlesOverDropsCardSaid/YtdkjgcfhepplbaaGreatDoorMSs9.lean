/- bulletintop: what the law calls: Add, State, Waiting, Outcomes within a session; a minute; the statements' own checks. -/
import Derived.Test.YtdkjgcfhepplbaaGreatDoorMPf12
namespace Go.Proofs.YtdkjgcfhepplbaaGreatDoor
open Go.RowKit
section
variable {w0 w w' u : World} {a : Sa} {ch : Int} {p : Ps} {G : Nat → List Nat} {gv : SlV}
theorem SsR.add (h:SsR w0 a ch p G gv w) {x:Id} {t:ByteArray} (hx:x≠zI) (ht:t.toList.isEmpty=false) (hts:t.size≤65536) (hcr:crL t=false) (hh:Sn.hasS p.snd x=false) (hl:p.snd.wait.length<1024):Calls Tryz.prog 7 #[.pointer (some ⟨a.sn,0,none⟩),vI x,.string t] w fun e w'=>e=.returned (.int .i64 0)∧SsN w0 a ch { p with snd:={ p.snd with wait:=p.snd.wait++[(x,t)] } } G w w' :=
 (Sn.add15_ok a.sn ch p.snd (G 2) x t w h.sn hx ht hts hcr hh hl).mono fun e w' ⟨e1,F',e2,e3⟩=>⟨e1,h.onSn e2 e3⟩
theorem SsR.state (h:SsR w0 a ch p G gv w):Calls Tryz.prog 9 #[.pointer (some ⟨a.sn,0,none⟩)] w fun e w'=>e=.returned (.int .i64 p.snd.state)∧w'=w:=Sn.state20 a.sn ch p.snd (G 2) w h.sn
theorem SsR.waiting (h:SsR w0 a ch p G gv w) (hm:p.snd.wait.length≤100000):Calls Tryz.prog 10 #[.pointer (some ⟨a.sn,0,none⟩)] w fun e w'=>∃ A n c,e=.returned (.slice A n c)∧p.snd.wait.length=n∧SsR w0 a ch p G gv w' :=
 (Sn.waiting26 a.sn ch p.snd (G 2) w h.sn hm).mono fun e w' ⟨A,n,c,e1,e2,_,e4⟩=>⟨A,n,c,e1,e2,h.keep e4⟩
theorem SsR.outcomes (h:SsR w0 a ch p G gv w):Calls Tryz.prog 11 #[.pointer (some ⟨a.sn,0,none⟩)] w fun e w'=>∃ A n c,e=.returned (.slice A n c)∧p.snd.outs.length=n∧Sl w' Sn.cO A p.snd.outs∧SsN w0 a ch { p with snd:={ p.snd with outs:=[] } } G w w' :=
 (Sn.outcomes25 a.sn ch p.snd (G 2) w h.sn).mono fun e w' ⟨A,n,c,e1,e2,e3,e4,e5⟩=>⟨A,n,c,e1,e2,e3,h.onSn e4 e5⟩
end
theorem minute8 (w0:World) (a:Sa) (r dl ch i:Nat) (arts:List Sn.Art) (p:Ps) (w:World) (h:SsAt w0 a (ch:Int) p w) (hL:Laid w0) (hE:Sn.EffAt w0) (ho:PaOk arts r dl ch) (hI:Inv arts r dl ch i p) (hi:i≤300) (b:Bool) (hb:64≤i→b=false) :
  Calls Tryz.prog 8 #[.pointer (some ⟨a.k,0,none⟩),.bool b] w fun e w'=>e=.returned (.tuple #[])∧∃ p',SsAt w0 a (ch:Int) p' w'∧Inv arts r dl ch (i+1) p':=by
 obtain⟨p1,p2,p3,h1,h2,h3,h4,⟨rfl,h5,h6⟩|⟨rfl,s,h5,h6⟩⟩:=hI.step ho hi b hb
 ·exact (minute8_stay w0 a ch p p1 p2 p3 r dl i w h hL hE h1 h2 h3 h4 h5).mono fun e w' ⟨e1,e2⟩=>⟨e1,_,e2,h6⟩
 ·exact (minute8_drop w0 a ch p p1 p2 p3 i s w h hL hE h1 h2 h3 h4 h5).mono fun e w' ⟨e1,e2⟩=>⟨e1,_,e2,h6⟩
theorem known34L (w:World) (hL:Laid w):Calls Tryz.prog 5 #[] w fun e w'=>e=.returned (.bool true)∧Below w.heap.size w w':=by
 have HL:=Lib.hid hL
 clear hL
 go_enter Tryz.func5,Tryz.ntmps5
 go_wp2_with (go_at_call 13;refine (known34 w HL.out).mono ?_;rintro e w2 ⟨rfl,hb2⟩;have H2:=Lib.hid hb2;clear hb2)
 go_ret
 exact⟨rfl,H2.out⟩
def artsOf (texts:List ByteArray):List Sn.Art:=texts.mapIdx fun i t=>(idN i,t)
theorem arts_len (texts:List ByteArray):(artsOf texts).length=texts.length:=List.length_mapIdx
theorem arts_at {texts:List ByteArray} {j:Nat} (h:j<texts.length):(artsOf texts)[j]? = some (idN j,texts[j]):=by
 unfold artsOf
 rw[List.getElem?_mapIdx,List.getElem?_eq_getElem h]
 rfl
theorem arts_take {texts:List ByteArray} {j:Nat} (h:j<texts.length):(artsOf texts).take (j+1)=(artsOf texts).take j++[(idN j,texts[j])]:=(take_got (arts_at h)).symm
def TxtOk (t:ByteArray):Prop:=1≤t.size∧t.size≤100∧(13:UInt8)∉t.data.toList
theorem pa_ok {texts:List ByteArray} (hn:texts.length≤3) (ht:∀ j (h:j<texts.length),TxtOk texts[j]) {r dl ch:Nat} (r1:100≤r) (r2:r≤1000) (d2:dl≤2) (c1:20≤ch) (c2:ch≤1000):PaOk (artsOf texts) r dl ch:=by
 have hl:=arts_len texts
 refine⟨r1,r2,d2,c1,c2,by omega,fun a ha=>?_,fun i j hi hj e=>?_⟩
 ·obtain⟨j,hj,e⟩:=List.mem_iff_getElem.1 ha
  have h1:=arts_at (texts:=texts) (j:=j) (by omega)
  rw[List.getElem?_eq_getElem hj,e] at h1
  obtain⟨t1,t2,t3⟩:=ht j (by omega)
  rw[Option.some.inj h1]
  exact⟨idN_ne (by omega),t1,t2,t3⟩
 ·have h1:=arts_at (texts:=texts) (j:=i) (by omega)
  have h2:=arts_at (texts:=texts) (j:=j) (by omega)
  rw[List.getElem?_eq_getElem hi] at h1
  rw[List.getElem?_eq_getElem hj] at h2
  rw[Option.some.inj h1,Option.some.inj h2] at e
  exact idN_inj (by omega) (by omega) e
theorem no_has {texts:List ByteArray} {j:Nat} (h:j<texts.length) (h3:texts.length≤3):Sn.hasS ⟨(artsOf texts).take j,0,Sn.zA,[],none⟩ (idN j)=false:=by
 unfold Sn.hasS
 rw[Bool.or_eq_false_iff]
 refine⟨rfl,?_⟩
 unfold Sn.hasL
 rw[List.any_eq_false]
 intro q hq hd
 obtain⟨k,hk,e⟩:=List.mem_iff_getElem.1 hq
 have hk2:=hk
 rw[List.length_take,arts_len] at hk2
 have h1:=arts_at (texts:=texts) (j:=k) (by omega)
 rw[List.getElem_take] at e
 rw[List.getElem?_eq_getElem (by rw[arts_len];omega),e] at h1
 rw[Option.some.inj h1] at hd
 have h2:idN k=idN j:=by simpa using hd
 have:=idN_inj (by omega) (by omega) h2
 omega
end Go.Proofs.YtdkjgcfhepplbaaGreatDoor
