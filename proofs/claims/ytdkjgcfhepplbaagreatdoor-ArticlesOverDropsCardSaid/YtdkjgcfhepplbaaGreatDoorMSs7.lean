/- bulletintop: minute. -/
import Derived.Test.YtdkjgcfhepplbaaGreatDoorMSs6
namespace Go.Proofs.YtdkjgcfhepplbaaGreatDoor
open Go.RowKit
def EndR (p p':Ps):Prop:=p.c.up=true∧((p.c.sess=p.num∧p'=p)∨(p.num=0∧p.c.sess≠0∧p.tkr.opn=false∧p'={ p with tkr:=(openT p.tkr).1,wl:=⟨#[]⟩,wr:=⟨#[]⟩,num:=p.c.sess }))
def sayP (ch:Int) (p:Ps):Ps:={ p with snd:=(Sn.sayS ch p.snd).1,bs:=upd p.bs 0 (p.bs 0++encT (Sn.sayS ch p.snd).2.1) }
structure SayR' (ch:Int) (p p':Ps) (n:Nat) (f:Nat→Ps):Prop where
 n100:n<100
 f0:f 0=p
 fs:∀ k,k<n→Sn.Good ch (f k).snd∧(Sn.sayS ch (f k).snd).2.2=true∧SayOk (f k) 0 (Sn.sayS ch (f k).snd).2.1∧f (k+1)=sayP ch (f k)
 last:Sn.Good ch (f n).snd∧(Sn.sayS ch (f n).snd).2.2=false
 post:p'=f n
def SayR (ch:Int) (p p':Ps):Prop:=∃ n f,SayR' ch p p' n f
theorem sayS_no {ch:Int} {s:Sn.St} (h:(Sn.sayS ch s).2.2=false):(Sn.sayS ch s).1=s:=by
 unfold Sn.sayS at h ⊢
 by_cases h0:s.state=0
 ·rw[if_pos h0] at h ⊢
  cases hw:s.wait with
  | nil=>rfl
  | cons a r=>rw[hw] at h;cases h
 ·rw[if_neg h0] at h ⊢
  by_cases h2:s.state=2
  ·rw[if_pos h2] at h
   split at h <;> cases h
  ·rw[if_neg h2]
theorem ends20_any (w0:World) (a:Sa) (ch:Int) (p p':Ps) (w:World) (h:SsAt w0 a ch p w) (hE:EndR p p') :
  Calls Tryz.prog 20 #[.pointer (some ⟨a.k,0,none⟩)] w fun e w'=>e=.returned (.tuple #[])∧SsAt w0 a ch p' w':=by
 obtain⟨hup,⟨h1,rfl⟩|⟨h1,h2,h3,rfl⟩⟩:=hE
 ·exact ends20_same_up w0 a ch p' w h hup h1
 ·exact ends20_up w0 a ch p w h hup h1 h2 h3
theorem EndR.up {p p':Ps} (h:EndR p p'):p'.c.up=true:=by
 obtain⟨hup,⟨h1,rfl⟩|⟨h1,h2,h3,rfl⟩⟩:=h
 ·exact hup
 ·exact hup
structure UpOk (p:Ps) (r dl t:Nat):Prop where
 up:p.c.up=true
 rate:p.c.cf.rate=(r:Int)
 delay:p.c.cf.delay=(dl:Int)
 now:p.c.now=(t:Int)
 period:p.c.cf.period=10
 rb:r≤1048576
 db:dl≤1440
 tb:t≤1000000
 few:FlB 10000000 (p.bs,p.wy)
def upP (r dl t:Nat) (p:Ps):Ps:={ p with c:={ p.c with now:=((t+1:Nat):Int) },bs:=(arrN (t+1) 2 (packN r (t+1+dl) 2 (p.bs,p.wy))).1,wy:=(arrN (t+1) 2 (packN r (t+1+dl) 2 (p.bs,p.wy))).2 }
def cutP (p:Ps):Ps:={ p with c:={ p.c with up:=false },bs:=dnB 2 p.bs,wy:=dnW 2 p.wy,snd:=Sn.dropS p.snd,tkr:=(dropT p.tkr).1,wl:=⟨#[]⟩,wr:=⟨#[]⟩,num:=0 }
structure DnOk (ch:Int) (p:Ps) (t s:Nat):Prop where
 up:p.c.up=true
 num:p.num≠0
 good:Sn.Good ch p.snd
 opn:p.tkr.opn=true
 now:p.c.now=(t:Int)
 sess:p.c.sess=(s:Int)
 period:p.c.cf.period=10
 tb:t≤1000000
 sb:s≤1000000
def dnP (t s:Nat) (p:Ps):Ps:={ cutP p with c:={ p.c with now:=((t+1:Nat):Int),up:=true,sess:=((s+1:Nat):Int) },bs:=nwB (dnB 2 p.bs) 2 }
section
variable {w0 w : World} {a : Sa} {ch : Int} {p : Ps}
theorem SsAt.upStep (h:SsAt w0 a ch p w) {r dl t:Nat} (hk:UpOk p r dl t):Calls Tryz.prog 26 #[.pointer (some ⟨a.ln,0,none⟩),.int .i64 1] w fun e w'=>e=.returned (.int .i64 0)∧SsAt w0 a ch (upP r dl t p) w':=by
 obtain⟨G,gv,h⟩:=h
 exact (h.pass_up hk.up r dl t hk.rate hk.delay hk.now hk.period hk.rb hk.db hk.tb hk.few).mono fun e w' ⟨e1,e2⟩=>⟨e1,e2.at⟩
theorem SsAt.cut (h:SsAt w0 a ch p w) (hup:p.c.up=true):Calls Tryz.prog 25 #[.pointer (some ⟨a.ln,0,none⟩)] w fun e w'=>e=.returned (.int .i64 0)∧SsAt w0 a ch { p with c:={ p.c with up:=false },bs:=dnB 2 p.bs,wy:=dnW 2 p.wy } w':=by
 obtain⟨G,gv,h⟩:=h
 exact (h.drop25 hup).mono fun e w' ⟨e1,e2⟩=>⟨e1,e2.at⟩
theorem SsAt.dnStep (h:SsAt w0 a ch (cutP p) w) {t s:Nat} (hk:DnOk ch p t s):Calls Tryz.prog 26 #[.pointer (some ⟨a.ln,0,none⟩),.int .i64 1] w fun e w'=>e=.returned (.int .i64 0)∧SsAt w0 a ch (dnP t s p) w':=by
 obtain⟨G,gv,h⟩:=h
 exact (h.pass_down rfl t s hk.now hk.sess hk.period hk.tb hk.sb rfl rfl).mono fun e w' ⟨e1,e2⟩=>⟨e1,e2.at⟩
theorem SsAt.setBrk (h:SsAt w0 a ch p w):SsAt w0 a ch p (w.setCell ⟨a.k,7,none⟩ (.bool false)):=by
 obtain⟨G,gv,h⟩:=h
 exact⟨G,gv,h.setBrk.1⟩
end
section
set_option maxRecDepth 100000
set_option maxHeartbeats 6400000
theorem minute8_stay (w0:World) (a:Sa) (ch:Int) (p p1 p2 p3:Ps) (r dl t:Nat) (w:World) (h:SsAt w0 a ch p w) (hL:Laid w0) (hE:Sn.EffAt w0) (h1:EndR p p1) (h2:RcvR ch p1 p2) (h3:SayR ch p2 p3) (hup:p2.c.up=true) (h4:UpOk p3 r dl t) :
  Calls Tryz.prog 8 #[.pointer (some ⟨a.k,0,none⟩),.bool false] w fun e w'=>e=.returned (.tuple #[])∧SsAt w0 a ch (upP r dl t p3) w':=by
 obtain⟨n,f,h3⟩:=h3
 have HB:=Lib.hid h
 have HL:=Lib.hid (And.intro hL hE)
 have HR:=Lib.hid (And.intro h1 (And.intro h2 (And.intro h3 h4)))
 have hn100:=h3.n100
 clear h hL hE h1 h2 h3 h4 hup
 go_enter Tryz.func8,Tryz.ntmps8
 go_wp2_with (first
  | (go_at_call 20;refine (ends20_any w0 a ch p p1 w HB.out HR.out.1).mono ?_;rintro e w2 ⟨rfl,h2⟩;have k0:=h2.c0;have H2:=Lib.hid h2;clear h2)
  | (go_at_call 21;refine H2.out.up.mono ?_;rintro e w3 ⟨rfl,rfl⟩;rw[HR.out.1.up])
  | (go_at_call 22;refine (receive22 w0 a ch p1 p2 _ H2.out HL.out.1 HL.out.2 HR.out.2.1).mono ?_;rintro e w4 ⟨rfl,h4⟩;have H4:=Lib.hid h4;clear h4 H2 k0))
 go_loopw [4] (fun i wr=>∃ (k:Nat),k≤n∧i=.int .i64 (k:Int)∧SsAt w0 a ch (f k) wr) (fun i _=>n+1 - (intOf i).toNat)
 case atStart=>exact⟨0,Nat.zero_le _,rfl,by rw[HR.out.2.2.1.f0];exact H4.out⟩
 case round =>
  clear H4
  obtain⟨k,hk,rfl,h4⟩:=hrel
  obtain⟨G4,gv4,h4⟩:=h4
  have k2:wr.cell? ⟨a.k,2,none⟩=some (.pointer (some ⟨a.sn,0,none⟩)):=h4.row.cell 2
  have hk1:(k:Int)<100:=by omega
  have H4:=Lib.hid h4
  clear h4
  by_cases hlt:k<n
  ·obtain⟨s1,s2,s3,s4⟩:=HR.out.2.2.1.fs k hlt
   have HS:=Lib.hid (And.intro s1 (And.intro s2 (And.intro s3 s4)))
   clear s1 s2 s3 s4
   go_wp2_with (first
    | (go_at_call 23;refine (H4.out.say18 HS.out.1).mono ?_;rintro e w5 ⟨rfl,G5,gv5,h5, -⟩;rw[HS.out.2.1];obtain⟨c,hc⟩:∃ c,(Sn.sayS ch (f k).snd).2.1=c:=⟨_,rfl⟩;rw[hc];have H5:=Lib.hid h5;have HC:=Lib.hid hc;clear h5 hc H4)
    | (go_at_call 24;refine (say24_0 w0 a ch _ G5 gv5 _ (H5.out.keep (below_alloc _ _)) HL.out.1 c (by rw[← HC.out];exact HS.out.2.2.1.chk) (by rw[← HC.out];exact HS.out.2.2.1.ok) HS.out.2.2.1.up (by rw[← HC.out];exact HS.out.2.2.1.room)).mono ?_;rintro e w6 ⟨rfl,h6⟩;have H6:=Lib.hid h6.at;clear h6))
   go_roundw
   case rel=>exact⟨k+1,hlt,by go_num,by rw[HS.out.2.2.2];unfold sayP;rw[HC.out];exact H6.out⟩
   case measure=>simp[intOf] <;> omega
  ·obtain rfl:k=n:=by omega
   have hl1:=HR.out.2.2.1.last.1
   have hl2:=HR.out.2.2.1.last.2
   have h5:∀ w5,SsN w0 a ch { f k with snd:=(Sn.sayS ch (f k).snd).1 } G4 wr w5→SsAt w0 a ch p3 w5:=fun w5 h5=>by
    rw[sayS_no hl2] at h5
    rw[HR.out.2.2.1.post]
    exact h5.at
   have H5:=Lib.hid h5
   have HS:=Lib.hid (And.intro hl1 hl2)
   clear h5 hl1 hl2
   go_wp2_with (first
    | (go_at_call 23;refine (H4.out.say18 HS.out.1).mono ?_;rintro e w5 ⟨rfl,h5⟩;rw[HS.out.2];obtain⟨c,hc⟩:∃ c,(Sn.sayS ch (f k).snd).2.1=c:=⟨_,rfl⟩;rw[hc];have h6:=(H5.out w5 h5).keep (below_alloc w5 (.cells (aC c) 74));have k7:=h6.c7;have k0:=h6.c0;have H6:=Lib.hid h6;clear h5 h6 H4 H5 hc)
    | (go_at_call 26;refine (H6.out.upStep HR.out.2.2.2).mono ?_;rintro e w7 ⟨rfl,h7⟩;have k8:=h7.c7;have f8:=h7.fz 7;have H7:=Lib.hid h7;clear h7 H6 k7 k0))
   go_end0
   exact⟨rfl,H7.out.setBrk⟩
theorem minute8_drop (w0:World) (a:Sa) (ch:Int) (p p1 p2 p3:Ps) (t s:Nat) (w:World) (h:SsAt w0 a ch p w) (hL:Laid w0) (hE:Sn.EffAt w0) (h1:EndR p p1) (h2:RcvR ch p1 p2) (h3:SayR ch p2 p3) (hup:p2.c.up=true) (h4:DnOk ch p3 t s) :
  Calls Tryz.prog 8 #[.pointer (some ⟨a.k,0,none⟩),.bool true] w fun e w'=>e=.returned (.tuple #[])∧SsAt w0 a ch (dnP t s p3) w':=by
 obtain⟨n,f,h3⟩:=h3
 have HB:=Lib.hid h
 have HL:=Lib.hid (And.intro hL hE)
 have HR:=Lib.hid (And.intro h1 (And.intro h2 (And.intro h3 h4)))
 have hn100:=h3.n100
 clear h hL hE h1 h2 h3 h4 hup
 go_enter Tryz.func8,Tryz.ntmps8
 go_wp2_with (first
  | (go_at_call 20;refine (ends20_any w0 a ch p p1 w HB.out HR.out.1).mono ?_;rintro e w2 ⟨rfl,h2⟩;have k0:=h2.c0;have H2:=Lib.hid h2;clear h2)
  | (go_at_call 21;refine H2.out.up.mono ?_;rintro e w3 ⟨rfl,rfl⟩;rw[HR.out.1.up])
  | (go_at_call 22;refine (receive22 w0 a ch p1 p2 _ H2.out HL.out.1 HL.out.2 HR.out.2.1).mono ?_;rintro e w4 ⟨rfl,h4⟩;have H4:=Lib.hid h4;clear h4 H2 k0))
 go_loopw [4] (fun i wr=>∃ (k:Nat),k≤n∧i=.int .i64 (k:Int)∧SsAt w0 a ch (f k) wr) (fun i _=>n+1 - (intOf i).toNat)
 case atStart=>exact⟨0,Nat.zero_le _,rfl,by rw[HR.out.2.2.1.f0];exact H4.out⟩
 case round =>
  clear H4
  obtain⟨k,hk,rfl,h4⟩:=hrel
  obtain⟨G4,gv4,h4⟩:=h4
  have k2:wr.cell? ⟨a.k,2,none⟩=some (.pointer (some ⟨a.sn,0,none⟩)):=h4.row.cell 2
  have hk1:(k:Int)<100:=by omega
  have H4:=Lib.hid h4
  clear h4
  by_cases hlt:k<n
  ·obtain⟨s1,s2,s3,s4⟩:=HR.out.2.2.1.fs k hlt
   have HS:=Lib.hid (And.intro s1 (And.intro s2 (And.intro s3 s4)))
   clear s1 s2 s3 s4
   go_wp2_with (first
    | (go_at_call 23;refine (H4.out.say18 HS.out.1).mono ?_;rintro e w5 ⟨rfl,G5,gv5,h5, -⟩;rw[HS.out.2.1];obtain⟨c,hc⟩:∃ c,(Sn.sayS ch (f k).snd).2.1=c:=⟨_,rfl⟩;rw[hc];have H5:=Lib.hid h5;have HC:=Lib.hid hc;clear h5 hc H4)
    | (go_at_call 24;refine (say24_0 w0 a ch _ G5 gv5 _ (H5.out.keep (below_alloc _ _)) HL.out.1 c (by rw[← HC.out];exact HS.out.2.2.1.chk) (by rw[← HC.out];exact HS.out.2.2.1.ok) HS.out.2.2.1.up (by rw[← HC.out];exact HS.out.2.2.1.room)).mono ?_;rintro e w6 ⟨rfl,h6⟩;have H6:=Lib.hid h6.at;clear h6))
   go_roundw
   case rel=>exact⟨k+1,hlt,by go_num,by rw[HS.out.2.2.2];unfold sayP;rw[HC.out];exact H6.out⟩
   case measure=>simp[intOf] <;> omega
  ·obtain rfl:k=n:=by omega
   have hl1:=HR.out.2.2.1.last.1
   have hl2:=HR.out.2.2.1.last.2
   have h5:∀ w5,SsN w0 a ch { f k with snd:=(Sn.sayS ch (f k).snd).1 } G4 wr w5→SsAt w0 a ch p3 w5:=fun w5 h5=>by
    rw[sayS_no hl2] at h5
    rw[HR.out.2.2.1.post]
    exact h5.at
   have H5:=Lib.hid h5
   have HS:=Lib.hid (And.intro hl1 hl2)
   clear h5 hl1 hl2
   go_wp2_with (first
    | (go_at_call 23;refine (H4.out.say18 HS.out.1).mono ?_;rintro e w5 ⟨rfl,h5⟩;rw[HS.out.2];obtain⟨c,hc⟩:∃ c,(Sn.sayS ch (f k).snd).2.1=c:=⟨_,rfl⟩;rw[hc];have h6:=(H5.out w5 h5).keep (below_alloc w5 (.cells (aC c) 74));have k7:=h6.c7;have k0:=h6.c0;have H6:=Lib.hid h6;clear h5 h6 H4 H5 hc)
    | (go_at_call 25;refine (H6.out.cut HR.out.2.2.2.up).mono ?_;rintro e w7 ⟨rfl,h7⟩;have k8:=h7.c7;have f8:=h7.fz 7;have H7:=Lib.hid h7.setBrk;clear h7 H6 k7 k0)
    | (go_at_call 20;refine (ends20_down w0 a ch _ _ H7.out rfl HR.out.2.2.2.num HR.out.2.2.2.good HR.out.2.2.2.opn).mono ?_;rintro e w8 ⟨rfl,h8⟩;have k9:=h8.c7;have k10:=h8.c0;have H8:=Lib.hid h8;clear h8 H7 k8 f8)
    | (go_at_call 26;refine (SsAt.dnStep H8.out HR.out.2.2.2).mono ?_;rintro e w9 ⟨rfl,h9⟩;have k11:=h9.c7;have f11:=h9.fz 7;have H9:=Lib.hid h9;clear h9 H8 k9 k10))
   go_end0
   exact⟨rfl,H9.out.setBrk⟩
end
end Go.Proofs.YtdkjgcfhepplbaaGreatDoor
