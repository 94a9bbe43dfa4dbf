/- strings.Builder at this translation: copyCheck, Len, WriteByte, WriteString, String; with what else stays. command.Unstuff. -/
import Derived.Test.YtdkjgcfhepplbaaGreatDoorMRow
import Derived.Laws.Externs
import Derived.Lib.AppendStr
import Derived.Lib.UnsafeStr
import Derived.Maps.AppendAt
namespace Go.Proofs.YtdkjgcfhepplbaaGreatDoor
section
open Go.RowKit
theorem liesBd:liesAt Tryz.prog Tryz.prog.depth 132 (2 / Tryz.prog.cellsOf 132) 0 132 1=true:=by kernel_rfl
theorem sizeBd:(Tryz.prog.info? 132).map (·.size)=some 2:=by kernel_rfl
theorem infoBy:(Tryz.prog.info? 5).map (fun i=>(i.zero,i.size,i.bytes))=some (some (.int .u8 0),1,1):=by kernel_rfl
section
variable {P : Program} (w : World)
theorem append_string_at (base:Nat) (t u ty e:TypeId) (i:TypeInfo) (ht:P.underlying t=some (.slice e)) (hu:P.underlying u=some .string) (hi:P.info? e=some i) (hz:i.zero=some (.int .u8 0)) (hsize:i.size=1) (hby:i.bytes=1)
  (v:Value) (n:Nat) (xs:List Value) (hown:w.ownsRow base e 1 v n xs) (s:ByteArray) (h63:n+s.size≤1000000000) {v':Value} {w':World} (hr:(Builtin.append_ #[t,u] ty #[v,.string s]).run P w=.ok v' w') (hnil:v'=.slice none 0 0↔v=.slice none 0 0∧s.size=0):v'.ownBlock=v.ownBlock∨v'.ownBlock=some w.heap.size:=by
 rcases hown.2 with⟨rfl,rfl⟩|⟨g,cap,cur,rfl,hbg,hg,hnc,hcm,hcs,htake⟩
 ·by_cases hm:s.size=0
  ·left
   rw[hnil.2 ⟨rfl,hm⟩]
  ·right
   have h2:=run_append_nil_string (P:=P) w t u ty e i (.int .u8 0) ht hu hi hz s (by omega) (by omega) (by rw[hby];omega)
   rw[hr] at h2
   injection h2 with h2 _
   rw[h2]
   rfl
 ·have hxl:xs.length=n:=by simpa using hown.1
  by_cases hroom:n+s.size≤cap
  ·left
   have hcs':cur.size=cap:=by simpa using hcs
   have h2:=Lib.run_append_room_string (P:=P) w t u ty e i ht hu hi hsize g n cap cur hg s hroom (by omega)
   rw[hr] at h2
   injection h2 with h2 _
   rw[h2]
   rfl
  ·right
   have holds:∀ j u,xs[j]? = some u→w.cell? ((⟨g,0,none⟩:Addr).add j)=some u:=hown.cells (g:=g) rfl
   have h2:=Lib.run_append_grow_string (P:=P) w t u ty e i (.int .u8 0) ht hu hi hz ⟨g,0,none⟩ n cap xs (by rw[hsize];simpa using hxl) holds s (by omega) (by omega) (by rw[hby];exact growslice_fits (by omega) (by omega))
   rw[hr] at h2
   injection h2 with h2 _
   rw[h2]
   rfl
theorem wpList_append_str_at {ops:Array Oper} {rest:List Oper} {o:Oper} {a:Act} {Q:Exit→Act→World→Prop} (hgd:o.guard=none) (sl x:Operand) (t u:TypeId)
  (ho:o.op=.call { callee:=.builtin .append,args:=#[sl,x],argTypes:=#[t,u] })
  (base:Nat) (e:TypeId) (ht:P.underlying t=some (.slice e)) (hu:P.underlying u=some .string) (hi:(P.info? e).map (fun i=>(i.zero,i.size,i.bytes))=some (some (.int .u8 0),1,1))
  (v:Value) (n:Nat) (xs:List Value) (hs:a.eval sl=v) (hown:w.ownsRow base e 1 v n xs) (s:ByteArray) (hx:a.eval x=.string s) (h63:n+s.size≤1000000000) (hbase:base≤w.heap.size)
  (h:∀ v' w',w'.ownsRow base e 1 v' (n+s.size) (xs++Lib.strCells s)→w.grownBy w' v.ownBlock→(v'.ownBlock=v.ownBlock∨v'.ownBlock=some w.heap.size)→wpList P ops Q rest (a.put o.dst v') w'):wpList P ops Q (o :: rest) a w:=by
 refine wpList_plain hgd fun K hK=>?_
 cases hq:P.info? e with
 | none=>rw[hq] at hi;cases hi
 | some i =>
  simp only[hq,Option.map_some,Option.some.injEq,Prod.mk.injEq] at hi
  obtain⟨hz,hsize,hby⟩:=hi
  obtain⟨v',w',hr,h2,h3,h4⟩:=Lib.run_append_own_string (P:=P) w base t u o.type e i ht hu hq hz hsize hby v n xs hown s (by unfold maxLen;omega) (by omega) hbase
  unfold Oper.wp execOp
  simp only[ho,resolve,invoke,builtin,Sem.run_bind,Sem.run_pure,Result.andThen_ok,List.map_toArray,List.map_cons,List.map_nil,hs,hx,hr]
  exact hK _ _ (h v' w' h2 h3 (append_string_at (P:=P) w base t u o.type e i ht hu hq hz hsize hby v n xs hown s h63 hr h4))
theorem wpList_append_byte_at {ops:Array Oper} {rest:List Oper} {o:Oper} {a:Act} {Q:Exit→Act→World→Prop} (hgd:o.guard=none) (sl x:Operand) (t:TypeId)
  (ho:o.op=.call { callee:=.builtin .append,args:=#[sl,x],argTypes:=#[t,t] })
  (base:Nat) (e:TypeId) (ht:P.underlying t=some (.slice e)) (hi:(P.info? e).map (fun i=>(i.zero,i.size,i.bytes))=some (some (.int .u8 0),1,1))
  (v:Value) (n:Nat) (xs:List Value) (hs:a.eval sl=v) (hown:w.ownsRow base e 1 v n xs) (ad:Addr) (cc:Int) (hx:a.eval x=.slice (some ad) 1 1) (hc:w.cell? ad=some (.int .u8 cc)) (h63:n+1≤1000000000) (hbase:base≤w.heap.size)
  (h:∀ v' w',w'.ownsRow base e 1 v' (n+1) (xs++[.int .u8 cc])→w.grownBy w' v.ownBlock→(v'.ownBlock=v.ownBlock∨v'.ownBlock=some w.heap.size)→wpList P ops Q rest (a.put o.dst v') w'):wpList P ops Q (o :: rest) a w:=by
 refine wpList_plain hgd fun K hK=>?_
 cases hq:P.info? e with
 | none=>rw[hq] at hi;cases hi
 | some i =>
  simp only[hq,Option.map_some,Option.some.injEq,Prod.mk.injEq] at hi
  obtain⟨hz,hsize,hby⟩:=hi
  obtain⟨v',w',hr,h2,h3,_,h5⟩:=run_append_own_at (P:=P) w base t o.type e i (.int .u8 0) 1 1 ht hq hz hsize hby rfl (by decide) v n xs hown ad 1 1 [.int .u8 cc] rfl (by
   intro j u hj
   match j,hj with
   | 0,hj=>simp at hj;subst hj;simpa[Addr.add] using hc) (by intro u hu;simp at hu;subst hu;rfl) (by unfold maxLen;omega) (by omega) hbase
  unfold Oper.wp execOp
  simp only[ho,resolve,invoke,builtin,Sem.run_bind,Sem.run_pure,Result.andThen_ok,List.map_toArray,List.map_cons,List.map_nil,hs,hx,hr]
  exact hK _ _ (h v' w' h2 h3 h5)
end
structure Turn (g:Nat) (v v':Value) (w w':World):Prop where
 os:w'.os=w.os
 tape:w'.tape=w.tape
 output:w'.output=w.output
 size:w.heap.size≤w'.heap.size
 out:∀ k,k<w.heap.size→k≠g→some k≠v.ownBlock→w'.heap[k]? = w.heap[k]?
 at_:v'.ownBlock=v.ownBlock∨∃ k,v'.ownBlock=some k∧w.heap.size≤k
structure BdR (B b:Nat) (l:List UInt8) (q:Option Addr) (v:Value) (w:World):Prop where
 row:Row w b [.pointer q,v] 132
 own:w.ownsRow B 5 1 v l.length (Lib.byteCells l)
 ne:v.ownBlock≠some b
 q:q=none∨q=some ⟨b,0,none⟩
 le:B≤b
section
variable {B b : Nat} {l : List UInt8} {q : Option Addr} {v v' : Value} {w w' : World}
theorem BdR.sl (h:BdR B b l q v w):∃ A c,v=.slice A l.length c:=by
 rcases h.own.2 with⟨hv,h0⟩|⟨k,cap,cur,hv,_⟩
 ·exact⟨none,0,by rw[hv,h0]⟩
 ·exact⟨_,_,hv⟩
theorem BdR.low (h:BdR B b l q v w) (k:Nat) (hk:v.ownBlock=some k):B≤k∧k<w.heap.size:=by
 rcases h.own.2 with⟨rfl,_⟩|⟨g,cap,cur,rfl,h1,h2,_⟩
 ·cases hk
 ·obtain rfl:g=k:=by simpa[Value.ownBlock] using hk
  exact⟨h1,(Array.getElem?_eq_some_iff.1 h2).1⟩
theorem Turn.refl (g:Nat) (v:Value) (w:World):Turn g v v w w:=⟨rfl,rfl,rfl,Nat.le_refl _,fun _ _ _ _=>rfl,Or.inl rfl⟩
theorem Turn.trans {g:Nat} {v'':Value} {w'':World} (h:Turn g v v' w w') (k:Turn g v' v'' w' w''):Turn g v v'' w w'' :=
 ⟨k.os.trans h.os,k.tape.trans h.tape,k.output.trans h.output,Nat.le_trans h.size k.size,fun j hj hg hv=>(k.out j (Nat.lt_of_lt_of_le hj h.size) hg (fun e=>by
  rcases h.at_ with e2|⟨m,e2,e3⟩
  ·exact hv (e.trans e2)
  ·rw[e2] at e;have:=Option.some.inj e;omega)).trans (h.out j hj hg hv),by
  rcases k.at_ with e|⟨m,e,e3⟩
  ·rcases h.at_ with e2|⟨m,e2,e3⟩
   ·exact Or.inl (e.trans e2)
   ·exact Or.inr ⟨m,e.trans e2,e3⟩
  ·exact Or.inr ⟨m,e,Nat.le_trans h.size e3⟩⟩
theorem Turn.set (w:World) (g k:Nat) (u v:Value):Turn g v v w (w.setCell ⟨g,k,none⟩ u):=⟨rfl,rfl,rfl,by simp[World.setCell],fun j _ hj _=>heap_set_other w g k u j hj,Or.inl rfl⟩
theorem BdR.keep (h:BdR B b l q v w) (hb:Below w.heap.size w w'):BdR B b l q v w':=⟨h.row.keep hb,h.own.kept (row:=none) ⟨hb.os,hb.tape,hb.output,hb.size,fun k hk _=>hb.block k hk⟩ (by cases v.ownBlock with|none=>exact Or.inl rfl|some _=>exact Or.inr (by simp)),h.ne,h.q,h.le⟩
theorem BdR.set0 (h:BdR B b l q v w):BdR B b l (some ⟨b,0,none⟩) v (w.setCell ⟨b,0,none⟩ (.pointer (some ⟨b,0,none⟩))) :=
 ⟨h.row.set 0 (.pointer (some ⟨b,0,none⟩)),h.own.kept (row:=some b) ⟨rfl,rfl,rfl,by simp[World.setCell],fun k _ hk=>heap_set_other w b 0 _ k (fun e=>hk (by rw[e]))⟩ (Or.inr h.ne),h.ne,Or.inr rfl,h.le⟩
theorem BdR.new (w:World):BdR w.heap.size w.heap.size [] none (.slice none 0 0) (w.alloc (.cells #[.pointer none,.slice none 0 0] 132)) :=
 ⟨Row.new w [.pointer none,.slice none 0 0] 132,⟨rfl,Or.inl ⟨rfl,rfl⟩⟩,by simp[Value.ownBlock],Or.inl rfl,Nat.le_refl _⟩
theorem BdR.at (h:BdR B b l q v w):Lib.IsBuilder 132 5 B b (Lib.byteCells l) w:=by
 have h1:Lib.BuilderAt 132 5 B b (.pointer q) (Lib.byteCells l) w:=⟨h.le,v,h.row,by rw[show (Lib.byteCells l).length=l.length by simp[Lib.byteCells]];exact h.own,h.ne⟩
 rcases h.q with rfl|rfl
 ·exact Or.inl h1
 ·exact Or.inr h1
end
section
set_option maxHeartbeats 1000000
set_option maxRecDepth 100000
theorem copy_used (b:Nat) (w:World) (h0:w.cell? ⟨b,0,none⟩=some (.pointer (some ⟨b,0,none⟩))) :
  Calls Tryz.prog 100 #[.pointer (some ⟨b,0,none⟩)] w fun e w'=>e=.returned (.tuple #[])∧w'=w:=by
 obtain⟨j,hj,_⟩:=Option.map_eq_some_iff.1 sizeBd
 go_enter Tryz.func100,Tryz.ntmps100
 go_wp2
 rw[Lib.run_neq_ptr_same w _ Tryz.underlying130 hj]
 go_wp2
 go_end0
 exact⟨rfl,rfl⟩
theorem copy_fresh (b:Nat) (w:World) (h0:w.cell? ⟨b,0,none⟩=some (.pointer none)) (hsh:w.shape? b=some (132,2)) (hfz:w.frozen? ⟨b,0,none⟩=false) :
  Calls Tryz.prog 100 #[.pointer (some ⟨b,0,none⟩)] w fun e w'=>e=.returned (.tuple #[])∧w'=w.setCell ⟨b,0,none⟩ (.pointer (some ⟨b,0,none⟩)):=by
 obtain⟨j,hj,hjs⟩:=Option.map_eq_some_iff.1 sizeBd
 go_enter Tryz.func100,Tryz.ntmps100
 go_wp2
 rw[Lib.run_to_unsafe w ⟨b,0,none⟩ Tryz.underlying130 Tryz.underlying196 hj (by rw[hjs];decide) hsh (Nat.zero_lt_succ 1)]
 simp only[Result.andThen]
 rw[Oper.upon_value]
 go_wp2
 rw[run_callFunc_extern Tryz.func122 (by kernel_rfl) (by kernel_rfl) (by kernel_rfl) (e:=Extern.AbiNoEscape.same) (by kernel_rfl)]
 rw[Lib.run_noEscape]
 simp only[Result.andThen]
 rw[Oper.upon_value]
 go_wp2
 rw[Lib.run_from_unsafe w ⟨b,0,none⟩ Tryz.underlying196 Tryz.underlying130 hj hsh liesBd]
 simp only[Result.andThen]
 rw[Oper.upon_value]
 go_wp2
 go_end0
 exact⟨rfl,rfl⟩
end
theorem BdR.copy {B b:Nat} {l:List UInt8} {q:Option Addr} {v:Value} {w:World} (h:BdR B b l q v w):Calls Tryz.prog 100 #[.pointer (some ⟨b,0,none⟩)] w fun e w'=>e=.returned (.tuple #[])∧BdR B b l (some ⟨b,0,none⟩) v w'∧Turn b v v w w':=by
 have hc:w.cell? ⟨b,0,none⟩=some (.pointer q):=h.row.cell 0
 rcases h.q with rfl|rfl
 ·refine (copy_fresh b w hc (by have:=h.row;unfold Row at this;simp[World.shape?,this]) (h.row.fz 0)).mono ?_
  rintro e w' ⟨rfl,rfl⟩
  exact⟨rfl,h.set0,Turn.set w b 0 _ v⟩
 ·refine (copy_used b w hc).mono ?_
  rintro e w' ⟨rfl,rfl⟩
  exact⟨rfl,h,Turn.refl b v _⟩
theorem BdR.wrote {B b:Nat} {l m:List UInt8} {q:Option Addr} {v:Value} {w1 w2:World} {A:Option Addr} {n c:Nat} (h:BdR B b l q v w1) (ho:w2.ownsRow B 5 1 (.slice A n c) (l++m).length (Lib.byteCells (l++m))) (hg:w1.grownBy w2 v.ownBlock) (hat:(Value.slice A n c).ownBlock=v.ownBlock∨(Value.slice A n c).ownBlock=some w1.heap.size∨(Value.slice A n c).ownBlock=some (w1.heap.size+1)) :
  BdR B b (l++m) q (.slice A n c) (w2.setCell ⟨b,1,none⟩ (.slice A n c))∧Turn b v (.slice A n c) w1 (w2.setCell ⟨b,1,none⟩ (.slice A n c)):=by
 have hlt:=h.row.lt
 have hrow:Row w2 b [.pointer q,v] 132:=h.row.same (hg.block b hlt (fun e=>h.ne e.symm))
 have hne2:(Value.slice A n c).ownBlock≠some b:=fun e=>by
  rcases hat with e2|e2|e2
  ·exact h.ne (e2.symm.trans e)
  ·rw[e2] at e
   have:=Option.some.inj e
   omega
  ·rw[e2] at e
   have:=Option.some.inj e
   omega
 have hT:Turn b v (.slice A n c) w1 w2:=⟨hg.os,hg.tape,hg.output,hg.size,fun k hk _ hv=>hg.block k hk hv,by
  rcases hat with e2|e2|e2
  ·exact Or.inl e2
  ·exact Or.inr ⟨_,e2,Nat.le_refl _⟩
  ·exact Or.inr ⟨_,e2,Nat.le_succ _⟩⟩
 exact⟨⟨hrow.set 1 _,ho.kept (row:=some b) ⟨rfl,rfl,rfl,by simp[World.setCell],fun k _ hk=>heap_set_other w2 b 1 _ k (fun e=>hk (by rw[e]))⟩ (Or.inr hne2),hne2,h.q,h.le⟩,hT.trans (Turn.set w2 b 1 _ _)⟩
section
set_option maxRecDepth 100000
set_option maxHeartbeats 1600000
theorem BdR.len {B b:Nat} {l:List UInt8} {q:Option Addr} {v:Value} {w:World} (h:BdR B b l q v w):Calls Tryz.prog 97 #[.pointer (some ⟨b,0,none⟩)] w fun e w'=>e=.returned (.int .i64 (l.length:Int))∧w'=w:=by
 have h1:=Tryz.Builder_Len B b _ w h.at
 rwa[show (Lib.byteCells l).length=l.length by simp[Lib.byteCells]] at h1
theorem BdR.str {B b:Nat} {l:List UInt8} {q:Option Addr} {v:Value} {w:World} (h:BdR B b l q v w) (s:ByteArray) (hs:l.length+s.size≤1000000000) (hB:B≤w.heap.size):Calls Tryz.prog 63 #[.pointer (some ⟨b,0,none⟩),.string s] w fun e w'=>e=.returned (.tuple #[.int .i64 (s.size:Int),.nilIface])∧∃ v',BdR B b (l++bl s) (some ⟨b,0,none⟩) v' w'∧Turn b v v' w w':=by
 have HX:=Lib.hid (And.intro h (And.intro hs hB))
 clear h hs hB
 have T0:True:=trivial
 go_enter Tryz.func63,Tryz.ntmps63
 go_wp2_with (first
  | (have hh:=T0;clear hh T0;go_at_call 100;refine HX.out.1.copy.mono ?_;rintro e w1 ⟨rfl,h1,ht⟩;have H1:=Lib.hid (And.intro h1 ht);have h34:w1.cell? ⟨b,1,none⟩=some v:=h1.row.cell 1;clear h1 ht;have T1:True:=trivial)
  | (at_builtin;refine wpList_append_str_at _ rfl _ _ 94 9 rfl B 5 Tryz.underlying94 Tryz.underlying9 infoBy v l.length (Lib.byteCells l) rfl H1.out.1.own s rfl HX.out.2.1 (Nat.le_trans HX.out.2.2 H1.out.2.size) ?_))
 intro v2 w2 ho hg hat
 have g34:w2.cell? ⟨b,1,none⟩=some v:=(H1.out.1.row.same (hg.block b H1.out.1.row.lt (fun e=>H1.out.1.ne e.symm))).cell 1
 have f34:=(H1.out.1.row.same (hg.block b H1.out.1.row.lt (fun e=>H1.out.1.ne e.symm))).fz 1
 obtain⟨A,n',cap,rfl⟩:∃ A n' cap,v2=.slice A n' cap:=by
  rcases ho.2 with⟨hv,_⟩|⟨k,cap,cur,hv,_⟩
  ·exact⟨_,_,_,hv⟩
  ·exact⟨_,_,_,hv⟩
 have H2:=Lib.hid (And.intro ho (And.intro hg hat))
 clear ho hg hat h34
 go_wp2
 go_ret2
 have r:=BdR.wrote (m:=bl s) H1.out.1 (by
  rw[List.length_append,show Lib.byteCells (l++bl s)=Lib.byteCells l++Lib.strCells s by simp[Lib.byteCells,Lib.strCells,bl],show (bl s).length=s.size from rfl]
  exact H2.out.1) H2.out.2.1 (H2.out.2.2.imp id Or.inl)
 exact⟨rfl,.slice A n' cap,r.1,H1.out.2.trans r.2⟩
theorem BdR.byte {B b:Nat} {l:List UInt8} {q:Option Addr} {v:Value} {w:World} (h:BdR B b l q v w) (c:UInt8) (cc:Int) (hcc:((c.toNat:Nat):Int)=cc) (hs:l.length+1≤1000000000) (hB:B≤w.heap.size):Calls Tryz.prog 62 #[.pointer (some ⟨b,0,none⟩),.int .u8 cc] w fun e w'=>e=.returned .nilIface∧∃ v',BdR B b (l++[c]) (some ⟨b,0,none⟩) v' w'∧Turn b v v' w w':=by
 have HX:=Lib.hid (And.intro h (And.intro hs (And.intro hB hcc)))
 clear h hs hB hcc
 have T0:True:=trivial
 go_enter Tryz.func62,Tryz.ntmps62
 go_wp2_with (first
  | (have hh:=T0;clear hh T0;go_at_call 100;refine HX.out.1.copy.mono ?_;rintro e w1 ⟨rfl,h1,ht⟩;have H1:=Lib.hid (And.intro h1 ht);have h34:w1.cell? ⟨b,1,none⟩=some v:=h1.row.cell 1;clear h1 ht;have T1:True:=trivial)
  | (at_builtin;refine wpList_append_byte_at _ rfl _ _ 94 rfl B 5 Tryz.underlying94 infoBy v l.length (Lib.byteCells l) rfl (H1.out.1.keep (below_alloc _ _)).own ⟨w1.heap.size,0,none⟩ cc rfl (by simp) HX.out.2.1 (Nat.le_trans HX.out.2.2.1 (Nat.le_trans H1.out.2.size (below_alloc _ _).size)) ?_))
 intro v2 w2 ho hg hat
 have hk1:=H1.out.1.keep (below_alloc w1 (.cells #[.int .u8 cc] 5))
 have g34:w2.cell? ⟨b,1,none⟩=some v:=(hk1.row.same (hg.block b hk1.row.lt (fun e=>hk1.ne e.symm))).cell 1
 have f34:=(hk1.row.same (hg.block b hk1.row.lt (fun e=>hk1.ne e.symm))).fz 1
 obtain⟨A,n',cap,rfl⟩:∃ A n' cap,v2=.slice A n' cap:=by
  rcases ho.2 with⟨hv,_⟩|⟨k,cap,cur,hv,_⟩
  ·exact⟨_,_,_,hv⟩
  ·exact⟨_,_,_,hv⟩
 have H2:=Lib.hid (And.intro ho (And.intro hg hat))
 have HK:=Lib.hid hk1
 clear ho hg hat h34 hk1
 go_wp2
 go_ret
 have r:=BdR.wrote (m:=[c]) HK.out (by
  rw[List.length_append,show Lib.byteCells (l++[c])=Lib.byteCells l++[.int .u8 cc] by rw[← HX.out.2.2.2];simp[Lib.byteCells]]
  exact H2.out.1) H2.out.2.1 (H2.out.2.2.imp id (fun e=>Or.inl (by rw[e];simp)))
 refine⟨rfl,.slice A n' cap,r.1,H1.out.2.trans ?_⟩
 have hb:=below_alloc w1 (.cells #[.int .u8 cc] 5)
 exact Turn.trans ⟨hb.os,hb.tape,hb.output,hb.size,fun k hk _ _=>hb.block k hk,Or.inl rfl⟩ r.2
end
def Bd (B b:Nat) (l:List UInt8) (F:List Nat) (w:World):Prop:=∃ q v,BdR B b l q v w∧(∀ k,v.ownBlock=some k→k∉F)∧(∀ k∈F,k<w.heap.size∧k≠b)∧B≤w.heap.size
def KeepF (B:Nat) (F:List Nat) (w w':World):Prop:=Below B w w'∧∀ k∈F,w'.heap[k]? = w.heap[k]?
section
variable {B b : Nat} {l : List UInt8} {F : List Nat} {w w' w'' : World}
theorem KeepF.refl:KeepF B F w w:=⟨Below.refl _ _,fun _ _=>rfl⟩
theorem KeepF.trans (h:KeepF B F w w') (k:KeepF B F w' w''):KeepF B F w w'':=⟨⟨k.1.os.trans h.1.os,k.1.tape.trans h.1.tape,k.1.output.trans h.1.output,Nat.le_trans h.1.size k.1.size,fun j hj=>(k.1.block j hj).trans (h.1.block j hj)⟩,fun j hj=>(k.2 j hj).trans (h.2 j hj)⟩
theorem Bd.turn {m:List UInt8} {q q':Option Addr} {v v':Value} (h:BdR B b l q v w) (hv:∀ k,v.ownBlock=some k→k∉F) (hF:∀ k∈F,k<w.heap.size∧k≠b) (hB:B≤w.heap.size) (h':BdR B b m q' v' w') (ht:Turn b v v' w w'):Bd B b m F w'∧KeepF B F w w':=by
 refine⟨⟨q',v',h',fun k hk hm=>?_,fun k hk=>⟨Nat.lt_of_lt_of_le (hF k hk).1 ht.size,(hF k hk).2⟩,Nat.le_trans hB ht.size⟩,⟨ht.os,ht.tape,ht.output,ht.size,fun k hk=>?_⟩,fun k hk=>?_⟩
 ·rcases ht.at_ with e|⟨j,e,e2⟩
  ·exact hv k (e.symm.trans hk) hm
  ·rw[e] at hk
   have:=Option.some.inj hk
   have:=(hF k hm).1
   omega
 ·refine ht.out k (Nat.lt_of_lt_of_le hk hB) (by have:=h.le;omega) fun e=>?_
  have:=h.low k e.symm
  omega
 ·exact ht.out k (hF k hk).1 (hF k hk).2 fun e=>hv k e.symm hk
theorem Bd.new (w:World):Bd w.heap.size w.heap.size [] [] (w.alloc (.cells #[.pointer none,.slice none 0 0] 132)) :=
 ⟨_,_,BdR.new w,(fun k hk=>by cases hk),(fun k hk=>by cases hk),(below_alloc _ _).size⟩
theorem Bd.more (h:Bd B b l F w) (hb:Below w.heap.size w w') (G:List Nat) (hG:∀ k∈G,w.heap.size≤k∧k<w'.heap.size):Bd B b l (G++F) w':=by
 obtain⟨q,v,h1,h2,h3,h4⟩:=h
 refine⟨q,v,h1.keep hb,fun k hk hm=>?_,fun k hk=>?_,Nat.le_trans h4 hb.size⟩
 ·rcases List.mem_append.1 hm with h5|h5
  ·have:=h1.low k hk
   have:=hG k h5
   omega
  ·exact h2 k hk h5
 ·rcases List.mem_append.1 hk with h5|h5
  ·have:=hG k h5
   have:=h1.row.lt
   omega
  ·exact⟨Nat.lt_of_lt_of_le (h3 k h5).1 hb.size,(h3 k h5).2⟩
theorem Bd.keep (h:Bd B b l F w) (hb:Below w.heap.size w w'):Bd B b l F w':=h.more hb [] (fun _ hk=>by cases hk)
theorem Bd.len (h:Bd B b l F w):Calls Tryz.prog 97 #[.pointer (some ⟨b,0,none⟩)] w fun e w'=>e=.returned (.int .i64 (l.length:Int))∧w'=w:=by
 obtain⟨q,v,h1,_⟩:=h
 exact h1.len
theorem Bd.str (h:Bd B b l F w) (s:ByteArray) (hs:l.length+s.size≤1000000000):Calls Tryz.prog 63 #[.pointer (some ⟨b,0,none⟩),.string s] w fun e w'=>e=.returned (.tuple #[.int .i64 (s.size:Int),.nilIface])∧Bd B b (l++bl s) F w'∧KeepF B F w w':=by
 obtain⟨q,v,h1,h2,h3,h4⟩:=h
 refine (h1.str s hs h4).mono ?_
 rintro e w' ⟨rfl,v',h5,h6⟩
 exact⟨rfl,Bd.turn h1 h2 h3 h4 h5 h6⟩
theorem Bd.byte (h:Bd B b l F w) (c:UInt8) (cc:Int) (hcc:((c.toNat:Nat):Int)=cc) (hs:l.length+1≤1000000000):Calls Tryz.prog 62 #[.pointer (some ⟨b,0,none⟩),.int .u8 cc] w fun e w'=>e=.returned .nilIface∧Bd B b (l++[c]) F w'∧KeepF B F w w':=by
 obtain⟨q,v,h1,h2,h3,h4⟩:=h
 refine (h1.byte c cc hcc hs h4).mono ?_
 rintro e w' ⟨rfl,v',h5,h6⟩
 exact⟨rfl,Bd.turn h1 h2 h3 h4 h5 h6⟩
theorem Bd.string (h:Bd B b l F w):Calls Tryz.prog 64 #[.pointer (some ⟨b,0,none⟩)] w fun e w'=>e=.returned (.string ⟨l.toArray⟩)∧Below B w w':=by
 obtain⟨q,v,h1,h2,h3,h4⟩:=h
 exact Tryz.Builder_String_any B b l w h1.at h4
end
end
section
open Go.RowKit
theorem bl_inj {a b:ByteArray} (h:bl a=bl b):a=b:=by
 obtain⟨⟨a⟩⟩:=a
 obtain⟨⟨b⟩⟩:=b
 exact congrArg (fun l=>(⟨⟨l⟩⟩:ByteArray)) h
theorem bl_from (s:ByteArray) (n:Nat):bl (s.extract n s.size)=(bl s).drop n:=by
 show (s.extract n s.size).data.toList=_
 rw[Lib.extract_data,List.take_of_length_le (by rw[List.length_drop];show (bl s).length - n≤s.size - n;rw[bl_length];exact Nat.le_refl _)]
theorem first_no (s:ByteArray) (n:Nat) (e:Int) (k:Nat) (h:flGo 0 ((bl s).drop n) 0=(e,k)) (he:e≠0) (w:World) (hs:s.size≤1000000) :
  Calls Tryz.prog 96 #[.string (s.extract n s.size)] w fun x w'=>x=.returned (.tuple #[.string ⟨#[]⟩,.int .i64 e])∧w'=w:=by
 have h1:=first47 (s.extract n s.size) w (by rw[ByteArray.size_extract];omega)
 rw[bl_from,h] at h1
 unfold flS at h1
 rw[if_neg he] at h1
 exact h1
theorem first_ok (s:ByteArray) (n m:Nat) (h:flGo 0 ((bl s).drop n) 0=(0,m+1)) (w:World) (hs:s.size≤1000000) (hn:n≤s.size) :
  Calls Tryz.prog 96 #[.string (s.extract n s.size)] w fun x w'=>x=.returned (.tuple #[.string (s.extract n (n+m)),.int .i64 0])∧w'=w:=by
 have h1:=first47 (s.extract n s.size) w (by rw[ByteArray.size_extract];omega)
 rw[bl_from,h] at h1
 unfold flS at h1
 rw[if_pos rfl] at h1
 obtain⟨_,h3,h4⟩:=line_of s n (m+1) hn h
 have e1:(s.extract n s.size).extract 0 (m+1 - 1)=s.extract n (n+m):=by
  apply bl_inj
  rw[show n+m=n+(m+1) - 1 by omega,h4,bl_seg _ 0 _ (by rw[ByteArray.size_extract];omega)]
  unfold seg
  rw[bl_from,List.drop_zero,Nat.sub_zero]
 rw[e1] at h1
 exact h1
theorem dot_eq (L:ByteArray):(L.toList==[46])=decide (bl L=[46]):=by
 rw[ByteArray.toList_eq,Bool.eq_iff_iff,decide_eq_true_eq,beq_iff_eq]
theorem head_dot (L:ByteArray) (h:(bl L).head? = some 46) (hd:bl L≠[46]):∃ h2:1<L.size,(bl L)[1]? = some L[1]:=by
 have hl:=bl_length L
 have h2:1<L.size:=by
  rw[← hl]
  cases hb:bl L with
  | nil=>rw[hb] at h;cases h
  | cons a t =>
   cases t with
   | nil=>rw[hb] at h hd;simp at h;exact absurd (by rw[h]) hd
   | cons b t=>simp
 exact⟨h2,by rw[List.getElem?_eq_getElem (by rw[hl];exact h2)];rfl⟩
theorem bl_one (L:ByteArray):bl (L.extract 1 L.size)=(bl L).drop 1:=bl_from L 1
def UnInv (s:ByteArray) (w0:World) (i f:Value) (w:World):Prop :=
 ∃ (n fuel:Nat) (first:Bool) (text:List UInt8),n≤s.size∧i=.int .i64 n∧f=.bool first∧s.size - n<fuel∧text.length≤262144∧unGo fuel first text n ((bl s).drop n)=unL (bl s)∧Bd w0.heap.size w0.heap.size text [] w∧Below w0.heap.size w0 w
set_option maxRecDepth 100000 in
set_option maxHeartbeats 6400000 in
theorem unstuff19 (s:ByteArray) (w:World) (hs:s.size≤1000000) :
  Calls Tryz.prog 59 #[.string s] w fun e w'=>∃ t,e=.returned (.tuple #[.string t,.int .i64 (unL (bl s)).2.1,.int .i64 (unL (bl s)).2.2])∧bl t=(unL (bl s)).1∧Below w.heap.size w w':=by
 have HB0:=Lib.hid (Bd.new w)
 have HW0:=Lib.hid (below_alloc w (.cells #[.pointer none,.slice none 0 0] 132))
 go_enter Tryz.func59,Tryz.ntmps59
 go_wp2
 go_loopw [3,6] (fun i f wr=>UnInv s w i f wr) (fun i _ _=>s.size - (intOf i).toNat)
 case atStart=>exact⟨0,s.size+1,true,[],Nat.zero_le _,rfl,rfl,by omega,by simp,by unfold unL;rw[bl_length];rfl,HB0.out,HW0.out⟩
 case round =>
  obtain⟨n,fuel,first,text,hn,rfl,rfl,hf,ht,hu,hb,hw⟩:=hrel
  obtain⟨f,rfl⟩:∃ f,fuel=f+1:=⟨fuel - 1,by omega⟩
  obtain⟨e,k,hr⟩:∃ e k,flGo 0 ((bl s).drop n) 0=(e,k):=⟨_,_,rfl⟩
  by_cases he:e≠0
  ·have HE:=Lib.hid (And.intro (unGo_err f first text n _ e k hr he) (And.intro hr (And.intro he (And.intro hu hw))))
   have hen:(e != 0)=true:=by simpa using he
   clear hr he hu hb hw hf
   go_wp2_with (go_at_call 96;refine (first_no s n e k HE.out.2.1 HE.out.2.2.1 _ hs).mono ?_;rintro x w1 ⟨rfl,rfl⟩)
   go_ret3
   rw[← HE.out.2.2.2.1,HE.out.1]
   exact⟨⟨#[]⟩,rfl,rfl,HE.out.2.2.2.2⟩
  ·obtain rfl:e=0:=by omega
   obtain⟨h1,h2,h3⟩:=line_of s n k hn hr
   obtain⟨m,rfl⟩:∃ m,k=m+1:=⟨k - 1,by omega⟩
   rw[show n+(m+1) - 1=n+m by omega] at h3
   have hsz:(s.extract n (n+m)).size=m:=by rw[ByteArray.size_extract];omega
   have H47:=Lib.hid (fun w1=>first_ok s n m hr w1 hs hn)
   obtain⟨L,hL⟩:∃ L,s.extract n (n+m)=L:=⟨_,rfl⟩
   rw[hL] at H47 h3 hsz
   have hdot:=dot_eq L
   have hpre:=pre_dot L
   have HU:=Lib.hid (And.intro hr (And.intro h3 (And.intro hu (And.intro hb (And.intro hw hf)))))
   clear hL h1 he hr h3 hu hb hw hf
   by_cases hd:bl L=[46]
   ·rw[decide_eq_true hd] at hdot
    have HX:=Lib.hid (And.intro (un_dot HU.out.1 HU.out.2.1 HU.out.2.2.1 hd) hpre)
    clear hd hpre
    cases first with
    | true =>
     go_wp2_with (go_at_call 96;refine (H47.out _).mono ?_;rintro x w1 ⟨rfl,rfl⟩)
     go_ret3
     rw[HX.out.1]
     exact⟨⟨#[]⟩,rfl,rfl,HU.out.2.2.2.2.1⟩
    | false =>
     go_wp2_with (first
      | (go_at_call 96;refine (H47.out _).mono ?_;rintro x w1 ⟨rfl,rfl⟩)
      | (go_at_call 64;refine (HU.out.2.2.2.1.string).mono ?_;rintro x w1 ⟨rfl,hw1⟩;have HW1:=Lib.hid hw1;clear hw1))
     go_ret3
     rw[HX.out.1]
     exact⟨⟨text.toArray⟩,by simp;omega,rfl,Below.trans HU.out.2.2.2.2.1 HW1.out⟩
   ·rw[decide_eq_false hd] at hdot
    by_cases hp:(bl L).head? = some 46
    ·rw[decide_eq_true hp] at hpre
     have HP:=Lib.hid hpre
     obtain⟨h1s,h1⟩:=head_dot L hp hd
     obtain⟨q,rfl⟩:∃ q,m=q+1:=⟨m - 1,by omega⟩
     have hq1:1≤q:=by omega
     have hq0:0<q:=hq1
     have hone:=bl_one L
     rw[hsz] at hone
     have hz2:(L.extract 1 (q+1)).size=q:=by rw[ByteArray.size_extract];omega
     have hg:(L.extract 1 (q+1))[0]'(by omega)=L[1]:=by rw[ByteArray.getElem_extract]
     obtain⟨L2,hL2⟩:∃ L2,L.extract 1 (q+1)=L2:=⟨_,rfl⟩
     have hg0:0<L2.size:=by rw[← hL2];omega
     have hg2:L2[0]=L[1]:=by subst hL2;exact hg
     rw[hL2] at hone hz2
     clear hg
     rw[← hg2] at h1
     have hb2:∀ c:UInt8,(((L2[0].toNat:Nat):Int) != ((c.toNat:Nat):Int))=(L2[0] != c):=fun c=>by
      unfold bne
      rw[Bool.not_inj_iff,Bool.eq_iff_iff];simp only[beq_iff_eq,Int.natCast_inj];exact⟨UInt8.toNat_inj.1,fun h=>by rw[h]⟩
     by_cases h46:L2[0]=46
     ·have e46:(((L2[0].toNat:Nat):Int) != 46)=false:=(hb2 46).trans (by simp[h46])
      have HD:=Lib.hid (show bl L≠[46]∧(((bl L).head?≠some 46∧bl L2=bl L)∨((bl L).head? = some 46∧(bl L)[1]? = some 46∧bl L2=(bl L).drop 1)) from ⟨hd,.inr ⟨hp,by rw[h1,h46],hone⟩⟩)
      have HZ:=Lib.hid hz2
      clear hd hp hpre hb2 h46 h1 hone hg2
      cases first with
      | true =>
       obtain⟨N,hN⟩:∃ N,(text++bl L2).length=N:=⟨_,rfl⟩
       have hNe:(addL true text (bl L2)).length=N:=hN
       by_cases h5:262144<(addL true text (bl L2)).length
       ·have hx:=un_long HU.out.1 HU.out.2.1 HU.out.2.2.1 HD.out.1 _ HD.out.2 h5
        have hlen:(262144:Int)<(N:Int):=by omega
        have HX:=Lib.hid (And.intro hx h5)
        have HN:=Lib.hid (And.intro hN hNe)
        clear hx h5 hN hNe
        have T0:True:=trivial
        have T1:True:=trivial
        have T2:True:=trivial
        go_wp2_with (first
         | (go_at_call 96;refine (H47.out _).mono ?_;rintro x w1 ⟨rfl,rfl⟩)
         | (have hh:=T0;clear hh T0;go_at_call 61;refine (Tryz.strings_HasPrefix L ⟨#[46]⟩ _).mono ?_;rw[show Lib.hasPrefix L.data.toList (⟨#[46]⟩:ByteArray).data.toList=true from HP.out];rintro x w1 ⟨rfl,rfl⟩)
         | (have hh:=T2;clear hh T2;go_at_call 63;refine (HU.out.2.2.2.1.str L2 (by rw[HZ.out];(try simp only[List.length_append,List.length_cons,List.length_nil]);omega)).mono ?_;rintro x w3 ⟨rfl,hb3,hk3⟩;have H3:=Lib.hid (And.intro hb3 hk3);clear hb3 hk3)
         | (go_at_call 97;refine (H3.out.1.len).mono ?_;rw[HN.out.1];rintro x w4 ⟨rfl,rfl⟩))
        go_ret3
        rw[HX.out.1]
        exact⟨⟨#[]⟩,rfl,rfl,HU.out.2.2.2.2.1.trans H3.out.2.1⟩
       ·have hx:=un_more HU.out.1 HU.out.2.1 HU.out.2.2.1 HD.out.1 _ HD.out.2 h5
        have hlen:¬ (262144:Int)<(N:Int):=by omega
        have HX:=Lib.hid (And.intro hx h5)
        have HN:=Lib.hid (And.intro hN hNe)
        clear hx h5 hN hNe
        have T0:True:=trivial
        have T1:True:=trivial
        have T2:True:=trivial
        go_wp2_with (first
         | (go_at_call 96;refine (H47.out _).mono ?_;rintro x w1 ⟨rfl,rfl⟩)
         | (have hh:=T0;clear hh T0;go_at_call 61;refine (Tryz.strings_HasPrefix L ⟨#[46]⟩ _).mono ?_;rw[show Lib.hasPrefix L.data.toList (⟨#[46]⟩:ByteArray).data.toList=true from HP.out];rintro x w1 ⟨rfl,rfl⟩)
         | (have hh:=T2;clear hh T2;go_at_call 63;refine (HU.out.2.2.2.1.str L2 (by rw[HZ.out];(try simp only[List.length_append,List.length_cons,List.length_nil]);omega)).mono ?_;rintro x w3 ⟨rfl,hb3,hk3⟩;have H3:=Lib.hid (And.intro hb3 hk3);clear hb3 hk3)
         | (go_at_call 97;refine (H3.out.1.len).mono ?_;rw[HN.out.1];rintro x w4 ⟨rfl,rfl⟩))
        go_roundw
        case rel=>exact⟨n+((q+1)+1+1),f,false,_,by omega,by go_num,rfl,by have:=HU.out.2.2.2.2.2;omega,by have:=HX.out.2;omega,HX.out.1,H3.out.1,HU.out.2.2.2.2.1.trans H3.out.2.1⟩
        case measure=>simp[intOf] <;> omega
      | false =>
       obtain⟨N,hN⟩:∃ N,(text++[10]++bl L2).length=N:=⟨_,rfl⟩
       have hNe:(addL false text (bl L2)).length=N:=hN
       by_cases h5:262144<(addL false text (bl L2)).length
       ·have hx:=un_long HU.out.1 HU.out.2.1 HU.out.2.2.1 HD.out.1 _ HD.out.2 h5
        have hlen:(262144:Int)<(N:Int):=by omega
        have HX:=Lib.hid (And.intro hx h5)
        have HN:=Lib.hid (And.intro hN hNe)
        clear hx h5 hN hNe
        have T0:True:=trivial
        have T1:True:=trivial
        have T2:True:=trivial
        go_wp2_with (first
         | (go_at_call 96;refine (H47.out _).mono ?_;rintro x w1 ⟨rfl,rfl⟩)
         | (have hh:=T0;clear hh T0;go_at_call 61;refine (Tryz.strings_HasPrefix L ⟨#[46]⟩ _).mono ?_;rw[show Lib.hasPrefix L.data.toList (⟨#[46]⟩:ByteArray).data.toList=true from HP.out];rintro x w1 ⟨rfl,rfl⟩)
         | (have hh:=T1;clear hh T1;go_at_call 62;refine (HU.out.2.2.2.1.byte 10 10 rfl (by omega)).mono ?_;rintro x w2 ⟨rfl,hb2,hk2⟩;have H2:=Lib.hid (And.intro hb2 hk2);clear hb2 hk2)
         | (have hh:=T2;clear hh T2;go_at_call 63;refine (H2.out.1.str L2 (by rw[HZ.out];(try simp only[List.length_append,List.length_cons,List.length_nil]);omega)).mono ?_;rintro x w3 ⟨rfl,hb3,hk3⟩;have H3:=Lib.hid (And.intro hb3 hk3);clear hb3 hk3)
         | (go_at_call 97;refine (H3.out.1.len).mono ?_;rw[HN.out.1];rintro x w4 ⟨rfl,rfl⟩))
        go_ret3
        rw[HX.out.1]
        exact⟨⟨#[]⟩,rfl,rfl,(HU.out.2.2.2.2.1.trans H2.out.2.1).trans H3.out.2.1⟩
       ·have hx:=un_more HU.out.1 HU.out.2.1 HU.out.2.2.1 HD.out.1 _ HD.out.2 h5
        have hlen:¬ (262144:Int)<(N:Int):=by omega
        have HX:=Lib.hid (And.intro hx h5)
        have HN:=Lib.hid (And.intro hN hNe)
        clear hx h5 hN hNe
        have T0:True:=trivial
        have T1:True:=trivial
        have T2:True:=trivial
        go_wp2_with (first
         | (go_at_call 96;refine (H47.out _).mono ?_;rintro x w1 ⟨rfl,rfl⟩)
         | (have hh:=T0;clear hh T0;go_at_call 61;refine (Tryz.strings_HasPrefix L ⟨#[46]⟩ _).mono ?_;rw[show Lib.hasPrefix L.data.toList (⟨#[46]⟩:ByteArray).data.toList=true from HP.out];rintro x w1 ⟨rfl,rfl⟩)
         | (have hh:=T1;clear hh T1;go_at_call 62;refine (HU.out.2.2.2.1.byte 10 10 rfl (by omega)).mono ?_;rintro x w2 ⟨rfl,hb2,hk2⟩;have H2:=Lib.hid (And.intro hb2 hk2);clear hb2 hk2)
         | (have hh:=T2;clear hh T2;go_at_call 63;refine (H2.out.1.str L2 (by rw[HZ.out];(try simp only[List.length_append,List.length_cons,List.length_nil]);omega)).mono ?_;rintro x w3 ⟨rfl,hb3,hk3⟩;have H3:=Lib.hid (And.intro hb3 hk3);clear hb3 hk3)
         | (go_at_call 97;refine (H3.out.1.len).mono ?_;rw[HN.out.1];rintro x w4 ⟨rfl,rfl⟩))
        go_roundw
        case rel=>exact⟨n+((q+1)+1+1),f,false,_,by omega,by go_num,rfl,by have:=HU.out.2.2.2.2.2;omega,by have:=HX.out.2;omega,HX.out.1,H3.out.1,(HU.out.2.2.2.2.1.trans H2.out.2.1).trans H3.out.2.1⟩
        case measure=>simp[intOf] <;> omega
     ·have e46:(((L2[0].toNat:Nat):Int) != 46)=true:=(hb2 46).trans (by simp[h46])
      have HX:=Lib.hid (un_bad HU.out.1 HU.out.2.1 HU.out.2.2.1 hd hp (by rw[h1];simpa using h46))
      clear hd hp hpre hb2 h46 h1 hone hg2
      have T0:True:=trivial
      go_wp2_with (first
       | (go_at_call 96;refine (H47.out _).mono ?_;rintro x w1 ⟨rfl,rfl⟩)
       | (have hh:=T0;clear hh T0;go_at_call 61;refine (Tryz.strings_HasPrefix L ⟨#[46]⟩ _).mono ?_;rw[show Lib.hasPrefix L.data.toList (⟨#[46]⟩:ByteArray).data.toList=true from HP.out];rintro x w1 ⟨rfl,rfl⟩))
      go_ret3
      rw[HX.out]
      exact⟨⟨#[]⟩,rfl,rfl,HU.out.2.2.2.2.1⟩
    ·rw[decide_eq_false hp] at hpre
     have HP:=Lib.hid hpre
     have HD:=Lib.hid (show bl L≠[46]∧(((bl L).head?≠some 46∧bl L=bl L)∨((bl L).head? = some 46∧(bl L)[1]? = some 46∧bl L=(bl L).drop 1)) from ⟨hd,.inl ⟨hp,rfl⟩⟩)
     have HZ:=Lib.hid hsz
     clear hd hp hpre
     cases first with
     | true =>
      obtain⟨N,hN⟩:∃ N,(text++bl L).length=N:=⟨_,rfl⟩
      have hNe:(addL true text (bl L)).length=N:=hN
      by_cases h5:262144<(addL true text (bl L)).length
      ·have hx:=un_long HU.out.1 HU.out.2.1 HU.out.2.2.1 HD.out.1 _ HD.out.2 h5
       have hlen:(262144:Int)<(N:Int):=by omega
       have HX:=Lib.hid (And.intro hx h5)
       have HN:=Lib.hid (And.intro hN hNe)
       clear hx h5 hN hNe
       have T0:True:=trivial
       have T1:True:=trivial
       have T2:True:=trivial
       go_wp2_with (first
        | (go_at_call 96;refine (H47.out _).mono ?_;rintro x w1 ⟨rfl,rfl⟩)
        | (have hh:=T0;clear hh T0;go_at_call 61;refine (Tryz.strings_HasPrefix L ⟨#[46]⟩ _).mono ?_;rw[show Lib.hasPrefix L.data.toList (⟨#[46]⟩:ByteArray).data.toList=false from HP.out];rintro x w1 ⟨rfl,rfl⟩)
        | (have hh:=T2;clear hh T2;go_at_call 63;refine (HU.out.2.2.2.1.str L (by rw[HZ.out];(try simp only[List.length_append,List.length_cons,List.length_nil]);omega)).mono ?_;rintro x w3 ⟨rfl,hb3,hk3⟩;have H3:=Lib.hid (And.intro hb3 hk3);clear hb3 hk3)
        | (go_at_call 97;refine (H3.out.1.len).mono ?_;rw[HN.out.1];rintro x w4 ⟨rfl,rfl⟩))
       go_ret3
       rw[HX.out.1]
       exact⟨⟨#[]⟩,rfl,rfl,HU.out.2.2.2.2.1.trans H3.out.2.1⟩
      ·have hx:=un_more HU.out.1 HU.out.2.1 HU.out.2.2.1 HD.out.1 _ HD.out.2 h5
       have hlen:¬ (262144:Int)<(N:Int):=by omega
       have HX:=Lib.hid (And.intro hx h5)
       have HN:=Lib.hid (And.intro hN hNe)
       clear hx h5 hN hNe
       have T0:True:=trivial
       have T1:True:=trivial
       have T2:True:=trivial
       go_wp2_with (first
        | (go_at_call 96;refine (H47.out _).mono ?_;rintro x w1 ⟨rfl,rfl⟩)
        | (have hh:=T0;clear hh T0;go_at_call 61;refine (Tryz.strings_HasPrefix L ⟨#[46]⟩ _).mono ?_;rw[show Lib.hasPrefix L.data.toList (⟨#[46]⟩:ByteArray).data.toList=false from HP.out];rintro x w1 ⟨rfl,rfl⟩)
        | (have hh:=T2;clear hh T2;go_at_call 63;refine (HU.out.2.2.2.1.str L (by rw[HZ.out];(try simp only[List.length_append,List.length_cons,List.length_nil]);omega)).mono ?_;rintro x w3 ⟨rfl,hb3,hk3⟩;have H3:=Lib.hid (And.intro hb3 hk3);clear hb3 hk3)
        | (go_at_call 97;refine (H3.out.1.len).mono ?_;rw[HN.out.1];rintro x w4 ⟨rfl,rfl⟩))
       go_roundw
       case rel=>exact⟨n+(m+1+1),f,false,_,by omega,by go_num,rfl,by have:=HU.out.2.2.2.2.2;omega,by have:=HX.out.2;omega,HX.out.1,H3.out.1,HU.out.2.2.2.2.1.trans H3.out.2.1⟩
       case measure=>simp[intOf] <;> omega
     | false =>
      obtain⟨N,hN⟩:∃ N,(text++[10]++bl L).length=N:=⟨_,rfl⟩
      have hNe:(addL false text (bl L)).length=N:=hN
      by_cases h5:262144<(addL false text (bl L)).length
      ·have hx:=un_long HU.out.1 HU.out.2.1 HU.out.2.2.1 HD.out.1 _ HD.out.2 h5
       have hlen:(262144:Int)<(N:Int):=by omega
       have HX:=Lib.hid (And.intro hx h5)
       have HN:=Lib.hid (And.intro hN hNe)
       clear hx h5 hN hNe
       have T0:True:=trivial
       have T1:True:=trivial
       have T2:True:=trivial
       go_wp2_with (first
        | (go_at_call 96;refine (H47.out _).mono ?_;rintro x w1 ⟨rfl,rfl⟩)
        | (have hh:=T0;clear hh T0;go_at_call 61;refine (Tryz.strings_HasPrefix L ⟨#[46]⟩ _).mono ?_;rw[show Lib.hasPrefix L.data.toList (⟨#[46]⟩:ByteArray).data.toList=false from HP.out];rintro x w1 ⟨rfl,rfl⟩)
        | (have hh:=T1;clear hh T1;go_at_call 62;refine (HU.out.2.2.2.1.byte 10 10 rfl (by omega)).mono ?_;rintro x w2 ⟨rfl,hb2,hk2⟩;have H2:=Lib.hid (And.intro hb2 hk2);clear hb2 hk2)
        | (have hh:=T2;clear hh T2;go_at_call 63;refine (H2.out.1.str L (by rw[HZ.out];(try simp only[List.length_append,List.length_cons,List.length_nil]);omega)).mono ?_;rintro x w3 ⟨rfl,hb3,hk3⟩;have H3:=Lib.hid (And.intro hb3 hk3);clear hb3 hk3)
        | (go_at_call 97;refine (H3.out.1.len).mono ?_;rw[HN.out.1];rintro x w4 ⟨rfl,rfl⟩))
       go_ret3
       rw[HX.out.1]
       exact⟨⟨#[]⟩,rfl,rfl,(HU.out.2.2.2.2.1.trans H2.out.2.1).trans H3.out.2.1⟩
      ·have hx:=un_more HU.out.1 HU.out.2.1 HU.out.2.2.1 HD.out.1 _ HD.out.2 h5
       have hlen:¬ (262144:Int)<(N:Int):=by omega
       have HX:=Lib.hid (And.intro hx h5)
       have HN:=Lib.hid (And.intro hN hNe)
       clear hx h5 hN hNe
       have T0:True:=trivial
       have T1:True:=trivial
       have T2:True:=trivial
       go_wp2_with (first
        | (go_at_call 96;refine (H47.out _).mono ?_;rintro x w1 ⟨rfl,rfl⟩)
        | (have hh:=T0;clear hh T0;go_at_call 61;refine (Tryz.strings_HasPrefix L ⟨#[46]⟩ _).mono ?_;rw[show Lib.hasPrefix L.data.toList (⟨#[46]⟩:ByteArray).data.toList=false from HP.out];rintro x w1 ⟨rfl,rfl⟩)
        | (have hh:=T1;clear hh T1;go_at_call 62;refine (HU.out.2.2.2.1.byte 10 10 rfl (by omega)).mono ?_;rintro x w2 ⟨rfl,hb2,hk2⟩;have H2:=Lib.hid (And.intro hb2 hk2);clear hb2 hk2)
        | (have hh:=T2;clear hh T2;go_at_call 63;refine (H2.out.1.str L (by rw[HZ.out];(try simp only[List.length_append,List.length_cons,List.length_nil]);omega)).mono ?_;rintro x w3 ⟨rfl,hb3,hk3⟩;have H3:=Lib.hid (And.intro hb3 hk3);clear hb3 hk3)
        | (go_at_call 97;refine (H3.out.1.len).mono ?_;rw[HN.out.1];rintro x w4 ⟨rfl,rfl⟩))
       go_roundw
       case rel=>exact⟨n+(m+1+1),f,false,_,by omega,by go_num,rfl,by have:=HU.out.2.2.2.2.2;omega,by have:=HX.out.2;omega,HX.out.1,H3.out.1,(HU.out.2.2.2.2.1.trans H2.out.2.1).trans H3.out.2.1⟩
       case measure=>simp[intOf] <;> omega
end
end Go.Proofs.YtdkjgcfhepplbaaGreatDoor
