/- How the effects of answers, an argument of three bytes and a word that come in read. -/
import Derived.Test.YtdkjgcfhepplbaaGreatDoorMLa15
import Derived.Test.YtdkjgcfhepplbaaGreatDoorTie
import Derived.Test.YtdkjgcfhepplbaaGreatDoorCards
import Derived.SevenTiedAt
namespace Go.Proofs.YtdkjgcfhepplbaaGreatDoor
open Go.ChangeShapes Go.WideShapes Go.ChangeAt Go.RowKit Go.Deep
theorem effects_name:Tryz.prog.globalNamed "bulletin/offer.effects"=some 1:=by kernel_rfl
def effR:List (List Int):=[Sn.effL.take 12,(Sn.effL.drop 12).take 12,(Sn.effL.drop 24).take 12,(Sn.effL.drop 36).take 12]
theorem eff_of {W:World} (h:laidMetH Tryz.prog lst W):Sn.EffAt W:=by
 rw[MakeChecks.laidMetH_plain _ _ _ (by kernel_rfl)] at h
 have h2:laidMet Tryz.prog [("bulletin/offer.effects",Rows.laid_bulletin_offer_effects),("unicode/utf8.first",Rows.laid_unicode_utf8_first)] W:=h.tail.tail.tail.tail.tail
 obtain⟨ps2,⟨g2,t2,cs2,fuel2,p2,q2,hg2,ht2,hvar2,hd2,_,_⟩,_⟩:=h2
 obtain rfl:=Option.some.inj (effects_name.symm.trans hg2)
 obtain rfl:156=t2:=Option.some.inj ((show (Tryz.prog.globals[1]?).map (·.type)=some 156 by kernel_rfl).symm.trans ht2)
 have e2:=cells_of_rows Tryz.underlying156 (c:=12) (by kernel_rfl) (by kernel_rfl) effR (Lib.tabData .i64) (fun zs=>zs.map (Value.int .i64)) (fun zs f ds q h=>Lib.cells_of_tab (n:=12) (e:=3) Tryz.underlying155 Tryz.underlying3 (by kernel_rfl) (by kernel_rfl) h) hd2
 exact at_var effects_name hvar2 _ e2 (by decide)
theorem cells3B:Tryz.prog.cellsOf 24=3:=by kernel_rfl
theorem tri_val_of_trod {H:Type} {enc:TypeId×Value→H} {w:World} {v:Value} {d:DataW H} {p:List MemPlace}
  (h:DataW.Trod enc Tryz.prog w 0 (fun _=>true) true 24 v d p):∃ a b c:UInt8,v=vP3 a b c:=by
 obtain⟨fuel,hf⟩:=h
 obtain⟨xs,m,_,_,hl,hxs,hel⟩:=DataW.trod_array Tryz.underlying24 hf
 rw[cells3B] at hl
 have hb:∀ i,i<3→∃ b:UInt8,(v.cells.toList.drop i).take 1=[cB b]:=by
  intro i hi
  have h1:=hel i hi
  rw[cells5,Nat.mul_one,List.getElem?_eq_getElem (by omega)] at h1
  exact byte_of_trod h1
 obtain⟨a,ha⟩:=hb 0 (by decide)
 obtain⟨b,hb1⟩:=hb 1 (by decide)
 obtain⟨c,hc1⟩:=hb 2 (by decide)
 refine⟨a,b,c,?_⟩
 have hy:v.cells.toList=[cB a,cB b,cB c]:=by
  match hm:v.cells.toList,hl with
  | [x,y,z],_ =>
   rw[hm] at ha hb1 hc1
   simp only[List.drop_zero,List.take_succ_cons,List.take_zero,List.cons.injEq,and_true,List.drop_succ_cons] at ha hb1 hc1
   rw[ha,hb1,hc1]
 cases v <;> simp[Value.cells] at hl hy
 ·rename_i vs
  have:vs=#[cB a,cB b,cB c]:=by
   apply Array.toList_inj.1
   rw[hy]
  rw[this]
  rfl
theorem u64_of_wf {n:Int} (hw:(Lit.int .u64 n).wf=true):0≤n∧n≤18446744073709551615:=by
 simp[Lit.wf,IntKind.min,IntKind.max,IntKind.signed,IntKind.bits] at hw
 omega
open Go.ChangeShapes Go.WideShapes Go.ChangeAt Go.RowKit Go.Deep
set_option maxRecDepth 100000 in
theorem articlesOverDropsLifted (os:Go.Os) (started:os.Started) (H:Type) (enc:TypeId×Value→H) :
  ReturnsInHanded {} Tryz.checked os 3 .any (fun w args=>(Rows.articlesOverDropsSpec.pre enc Tryz.prog Tryz.f3 [] false w args∧laidMetH Tryz.prog lst w)∧sizedMet enc Tryz.prog Tryz.f3 (OpenSpec.ofChange Rows.articlesOverDropsSpec) false w args)
   (Rows.articlesOverDropsSpec.post enc Tryz.prog Tryz.f3 false true false false):=by
 refine wrapLS (C:=Tryz.checked) (X:=fun w _=>laidMetH Tryz.prog lst w) (fun _ _ _ hh h=>h.of_heap hh) ownD started (by kernel_rfl) Tryz.func3
  (ChangeSpec.witness_shaped (enc:=enc) (C:=Tryz.checked) (os:=os) (X:=fun w _=>laidMetH Tryz.prog lst w) false (World.laidAll Tryz.prog os lst) #[.slice none 0 0,.int .u64 0,vP3 0 0 0] 8 (World.laidAll_os _ _ _) (World.shaped_of_ZipB (by kernel_rfl) (by kernel_rfl)) (by kernel_rfl) (by kernel_rfl) (by kernel_rfl) (door_met os _)) ?_
 intro W base args ds gs before hval0 hW hL hsh
 have hval:∀ (j:Nat) t v,Tryz.f3.params[j]? = some t→args[j]? = some v→Value.okWide Tryz.prog W .any base t v:=hval0
 have hW':=hW
 obtain⟨p,q,hA0,hV,rfl,hfz,hnd⟩:=hW
 have hA:DataW.TrodAll enc Tryz.prog W 0 (fun _=>true) true Tryz.f3.params.toList args.toList ds p:=hA0
 rw[Tryz.params3] at hA hval
 obtain⟨v0,vs0,d0,ds0,p0,q0,hargs,rfl,rfl,h0,r0⟩:=trodAll_cons hA
 obtain⟨v1,vs1,d1,ds1,p1,q1,rfl,rfl,rfl,h1,r1⟩:=trodAll_cons r0
 obtain⟨v2,vs2,d2,ds2,p2,q2,rfl,rfl,rfl,h2,r2⟩:=trodAll_cons r1
 obtain⟨rfl,rfl,rfl⟩:=trodAll_nil r2
 obtain rfl:args=#[v0,v1,v2]:=by cases args;simp_all
 obtain⟨rfl,rfl⟩:=trodVars_none hV
 have hm:=laid_of hL hsh
 obtain⟨a0,len0,cap0,rfl⟩:=okWide_slice Tryz.underlying22 (hval 0 22 v0 rfl rfl)
 have k0:=h0
 have lt0:∀ x∈p0,x.block<W.heap.size:=by obtain⟨m,hm⟩:=k0;exact DataW.trod_lt m _ _ _ hm
 obtain⟨xs0,rfl,hc0,_,hs0⟩:=sl_of_trod cTt 1 (by decide) (fun _=>rfl) Tryz.underlying22 (by kernel_rfl) (fun h=>by obtain⟨s,e,_⟩:=DataW.trod_string Tryz.underlying9 h;exact⟨s,e⟩) h0
 obtain⟨a1,rfl,rfl,rfl,w1⟩:=open_int Tryz.underlying23 (hval 1 23 v1 rfl rfl) h1
 have k2:=h2
 have lt2:∀ x∈p2,x.block<W.heap.size:=by obtain⟨m,hm⟩:=k2;exact DataW.trod_lt m _ _ _ hm
 obtain⟨a2,b2,c2,rfl⟩:=tri_val_of_trod h2
 clear hA0 hval0
 refine (articles_law a0 cap0 xs0 a1 a2 b2 c2 W hs0 hc0 (u64_of_wf w1) hm (eff_of hL)).mono fun e W' ⟨he,bel⟩=>?_
 subst he
 exact⟨_,rfl,_,_,_,[],_,[],hW',trodAll_mk1 (shut_bool Tryz.underlying4 _),(trodAll_cons_mk (Below.trod laidOutD (by kernel_rfl) (of_decide_eq_true (by kernel_rfl)) k0 bel lt0) (trodAll_cons_mk (shut_int Tryz.underlying23 w1) (trodAll_cons_mk (Below.trod laidOutD (by kernel_rfl) (of_decide_eq_true (by kernel_rfl)) k2 bel lt2) trodAll_mk0))),rfl,bel.frame _,fun h=>by cases h⟩
theorem articlesOverDropsRowHolds:Rows.ArticlesOverDropsSaid :=
 OpenClaim.holds_of_wide 3 Tryz.f3 rfl rfl rfl rfl rfl rfl rfl ⟨rfl,rfl,rfl,rfl,rfl⟩ rfl rfl rfl rfl rfl (by kernel_rfl) Tryz.func3 (by kernel_rfl)
  (of_decide_eq_true (by kernel_rfl)) (by unfold Func.isWrapper;first|(rw[if_pos (by decide +kernel)];kernel_rfl)|(rw[if_neg (by decide +kernel)];exact⟨rfl,rfl⟩))
  (fun os started H enc _=>articlesOverDropsLifted os started H enc)
theorem articlesOverDropsCardProved:Rows.ArticlesOverDropsCardSaid :=
 Claim7.holds_tied_plain_at .later [] [.data,.data,.data,.data,.data,.data,.pinned] true Rows.articlesOverDropsCard.stood.harness false
  articlesOverDropsRowHolds (fun _ h=>by cases h) (by kernel_rfl) (fun _ h=>by cases h) articlesOverDrops_row_tie rfl ⟨rfl,rfl⟩ (by kernel_rfl) rfl
  (fun f fn hf hfn=>by
   obtain rfl:f=3:=Option.some.inj ((show Tryz.prog.funcNamed "bulletin/bulletintop.ArticlesOverDrops"=some 3 by kernel_rfl).symm.trans hf) |>.symm
   obtain rfl:fn=Tryz.f3:=(Option.some.inj (Tryz.func3.symm.trans hfn)).symm
   exact⟨by kernel_rfl,fun j t ht=>by
    rw[Tryz.params3] at ht
    have hm:t∈[22,23,24]:=by simpa using Array.mem_of_getElem? ht
    have hall:([22,23,24].all fun u => !Tryz.prog.wantsStandIn u)=true:=by kernel_rfl
    exact (show Tryz.prog.wantsStandIn t=false by simpa using List.all_eq_true.1 hall t hm)⟩)
  (by kernel_rfl)
end Go.Proofs.YtdkjgcfhepplbaaGreatDoor
