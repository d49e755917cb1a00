import Derived.Shelf.SlSortCmp.NoneTotal
import Derived.Test.YtbfghpbmalpdbaaMFnExactGenMeetx0
import Derived.Test.YtbfghpbmalpdbaaMFnExactGenMeetx7
import Derived.Test.YtbfghpbmalpdbaaMFnExactGenMeetx10
namespace Go.Proofs.Ytbfghpbmalpdbaa.MFnExactGenMeet
open Go.RowKit Go.Proofs.YtbfghpbmalpdbaaW.PrintWords Go.Proofs.YtbfghpbmalpdbaaW.PrintLast Go.Proofs.YtbfghpbmalpdbaaW.PrintMore Go.Proofs.Ytbfghpbmalpdbaa.Short6
attribute [local go_sem] max2_int min2_int max_two min_two max_three min_three max_four min_four
set_option linter.unusedVariables false
set_option linter.unusedSimpArgs false
def impl_GEdge_40.lays_ren:Go.Shelf.Ren:=⟨fun|6=>40|15=>47|14=>49|28=>58|29=>59|20=>60|21=>61|22=>62|23=>63|24=>64|25=>65|26=>66|27=>67|46=>73|47=>69|48=>70|49=>74|50=>75|57=>77|n=>n,fun|22=>26|24=>43|25=>58|3=>3|39=>66|0=>0|53=>84|55=>86|4=>4|46=>77|45=>76|50=>81|5=>5|9=>9|66=>92|70=>96|76=>100|77=>101|n=>n,fun|n=>n⟩
theorem impl_GEdge_40.lays:Go.Proofs.SlLaysF0.n6 Try.prog impl_GEdge_40.lays_ren:={
  mixed:=by kernel_rfl
  f6:=⟨Try.f40.name,by decide,Try.func40.trans (congrArg some (by kernel_rfl))⟩
  f14:=⟨Try.f49.name,by decide,Try.func49.trans (congrArg some (by kernel_rfl))⟩
  f15:=Try.func47.trans (congrArg some (by kernel_rfl))
  f20:=⟨Try.f60.name,by decide,Try.func60.trans (congrArg some (by kernel_rfl))⟩
  f21:=⟨Try.f61.name,by decide,Try.func61.trans (congrArg some (by kernel_rfl))⟩
  f22:=⟨Try.f62.name,by decide,Try.func62.trans (congrArg some (by kernel_rfl))⟩
  f23:=⟨Try.f63.name,by decide,Try.func63.trans (congrArg some (by kernel_rfl))⟩
  f24:=⟨Try.f64.name,by decide,Try.func64.trans (congrArg some (by kernel_rfl))⟩
  f25:=⟨Try.f65.name,by decide,Try.func65.trans (congrArg some (by kernel_rfl))⟩
  f26:=⟨Try.f66.name,by decide,Try.func66.trans (congrArg some (by kernel_rfl))⟩
  f27:=⟨Try.f67.name,by decide,Try.func67.trans (congrArg some (by kernel_rfl))⟩
  f28:=Try.func58.trans (congrArg some (by kernel_rfl))
  f29:=Try.func59.trans (congrArg some (by kernel_rfl))
  f46:=⟨Try.f73.name,by decide,Try.func73.trans (congrArg some (by kernel_rfl))⟩
  f47:=Try.func69.trans (congrArg some (by kernel_rfl))
  f48:=Try.func70.trans (congrArg some (by kernel_rfl))
  f49:=⟨Try.f74.name,by decide,Try.func74.trans (congrArg some (by kernel_rfl))⟩
  f50:=⟨Try.f75.name,by decide,Try.func75.trans (congrArg some (by kernel_rfl))⟩
  f57:=⟨Try.f77.name,by decide,Try.func77.trans (congrArg some (by kernel_rfl))⟩
  t0:=Try.underlying0
  a0:=Try.isAgg0
  z0:=Try.sizeOf0
  v0:=Try.zeroValue0
  t3:=Try.underlying3
  a3:=Try.isAgg3
  z3:=Try.sizeOf3
  v3:=Try.zeroValue3
  t4:=Try.underlying4
  a4:=Try.isAgg4
  z4:=Try.sizeOf4
  v4:=Try.zeroValue4
  t5:=Try.underlying5
  a5:=Try.isAgg5
  z5:=Try.sizeOf5
  v5:=Try.zeroValue5
  t9:=Try.underlying9
  a9:=Try.isAgg9
  z9:=Try.sizeOf9
  v9:=Try.zeroValue9
  t22:=Try.underlying26
  a22:=Try.isAgg26
  z22:=Try.sizeOf26
  v22:=Try.zeroValue26
  t25:=Try.underlying58
  a25:=Try.isAgg58
  z25:=Try.sizeOf58
  v25:=Try.zeroValue58
  t39:=Try.underlying66
  a39:=Try.isAgg66
  z39:=Try.sizeOf66
  v39:=Try.zeroValue66
  t45:=Try.underlying76
  a45:=Try.isAgg76
  z45:=Try.sizeOf76
  v45:=Try.zeroValue76
  t46:=Try.underlying77
  a46:=Try.isAgg77
  z46:=Try.sizeOf77
  v46:=Try.zeroValue77
  t50:=Try.underlying81
  a50:=Try.isAgg81
  z50:=Try.sizeOf81
  v50:=Try.zeroValue81
  t53:=Try.underlying84
  a53:=Try.isAgg84
  z53:=Try.sizeOf84
  v53:=Try.zeroValue84
  t55:=Try.underlying86
  a55:=Try.isAgg86
  z55:=Try.sizeOf86
  v55:=Try.zeroValue86
  t66:=Try.underlying92
  a66:=Try.isAgg92
  z66:=Try.sizeOf92
  v66:=Try.zeroValue92
  t70:=Try.underlying96
  a70:=Try.isAgg96
  z70:=Try.sizeOf96
  v70:=Try.zeroValue96
  t76:=Try.underlying100
  a76:=Try.isAgg100
  z76:=Try.sizeOf100
  v76:=Try.zeroValue100
  t77:=Try.underlying101
  a77:=Try.isAgg101
  z77:=Try.sizeOf101
  v77:=Try.zeroValue101 }
theorem impl_GEdge_40.dr_drewN {w w':World} (h:w.drawn≤w'.drawn) (n:Nat):w.drawn≤(w'.drewN n).drawn:=Nat.le_trans h (Nat.le_add_right _ _)
theorem impl_GEdge_40.dr_drew {w w':World} (h:w.drawn≤w'.drawn):w.drawn≤w'.drew.drawn:=Nat.le_trans h (Nat.le_add_right _ _)
section
variable {P:Program} {ops:Array Oper} {Q:Exit→Act→World→Prop} {rest:List Oper} {o:Oper} {a:Act} {Kc:Act→World→Prop} {α:Type}
theorem impl_GEdge_40.box_event_d {W:World} (hgd:o.guard=none) {N:Tmp} (_hd:o.dst=some N) {cs:Array Value} {t:TypeId}
    (hrun:(execOp a.eval o).run P W=.ok (.value (.pointer (some ⟨W.heap.size,0,none⟩))) (W.alloc (.cells cs t (0,0))))
    (h:∀ g,g=W.heap.size→∀ w1,w1.heap[g]?=some (.cells cs t (0,0))→Below W.heap.size W w1→W.drawn≤w1.drawn→wpList P ops Q rest (a.put o.dst (.pointer (some ⟨g,0,none⟩))) w1):wpList P ops Q (o :: rest) a W:=
  Kd.event_run hgd hrun (h _ rfl _ (blk_new W _) (below_alloc (Below.refl _ _) _) (Nat.le_refl _))
theorem impl_GEdge_40.R_lit_step_d (d:Kd α) {w0 W:World} (base e:Nat) (hw:Region.wanted o (yielded ops a.tmps)=true) {N:Tmp} (_hd:o.dst=some N) {xs:List α} {inner:List Value} {ok okp:Nat→Prop}
    (hrun:(execOp a.eval o).run P W=.ok (.value (.slice (some ⟨W.heap.size,0,none⟩) xs.length xs.length)) (W.alloc (.cells inner.toArray e)))
    (hrep:Reps (d.M W base okp) d.sz xs inner) (hok:∀ k,okp k→ok k) (hfresh:ok W.heap.size) (HB:Below base w0 W) (hbase:base≤W.heap.size) (hm:xs.length≤9223372036854775807)
    (h:∀ v1 w1,d.R e w1 base ok v1 xs→Below base w0 w1→W.grownBy w1 none→(∃ b,v1.ownBlock=some b∧W.heap.size≤b)→W.drawn≤w1.drawn→Kc (a.put o.dst v1) w1):if Region.wanted o (yielded ops a.tmps)=true then Oper.wp P o a W Kc Q else Kc (a.put o.dst undef) W:=by
  refine event_step hw hrun (h _ _ ⟨fun k hk=>?_,inner,?_,?_⟩ (HB.alloc hbase _) (World.grownBy_alloc W _ none) ⟨W.heap.size,by simp[Value.ownBlock],Nat.le_refl _⟩ (Nat.le_refl _))
  · have:W.heap.size=k:=by simpa [Value.ownBlock] using hk
    subst this
    exact hfresh
  · have h2:=World.ownsRow_lit (base:=base) (e:=e) (size:=d.sz) W inner.toArray xs.length hbase (by simpa [maxLen] using hm) (by simpa using hrep.1)
    simpa using h2
  refine hrep.imp_ (fun p c hp=>d.M_mono (fun k hk=>⟨hok k hk.1,fun he=>?_⟩) (Kd.M_below (d.M_bound hp) (below_alloc (Below.refl _ _) _)))
  have h3:k=W.heap.size:=by simpa [Value.ownBlock] using he
  have:=hk.2.2.1
  omega
end
set_option maxHeartbeats 8000000 in
set_option maxRecDepth 100000 in
open Go.Proofs.Ytbfghpbmalpdbaa.Short2 in
theorem impl_compareGEdges.drawn (k:Nat) (a0_0:Int) (a0_1:Int) (a0_2:Int) (a0_3:Int) (a1_0:Int) (a1_1:Int) (a1_2:Int) (a1_3:Int) (r:Int) (w:World) (h:impl_compareGEdges.f k a0_0 a0_1 a0_2 a0_3 a1_0 a1_1 a1_2 a1_3=some r) :
  Calls Try.prog 33 #[.agg #[.int .i64 a0_0,.int .i64 a0_1,.int .i64 a0_2,.int .i64 a0_3],.agg #[.int .i64 a1_0,.int .i64 a1_1,.int .i64 a1_2,.int .i64 a1_3]] w fun e w'=>e=.returned (.int .i64 r)∧Below w.heap.size w w'∧w.drawn≤w'.drawn:=by
 have hu43:=Try.underlying43;have HB:=Aside0.mk (Below.refl w.heap.size w);have HD:=Aside0.mk (Nat.le_refl w.drawn);have H:((cmp_Compare_int.f a0_0 a1_0).bind fun t241=>((cmp_Compare_int.f a0_1 a1_1).bind fun t242=>((cmp_Compare_int.f a0_2 a1_2).bind fun t243=>((cmp_Or_int.f k (([t241,t242,t243]:List Int))).bind fun t247=>(some t247)))))=some r:=h;clear h;replace H:=bI H;obtain ⟨t241,A30,H⟩:=H;replace H:((cmp_Compare_int.f a0_1 a1_1).bind fun t242=>((cmp_Compare_int.f a0_2 a1_2).bind fun t243=>((cmp_Or_int.f k (([t241,t242,t243]:List Int))).bind fun t247=>(some t247))))=some r:=H;have A3:=Aside0.mk A30;clear A30;replace H:=bI H;obtain ⟨t242,A40,H⟩:=H;replace H:((cmp_Compare_int.f a0_2 a1_2).bind fun t243=>((cmp_Or_int.f k (([t241,t242,t243]:List Int))).bind fun t247=>(some t247)))=some r:=H;have A4:=Aside0.mk A40;clear A40;replace H:=bI H;obtain ⟨t243,A50,H⟩:=H;replace H:((cmp_Or_int.f k (([t241,t242,t243]:List Int))).bind fun t247=>(some t247))=some r:=H;have A5:=Aside0.mk A50;clear A50;obtain ⟨y244,hy244⟩:∃ y_:List Int,y_=(([t241,t242,t243]:List Int)):=⟨_,rfl⟩
 replace H:((cmp_Or_int.f k y244).bind fun t247=>(some t247))=some r:=by first|(rw[hy244];with_reducible exact H)|(have H2_:=(Option.bind_some _ _).symm.trans H;rw[hy244];with_reducible exact H2_)|(have H2_:=(Option.bind_some _ _).symm.trans H;with_reducible exact H2_)|with_reducible exact H|(rw[hy244];exact H)|exact H
 have Ny244:=Aside0.mk hy244;clear hy244;replace H:=bI H;obtain ⟨t247,A60,H⟩:=H;replace H:(some t247)=some r:=H;have A6:=Aside0.mk A60;clear A60;obtain rfl:=Option.some.inj H
 go_enter Try.func33,Try.ntmps33
 try go_wp2_with (first|((with_reducible refine gate_dst (N:=2) rfl ?_);refine impl_GEdge_40.box_event_d ?hg (N:=2) ?hd (cs:=#[.int .i64 a0_0,.int .i64 a0_1,.int .i64 a0_2,.int .i64 a0_3]) (t:=43) ?hr ?_;(case hd=>rfl);(case hg=>rfl);(case hr=>first|(go_simp;done)|(go_simp;rfl));intro gb239 hg w7 hbox hb hd_;replace HD:=Aside0.mk (Nat.le_trans HD.out hd_);clear hd_;have BK239:=Aside0.mk (hbox);have GW239:=xG HB hg;have GE239:=xG HB hg;replace HB:=xS HB hb;clear hb hbox hg)|((with_reducible refine gate_dst (N:=3) rfl ?_);refine impl_GEdge_40.box_event_d ?hg (N:=3) ?hd (cs:=#[.int .i64 a1_0,.int .i64 a1_1,.int .i64 a1_2,.int .i64 a1_3]) (t:=43) ?hr ?_;(case hd=>rfl);(case hg=>rfl);(case hr=>first|(go_simp;done)|(go_simp;rfl));intro gb240 hg w8 hbox hb hd_;replace HD:=Aside0.mk (Nat.le_trans HD.out hd_);clear hd_;have BK240:=Aside0.mk (hbox);have GW240:=xG HB hg;have GE240:=xG HB hg;replace HB:=xS HB hb;have NB239_240:=xN BK239 hg;have NB240_239:=xM BK239 hg;replace BK239:=xB BK239 hb;clear hb hbox hg))
 replace BK239:=Aside0.mk (blk_drew BK239.out);replace BK240:=Aside0.mk (blk_drew BK240.out);replace HB:=Aside0.mk (below_drew1 HB.out);replace HD:=Aside0.mk (impl_GEdge_40.dr_drew HD.out);refine start_ (n:=18) (S:=fun w'=>w'.cell? ⟨gb239,0,none⟩=some (.int .i64 a0_0)∧w'.cell? ⟨gb239,1,none⟩=some (.int .i64 a0_1)∧w'.cell? ⟨gb239,2,none⟩=some (.int .i64 a0_2)∧w'.cell? ⟨gb239,3,none⟩=some (.int .i64 a0_3)∧w'.cell? ⟨gb240,0,none⟩=some (.int .i64 a1_0)∧w'.cell? ⟨gb240,1,none⟩=some (.int .i64 a1_1)∧w'.cell? ⟨gb240,2,none⟩=some (.int .i64 a1_2)∧w'.cell? ⟨gb240,3,none⟩=some (.int .i64 a1_3)) (ds:=[]) bl0 (by kernel_rfl) rfl rfl ⟨b1 BK239 0,b1 BK239 1,b1 BK239 2,b1 BK239 3,b1 BK240 0,b1 BK240 1,b1 BK240 2,b1 BK240 3⟩ (fun hHeld=>?_);refine with_tabW impl_compareGEdges.tab1 impl_compareGEdges.bits1 (fun HT_ HW_=>?_);generalize w8.drew=w9 at BK239 BK240 HB HD hHeld ⊢
 refine pv_ 0 (some 5) bl1 HT_ ?_
 refine pv_ 2 (some 7) bl2 HT_ ?_
 refine pv_ 5 (some 10) bl3 HT_ ?_
 refine pv_ 7 (some 12) bl4 HT_ ?_
 refine pv_ 10 (some 15) bl5 HT_ ?_
 refine pv_ 12 (some 17) bl6 HT_ ?_
 refine tk_ 1 (some 6) bl7 HT_ HW_ hHeld ?_
 refine tk_ 3 (some 8) bl8 HT_ HW_ hHeld ?_
 refine tk_ 6 (some 11) bl9 HT_ HW_ hHeld ?_
 refine tk_ 8 (some 13) bl10 HT_ HW_ hHeld ?_
 refine tk_ 11 (some 16) bl11 HT_ HW_ hHeld ?_
 refine tk_ 13 (some 18) bl12 HT_ HW_ hHeld ?_
 refine on_ 4 (some 9) bl13 HT_ (fun K hK=>?_);refine gs_ Try.func39 #[.int .i64 a0_0,.int .i64 a1_0] ?_
 with_reducible refine (cmp_Compare_int.calls a0_0 a1_0 t241 _ A3.out).mono ?_
 rintro e w' ⟨rfl,⟨nd,rfl⟩⟩;refine ⟨_,rfl,?_⟩;refine hK.out _ _ ⟨b1 BK239 0,b1 BK239 1,b1 BK239 2,b1 BK239 3,b1 BK240 0,b1 BK240 1,b1 BK240 2,b1 BK240 3⟩ (fun hHeld=>?_);clear hK K;refine nr_ (some 9) ?_
 refine on_ 9 (some 14) bl14 HT_ (fun K hK=>?_);refine gs_ Try.func39 #[.int .i64 a0_1,.int .i64 a1_1] ?_
 with_reducible refine (cmp_Compare_int.calls a0_1 a1_1 t242 _ A4.out).mono ?_
 rintro e w' ⟨rfl,⟨nd,rfl⟩⟩;refine ⟨_,rfl,?_⟩;refine hK.out _ _ ⟨b1 BK239 0,b1 BK239 1,b1 BK239 2,b1 BK239 3,b1 BK240 0,b1 BK240 1,b1 BK240 2,b1 BK240 3⟩ (fun hHeld=>?_);clear hK K;refine nr_ (some 14) ?_
 refine on_ 14 (some 19) bl15 HT_ (fun K hK=>?_);refine gs_ Try.func39 #[.int .i64 a0_2,.int .i64 a1_2] ?_
 with_reducible refine (cmp_Compare_int.calls a0_2 a1_2 t243 _ A5.out).mono ?_
 rintro e w' ⟨rfl,⟨nd,rfl⟩⟩;refine ⟨_,rfl,?_⟩;refine hK.out _ _ ⟨b1 BK239 0,b1 BK239 1,b1 BK239 2,b1 BK239 3,b1 BK240 0,b1 BK240 1,b1 BK240 2,b1 BK240 3⟩ (fun hHeld=>?_);clear hK K;refine nr_ (some 19) ?_
 refine on_ 15 (some 20) bl16 HT_ (fun K hK=>?_)
 refine impl_GEdge_40.R_lit_step_d (Kd.int .i64) _ 3 ?hg (N:=20) ?hd (xs:=([t241,t242,t243]:List Int)) (inner:=[.int .i64 t241,.int .i64 t242,.int .i64 t243]) (ok:=fun _=>True) (okp:=fun _=>True) ?hr ?hp (fun _ hk=>hk) trivial (Below.refl _ _) (Nat.le_refl _) (by simp) ?_;(case hd=>rfl);(case hg=>rfl);(case hr=>first|(go_simp;done)|(go_simp;rfl));(case hp=>exact (Reps.one (show Kd.M (Kd.int .i64) _ _ _ t241 [.int .i64 t241] from rfl) (Reps.one (show Kd.M (Kd.int .i64) _ _ _ t242 [.int .i64 t242] from rfl) (Reps.one (show Kd.M (Kd.int .i64) _ _ _ t243 [.int .i64 t243] from rfl) (Reps.none _ _)))))
 intro v245 w10 ho11 hb hg_ hnew_ hd_;clear hg_ hnew_;replace HD:=Aside0.mk (Nat.le_trans (by repeat (first|(with_reducible first|exact HD.out|apply impl_GEdge_40.dr_drewN|apply impl_GEdge_40.dr_drew)|exact HD.out)) hd_);clear hd_
 (first|rw[← Ny244.out]at ho11|(simp only[Int.reduceToNat]at ho11;rw[← Ny244.out]at ho11))
 have HO246:=rW0 ho11 HB;replace BK239:=xB BK239 hb;replace BK240:=xB BK240 hb;replace HB:=xS HB hb;clear hb ho11;obtain ⟨Ao12,co12,eo12⟩:=Kd.R_slice HO246.out
 (first|subst eo12|(injection eo12 with f1_ f2_ f3_;have f4_:=f1_.symm;have f5_:=f3_.symm;clear f1_ f2_ f3_;subst f4_;subst f5_))
 refine hK.out _ _ ⟨b1 BK239 0,b1 BK239 1,b1 BK239 2,b1 BK239 3,b1 BK240 0,b1 BK240 1,b1 BK240 2,b1 BK240 3⟩ (fun hHeld=>?_);clear hK K;refine nr_ (some 20) ?_
 refine on_ 16 (some 21) bl17 HT_ (fun K hK=>?_);refine gs_ Try.func38 #[.slice Ao12 y244.length co12] ?_
 with_reducible refine (cmp_Or_int.calls k _ _ y244 t247 _ ?side1 ?side2 A6.out).mono ?_
 (case side1=>exact sC HO246)
 (case side2=>exact sL HO246)
 rintro e w' ⟨rfl,⟨nd,rfl⟩⟩;refine ⟨_,rfl,?_⟩;refine hK.out _ _ ⟨b1 BK239 0,b1 BK239 1,b1 BK239 2,b1 BK239 3,b1 BK240 0,b1 BK240 1,b1 BK240 2,b1 BK240 3⟩ (fun hHeld=>?_);clear hK K;refine nr_ (some 21) ?_
 refine pv_ 17 (some 4) bl18 HT_ ?_
 refine done_ (done_of HT_.out (by kernel_rfl)) ?_
 try go_wp2
 go_ret;exact ⟨vw,⟨by repeat (first|(with_reducible first|exact HB.out|apply below_alloc|apply pw_below_drewN|apply below_drew1|refine below_set ?_ GE239.out|refine below_set ?_ GE240.out)|exact HB.out),(by repeat (first|(with_reducible first|exact HD.out|apply impl_GEdge_40.dr_drewN|apply impl_GEdge_40.dr_drew)|exact HD.out))⟩⟩
instance:Inhabited S43:=⟨z43⟩
def impl_GEdge_40.enc (x:S43):List Value:=[.int .i64 x.f0,.int .i64 x.f1,.int .i64 x.f2,.int .i64 x.f3]
def impl_GEdge_40.cf (x y:S43):Int:=if x.f0<y.f0 then -1 else if y.f0<x.f0 then 1 else if x.f1<y.f1 then -1 else if y.f1<x.f1 then 1 else if x.f2<y.f2 then -1 else if y.f2<x.f2 then 1 else 0
def impl_GEdge_40.lt (x y:S43):Bool:=decide (x.f0<y.f0∨(x.f0=y.f0∧(x.f1<y.f1∨(x.f1=y.f1∧x.f2<y.f2))))
theorem impl_GEdge_40.lt_eq:Go.Proofs.ltOf impl_GEdge_40.cf=impl_GEdge_40.lt:=by
  funext x y
  unfold Go.Proofs.ltOf impl_GEdge_40.cf impl_GEdge_40.lt
  rw[decide_eq_decide]
  split
  · omega
  split
  · omega
  split
  · omega
  split
  · omega
  split
  · omega
  split <;> omega
theorem impl_GEdge_40.swo:Sort.SWO (Go.Proofs.ltOf impl_GEdge_40.cf):=by
  rw[impl_GEdge_40.lt_eq]
  refine ⟨fun x=>?_,fun x y z h1 h2=>?_,fun x y z h1 h2=>?_⟩
  · unfold impl_GEdge_40.lt;rw[decide_eq_false_iff_not];omega
  · unfold impl_GEdge_40.lt at *;rw[decide_eq_true_iff]at *;omega
  unfold impl_GEdge_40.lt at *;rw[decide_eq_false_iff_not]at *;omega
theorem impl_GEdge_40.flat_at (d:Array S43) (j i:Nat) (hj:j<d.size) (hi:i<4):(Sort.flatK impl_GEdge_40.enc 4 d)[j * 4+i]! = (impl_GEdge_40.enc d[j]!)[i]!:=by
  rw[Sort.get_flatK _ _ _ _ (by omega),show (j * 4+i) / 4=j by omega,show (j * 4+i) % 4=i by omega]
theorem impl_GEdge_40.enc_at (x:S43) (i:Nat) (hi:i<4):(impl_GEdge_40.enc x)[i]?=some (impl_GEdge_40.enc x)[i]!:=by
  have hl:(impl_GEdge_40.enc x).length=4:=rfl
  rw[getElem!_pos _ i (by omega),List.getElem?_eq_getElem]
theorem impl_GEdge_40.row {P0_:Nat→Prop} {l0:List S43} {w0 w:World} {g cap:Nat} (hB:Below w0.heap.size w0 w) (ho0:Kd.R k43 43 w w0.heap.size P0_ (.slice (some ⟨g,0,none⟩) l0.length cap) l0) :
    Sort.HoldsK impl_GEdge_40.enc 4 w g 0 l0.toArray∧g<w.heap.size∧∀ (d':Array S43) (n:Nat) (os:Array Obj),d'.size=l0.length→
      Kd.R k43 43 (Go.Proofs.sortWorldK impl_GEdge_40.enc 4 w g 0 n d' os) w0.heap.size (fun k_=>(P0_ k_∨w.heap.size≤k_)) (.slice (some ⟨g,0,none⟩) l0.length cap) d'.toList∧Below w0.heap.size w0 (Go.Proofs.sortWorldK impl_GEdge_40.enc 4 w g 0 n d' os)∧Kept w (Go.Proofs.sortWorldK impl_GEdge_40.enc 4 w g 0 n d' os) (fun k_=>P0_ k_):=by
  obtain ⟨hok,inner,⟨hin,hv⟩,hrl,hr⟩:=ho0
  rcases hv with ⟨hv,_⟩|⟨g',cap',cur,hv,hb,hh,hnc,hcm,hcs,ht⟩
  · cases hv
  injection hv with ha _ hc
  injection ha with ha
  injection ha with hg
  subst hg;subst hc
  have hlt:g<w.heap.size:=(Array.getElem?_eq_some_iff.1 hh).1
  have hsz:k43.sz=4:=rfl
  rw[hsz]at hrl hr hcs ht hin
  have hcell:∀ j i:Nat,j<l0.length→i<4→cur[j * 4+i]?=some (impl_GEdge_40.enc (l0.toArray[j]!))[i]!:=by
    intro j i hj hi
    have hm:=k43_openM (hr j _ (List.getElem?_eq_getElem hj))
    have e1:((inner.drop (j * 4)).take 4)[i]?=cur[j * 4+i]?:=by
      rw[List.getElem?_take_of_lt hi,List.getElem?_drop,← ht,List.getElem?_take_of_lt (by omega),Array.getElem?_toList]
    rw[← e1,hm,show l0.toArray[j]! = l0[j] by rw[getElem!_pos _ _ (by simpa using hj)];simp]
    exact impl_GEdge_40.enc_at _ i hi
  refine ⟨fun t htl=>?_,hlt,fun d' n os hd'=>?_⟩
  · rw[Sort.size_flatK,List.size_toArray]at htl
    have hj:t / 4<l0.length:=by omega
    have e:=hcell (t / 4) (t % 4) hj (by omega)
    rw[show t / 4 * 4+t % 4=t by omega]at e
    refine ⟨?_,?_⟩
    · have e2:=impl_GEdge_40.flat_at l0.toArray (t / 4) (t % 4) (by simpa using hj) (by omega)
      rw[show t / 4 * 4+t % 4=t by omega]at e2
      rw[e2,Nat.zero_add]
      simp only[World.cell?,hh]
      simpa using e
    simp[World.frozen?,hh]
  have hb2:(Go.Proofs.sortWorldK impl_GEdge_40.enc 4 w g 0 n d' os).heap[g]?=some (.cells (Sort.putCells id 0 (Sort.flatK impl_GEdge_40.enc 4 d') cur) 43 (0,0)):=by
    show ((w.heap.modify g (Sort.onCells (Sort.putCells id 0 (Sort.flatK impl_GEdge_40.enc 4 d')))) ++ os)[g]?=_
    rw[Array.getElem?_append_left (by simpa using hlt),Array.getElem?_modify,if_pos rfl,hh]
    rfl
  have hother:∀ k,k<w.heap.size→k≠g→(Go.Proofs.sortWorldK impl_GEdge_40.enc 4 w g 0 n d' os).heap[k]?=w.heap[k]?:=by
    intro k hk hne
    show ((w.heap.modify g (Sort.onCells (Sort.putCells id 0 (Sort.flatK impl_GEdge_40.enc 4 d')))) ++ os)[k]?=_
    rw[Array.getElem?_append_left (by simpa using hk),Array.getElem?_modify,if_neg (Ne.symm hne)]
  have hsize:w.heap.size≤(Go.Proofs.sortWorldK impl_GEdge_40.enc 4 w g 0 n d' os).heap.size:=by
    show _≤((w.heap.modify g (Sort.onCells (Sort.putCells id 0 (Sort.flatK impl_GEdge_40.enc 4 d')))) ++ os).size
    rw[Array.size_append,Array.size_modify];omega
  have hcs2:(Sort.putCells id 0 (Sort.flatK impl_GEdge_40.enc 4 d') cur).size=cap * 4:=by unfold Sort.putCells;rw[Array.size_mapIdx,hcs]
  have hnew:∀ j i:Nat,j<l0.length→i<4→(Sort.putCells id 0 (Sort.flatK impl_GEdge_40.enc 4 d') cur)[j * 4+i]?=some (impl_GEdge_40.enc (d'[j]!))[i]!:=by
    intro j i hj hi
    have hlt2:j * 4+i<cur.size:=by rw[hcs];omega
    unfold Sort.putCells
    rw[Array.getElem?_mapIdx,Array.getElem?_eq_getElem hlt2,Option.map_some,if_pos (by rw[Sort.size_flatK];omega),Nat.sub_zero,impl_GEdge_40.flat_at d' j i (by omega) hi];rfl
  have hdl:d'.toList.length=l0.length:=by simpa using hd'
  have hcl:(Sort.putCells id 0 (Sort.flatK impl_GEdge_40.enc 4 d') cur).toList.length=cap * 4:=by rw[Array.length_toList (xs:=Sort.putCells id 0 (Sort.flatK impl_GEdge_40.enc 4 d') cur)];exact hcs2
  refine ⟨⟨fun k hk=>.inl (hok k hk),(Sort.putCells id 0 (Sort.flatK impl_GEdge_40.enc 4 d') cur).toList.take (l0.length * 4),⟨?_,.inr ⟨g,cap,_,by rw[hdl],hb,hb2,?_,hcm,hcs2,?_⟩⟩,?_,fun j p hj=>?_⟩,?_,?_⟩
  · rw[List.length_take,hcl,hdl,hsz];omega
  · rw[hdl];exact hnc
  · rw[hdl,hsz]
  · rw[List.length_take,hcl,hdl,hsz];omega
  · obtain ⟨hjl,hjp⟩:=List.getElem?_eq_some_iff.1 hj
    rw[hdl]at hjl
    have e:((((Sort.putCells id 0 (Sort.flatK impl_GEdge_40.enc 4 d') cur).toList.take (l0.length * 4)).drop (j * 4)).take 4)=impl_GEdge_40.enc p:=by
      apply List.ext_getElem?
      intro i
      by_cases hi:i<4
      · rw[List.getElem?_take_of_lt hi,List.getElem?_drop,List.getElem?_take_of_lt (by omega),Array.getElem?_toList,hnew j i hjl hi,← impl_GEdge_40.enc_at _ i hi,show d'[j]! = p by rw[getElem!_pos _ _ (by omega)];simpa using hjp]
      rw[List.getElem?_eq_none (by rw[List.length_take];omega),List.getElem?_eq_none (by show 4≤i;omega)]
    rw[hsz,e]
    exact k43_mkM _ _ _ p
  · exact hB.trans ⟨rfl,rfl,rfl,hsize,fun k hk=>hother k (by have:=hB.size;omega) (by omega)⟩
  exact ⟨hsize,fun i hi hn=>hother i hi (fun e=>hn (by rw[e];exact hok g rfl))⟩
theorem impl_GEdge_40.grown {w w':World} (hb:Below w.heap.size w w') (hd:w.drawn≤w'.drawn):∃ q os',w'=Sort.grow (w.drewN q) os':=by
  refine ⟨w'.drawn - w.drawn,w'.heap.extract w.heap.size w'.heap.size,?_⟩
  obtain ⟨heap,tape,drawn,os,output⟩:=w
  obtain ⟨heap',tape',drawn',os',output'⟩:=w'
  obtain ⟨h1,h2,h3,h4,h5⟩:=hb
  simp only at h1 h2 h3 h4 h5 hd
  subst h1;subst h2;subst h3
  have e:heap'=heap ++ heap'.extract heap.size heap'.size:=by
    apply Array.ext_getElem?
    intro i
    by_cases hi:i<heap.size
    · rw[Array.getElem?_append_left hi,h5 i hi]
    rw[Array.getElem?_append_right (by omega),Array.getElem?_extract]
    by_cases h2:i<heap'.size
    · rw[if_pos (by omega),show heap.size+(i - heap.size)=i by omega]
    rw[if_neg (by omega),Array.getElem?_eq_none (by omega)]
  unfold Sort.grow World.drewN
  simp only[World.mk.injEq,true_and,and_true]
  exact ⟨e,by omega⟩
theorem impl_GEdge_40.or3 (a b c:Int):cmp_Or_int.f 10 [a,b,c]=some (if a=0 then (if b=0 then c else b) else a):=by
  unfold cmp_Or_int.f
  have e0:rd [a,b,c] 0=a:=rfl
  have e1:rd [a,b,c] 1=b:=rfl
  have e2:rd [a,b,c] 2=c:=rfl
  have w0:wrap64 (0+1)=1:=by unfold wrap64;omega
  have w1:wrap64 (1+1)=2:=by unfold wrap64;omega
  have w2:wrap64 (2+1)=3:=by unfold wrap64;omega
  have l3:(([a,b,c].length:Nat):Int)=3:=rfl
  rw[l3]
  simp only[cmp_Or_int.l0,e0,e1,e2,w0,w1,w2,l3]
  by_cases ha:a=0
  · by_cases hb:b=0
    · by_cases hc:c=0
      · simp[ha,hb,hc]
      simp[ha,hb,hc]
    simp[ha,hb]
  simp[ha]
theorem impl_GEdge_40.cmpf (x y:S43):impl_compareGEdges.f 10 x.f0 x.f1 x.f2 x.f3 y.f0 y.f1 y.f2 y.f3=some (impl_GEdge_40.cf x y):=by
  have hn:∀ a:Int,cmp_isNaN_int.f a=some false:=fun a=>by unfold cmp_isNaN_int.f;simp
  have hc:∀ a b:Int,cmp_Compare_int.f a b=some (if a<b then -1 else if b<a then 1 else 0):=fun a b=>by
    unfold cmp_Compare_int.f
    rw[hn,hn,Option.bind_some,Option.bind_some,if_neg (by simp),if_neg (by simp)]
    by_cases h1:a<b
    · rw[if_pos h1,if_pos h1]
    rw[if_neg h1,if_neg h1]
    by_cases h2:b<a
    · rw[if_pos h2,if_pos h2]
    rw[if_neg h2,if_neg h2]
  unfold impl_compareGEdges.f impl_GEdge_40.cf
  rw[hc,hc,hc,Option.bind_some,Option.bind_some,Option.bind_some,impl_GEdge_40.or3,Option.bind_some]
  congr 1
  by_cases h1:x.f0<y.f0
  · rw[if_pos h1,if_pos h1];rfl
  rw[if_neg h1,if_neg h1]
  by_cases h2:y.f0<x.f0
  · rw[if_pos h2,if_pos h2];rfl
  rw[if_neg h2,if_neg h2,if_pos rfl]
  by_cases h3:x.f1<y.f1
  · rw[if_pos h3,if_pos h3];rfl
  rw[if_neg h3,if_neg h3]
  by_cases h4:y.f1<x.f1
  · rw[if_pos h4,if_pos h4];rfl
  rw[if_neg h4,if_neg h4,if_pos rfl]
theorem impl_GEdge_40.lays_cmp (blk off size:Nat) (w:World):Go.Proofs.CmpLays Try.prog 33 #[] impl_GEdge_40.enc 4 impl_GEdge_40.cf blk off size w:=
  fun _ _ _ _ x y=>(impl_compareGEdges.drawn 10 x.f0 x.f1 x.f2 x.f3 y.f0 y.f1 y.f2 y.f3 _ _ (impl_GEdge_40.cmpf x y)).mono fun _ _ ⟨he,hb,hd⟩=>⟨he,impl_GEdge_40.grown hb hd⟩
def impl_GEdge_40.f (l0:List S43):Option (List S43):=if l0.length<1048576 then some (Sort.pdq (Go.Proofs.ltOf impl_GEdge_40.cf) l0.toArray 0 l0.toArray.size (Lib.bitLen l0.toArray.size) true true).toList else none
theorem impl_GEdge_40.calls (P0_:Nat→Prop) (u9000_:Value) (l0:List S43) (r1:List S43) (w0 w:World) (hB:Below w0.heap.size w0 w) (ho0:Kd.R k43 43 w w0.heap.size P0_ u9000_ l0) (h:impl_GEdge_40.f l0=some r1) :
    Calls Try.prog 40 #[u9000_,.func (.func 33) #[] #[]] w fun e w'=>e=.returned (.tuple #[])∧Kd.R k43 43 w' w0.heap.size (fun k_=>(P0_ k_∨w.heap.size≤k_)) u9000_ r1∧Below w0.heap.size w0 w'∧Kept w w' (fun k_=>P0_ k_):=by
  unfold impl_GEdge_40.f at h
  by_cases hl:l0.length<1048576
  · rw[if_pos hl]at h
    obtain rfl:=Option.some.inj h
    clear h
    have hsort:=Sort.pdq_sorts (Go.Proofs.ltOf impl_GEdge_40.cf) impl_GEdge_40.swo l0.toArray 0 l0.toArray.size (Lib.bitLen l0.toArray.size) true true (Nat.zero_le _) (Nat.le_refl _) (Or.inl rfl)
    have hsz:(Sort.pdq (Go.Proofs.ltOf impl_GEdge_40.cf) l0.toArray 0 l0.toArray.size (Lib.bitLen l0.toArray.size) true true).size=l0.length:=by simpa using hsort.1.1
    rcases Nat.eq_zero_or_pos l0.length with h0|hp
    · obtain ⟨A,c,rfl⟩:=Kd.R_slice ho0
      obtain rfl:=List.eq_nil_of_length_eq_zero h0
      have e0:(Sort.pdq (Go.Proofs.ltOf impl_GEdge_40.cf) ([]:List S43).toArray 0 ([]:List S43).toArray.size (Lib.bitLen ([]:List S43).toArray.size) true true).toList=[]:=List.eq_nil_of_length_eq_zero (by rw[Array.length_toList];exact hsz)
      rw[e0]
      have hcon:=Go.Proofs.AnyF.slices_SortFunc_none { impl_GEdge_40.lays with } A c (.func (.func 33) #[] #[]) w
      change Calls Try.prog 40 _ _ _ at hcon
      refine hcon.mono ?_
      rintro e w' ⟨rfl,rfl⟩
      exact ⟨rfl,Kd.R_mono ho0 (fun _ hk=>.inl hk),hB,Kept.refl _ _⟩
    obtain ⟨g,cap,rfl,_,_,_⟩:=Kd.R_form ho0 hp
    obtain ⟨hH,hlt,hrow⟩:=impl_GEdge_40.row hB ho0
    have eg:∀ args w,(callFunc 33 args).run Try.prog w=.ok (.enter 33 args) w:=Go.Proofs.enters_of Try.func33 (by kernel_rfl) rfl
    have hcon:=Go.Proofs.AnyQ.slices_SortFunc_eq impl_GEdge_40.lays 4 Try.isAgg43 Try.sizeOf43 impl_GEdge_40.enc (fun _=>rfl) (fun x v hv=>by simp[impl_GEdge_40.enc]at hv;rcases hv with rfl|rfl|rfl|rfl <;> rfl) impl_GEdge_40.cf impl_GEdge_40.swo 33 #[] g 0 cap l0.toArray w eg (impl_GEdge_40.lays_cmp g 0 _ w) hH hlt (by rw[List.size_toArray];omega)
    change Calls Try.prog 40 _ _ _ at hcon
    rw[List.size_toArray]at hcon
    refine hcon.mono ?_
    rintro e w' ⟨rfl,n,os,rfl⟩
    have:=hrow _ n os hsz
    rw[List.size_toArray]at this ⊢
    exact ⟨rfl,this⟩
  rw[if_neg hl]at h
  cases h
def me.fill:List S49→Nat→(Int→Int→Int)→Int→Int→Int
  | [],_,f=>f
  | p :: r,i,f=>me.fill r (i+1) (fun x y=>if x=p.f0∧y=p.f1 then (i:Int) else f x y)
def me.one (a:Int) (pl:Int→Int→Int) (i:Nat) (p:S49) (e f:S43) (O:List S43):List S43:=
  if e.f0=p.f0∧f.f0=p.f1∧e.f1=f.f1∧O.length≤2000 then O ++ [⟨(i:Int),e.f1,pl e.f2 f.f2,Go.bits .or .i64 e.f3 (wrap64 (f.f3 * 2 ^ a.toNat))⟩] else O
def me.row (a:Int) (pl:Int→Int→Int) (l1:List S43) (i:Nat) (p:S49) (O:List S43) (e:S43):List S43:=l1.foldl (fun O f=>me.one a pl i p e f O) O
def me.step (a:Int) (pl:Int→Int→Int) (l0 l1:List S43) (i:Nat) (p:S49) (O:List S43):List S43:=l0.foldl (me.row a pl l1 i p) O
def me.go (a:Int) (pl:Int→Int→Int) (l0 l1:List S43):List S49→Nat→List S43→List S43
  | [],_,O=>O
  | p :: r,i,O=>me.go a pl l0 l1 r (i+1) (me.step a pl l0 l1 i p O)
theorem me.put {w w1:World} {b n i:Nat} {f:Int→Int→Int} {D:DataW Unit} {x y:Int} (hx:mp.ok x) (hy:mp.ok y) (hm:w.ownsMap Try.prog 49 (plainElem Try.prog 3) b n D) (hat:∀ x y,mp.ok x→mp.ok y→D.atKey (mp.kl x y) (.lit (.int .i64 0))=.lit (.int .i64 (f x y)))
    (h:w1.ownsMap Try.prog 49 (plainElem Try.prog 3) b (n+1) (D.put (mp.kl x y) (.lit (.int .i64 i)))):mp w1 b (n+1) (fun a b=>if a=x∧b=y then (i:Int) else f a b):=by
  refine ⟨_,h,fun a b ha hb=>?_⟩
  by_cases he:a=x∧b=y
  · obtain ⟨rfl,rfl⟩:=he
    rw[Go.Maps.atKey_put_same hm.isMap (mp.law.key (mp.key ha hb))]
    dsimp only
    rw[if_pos ⟨rfl,rfl⟩]
  rw[Go.Maps.atKey_put_other (fun e=>he (mp.inj ha hb hx hy e)),hat a b ha hb]
  dsimp only
  rw[if_neg he]
theorem me.drop49 (l:List S49) (i:Nat) (h:i<l.length):l.drop i=rd_T49 l i :: l.drop (i+1):=by
  rw[List.drop_eq_getElem_cons h]
  unfold rd_T49
  simp[h]
theorem me.mem49 (l:List S49) (i:Nat) (h:i<l.length):rd_T49 l i∈l:=by
  unfold rd_T49
  simp[h]
theorem mp.below {w w':World} {b n:Nat} {f:Int→Int→Int} (h:mp w b n f) (hb:Below w.heap.size w w'):mp w' b n f:=by
  obtain ⟨es,c,hc⟩:=h.isb
  exact h.same (hb.block b (blk_lt hc))
theorem me.newR {w w1:World} {base g:Nat} {v:Value} {O:List S43} (h:Kd.R k43 43 w base (fun _=>True) v O) (hb:Below w.heap.size w w1) (hg:w.heap.size≤g):Kd.R k43 43 w1 base (fun k=>True∧k≠g) v O:=
  Kd.R_below (Kd.R_mono (Kd.R_bound h) (fun k hk=>⟨trivial,by have:=hk.2.2.1;omega⟩)) hb
def impl_metEdges.f (a0_0 a0_1 a0_2 a0_3:Int) (l0_4:List S43) (a1_0 a1_1 a1_2 a1_3:Int) (l1_4:List S43) (l2:List S49):Option (List S43):=
  if (∀ p∈l2,mp.ok p.f0∧mp.ok p.f1)∧(∀ e∈l0_4,mp.ok e.f2)∧(∀ e∈l1_4,mp.ok e.f2)∧0≤a0_3∧a0_3≤60 then impl_GEdge_40.f (me.go a0_3 (me.fill l2 0 (fun _ _=>0)) l0_4 l1_4 l2 0 []) else none
set_option maxHeartbeats 8000000 in
set_option maxRecDepth 100000 in
theorem impl_metEdges.calls (a0_0 a0_1 a0_2 a0_3:Int) (A0_4:Option Addr) (c0_4:Nat) (l0_4:List S43) (a1_0 a1_1 a1_2 a1_3:Int) (A1_4:Option Addr) (c1_4:Nat) (l1_4:List S43) (A2:Option Addr) (c2:Nat) (l2:List S49) (r:List S43) (w:World)
    (hr0_4:Kd.C k43 w A0_4 l0_4.length l0_4) (hc0_4:l0_4.length≤c0_4) (hr1_4:Kd.C k43 w A1_4 l1_4.length l1_4) (hc1_4:l1_4.length≤c1_4) (hr2:Kd.C k49 w A2 l2.length l2) (hc2:l2.length≤c2) (h:impl_metEdges.f a0_0 a0_1 a0_2 a0_3 l0_4 a1_0 a1_1 a1_2 a1_3 l1_4 l2=some r) :
    Calls Try.prog 22 #[.agg #[.int .i64 a0_0,.int .i64 a0_1,.int .i64 a0_2,.int .i64 a0_3,.slice A0_4 l0_4.length c0_4],.agg #[.int .i64 a1_0,.int .i64 a1_1,.int .i64 a1_2,.int .i64 a1_3,.slice A1_4 l1_4.length c1_4],.slice A2 l2.length c2] w fun e w'=>
      ∃ v0_:Value,e=.returned v0_∧Kd.R k43 43 w' w.heap.size (fun _=>True) v0_ r∧Below w.heap.size w w':=by
  have HR0:=Aside0.mk hr0_4
  have HR1:=Aside0.mk hr1_4
  have HR2:=Aside0.mk hr2
  clear hr0_4 hr1_4 hr2
  unfold impl_metEdges.f at h
  by_cases hg:(∀ p∈l2,mp.ok p.f0∧mp.ok p.f1)∧(∀ e∈l0_4,mp.ok e.f2)∧(∀ e∈l1_4,mp.ok e.f2)∧0≤a0_3∧a0_3≤60
  case neg=>rw[if_neg hg]at h;cases h
  rw[if_pos hg]at h
  obtain ⟨ok2,ok0,ok1,an,ao⟩:=hg
  have HEND:=Aside0.mk h
  clear h
  obtain ⟨PL,hPL⟩:∃ PL,PL=me.fill l2 0 (fun _ _=>0):=⟨_,rfl⟩
  rw[← hPL]at HEND
  obtain ⟨OF,hOF⟩:∃ OF,OF=me.go a0_3 PL l0_4 l1_4 l2 0 []:=⟨_,rfl⟩
  rw[← hOF]at HEND
  replace hPL:=Aside0.mk hPL
  replace hOF:=Aside0.mk hOF
  have HB:=Aside0.mk (Below.refl w.heap.size w)
  have hmm:=@run_makeMap Try.prog
  go_enter Try.func22,Try.ntmps22
  go_wp2_with (first
    | ((with_reducible refine gate_dst (N:=3) rfl ?_);refine bx_ 3 #[.int .i64 a0_0,.int .i64 a0_1,.int .i64 a0_2,.int .i64 a0_3,.slice A0_4 l0_4.length c0_4] 28 ?_;intro gA hg_ w1 hbk hb1;have BA:=Aside0.mk hbk;replace HB:=Aside0.mk hb1;clear hg_ hbk hb1)
    | ((with_reducible refine gate_dst (N:=4) rfl ?_);refine bx_ 4 #[.int .i64 a1_0,.int .i64 a1_1,.int .i64 a1_2,.int .i64 a1_3,.slice A1_4 l1_4.length c1_4] 28 ?_;intro gB hg_ w2 hbk hb1;have BB:=Aside0.mk hbk;replace BA:=Aside0.mk (blk_below BA.out hb1);replace HB:=Aside0.mk (below_then HB.out HB.out.size hb1);clear hg_ hbk hb1)
    | ((with_reducible refine gate_dst (N:=18) rfl ?_);refine mt.map_event ?hg ?hr ?_;(case hg=>rfl);(case hr=>first|(go_simp;done)|(go_simp;rfl));intro gM hgM w4 hmap hb1 hlt;have MM:=Aside0.mk hmap;have GM:=Aside0.mk (hgM ▸ HB.out.size);replace BA:=Aside0.mk (blk_below BA.out hb1);replace BB:=Aside0.mk (blk_below BB.out hb1);replace HB:=Aside0.mk (below_then HB.out HB.out.size hb1);clear hgM hmap hb1 hlt)
    | fail)
  go_loopg [21] l2.length (fun kq ah w'=>∃ (i:Nat) (f:Int→Int→Int),ah=.int .i64 (i:Int)∧Aside0 (i≤l2.length∧l2.length - i≤kq)∧Aside0 (me.fill (l2.drop i) i f=PL)∧Aside0 (mp w' gM i f)∧Aside0 (Below w.heap.size w w')∧
    Aside0 (w'.heap[gA]?=some (.cells #[.int .i64 a0_0,.int .i64 a0_1,.int .i64 a0_2,.int .i64 a0_3,.slice A0_4 l0_4.length c0_4] 28 (0,0)))∧Aside0 (w'.heap[gB]?=some (.cells #[.int .i64 a1_0,.int .i64 a1_1,.int .i64 a1_2,.int .i64 a1_3,.slice A1_4 l1_4.length c1_4] 28 (0,0))))
  case atStart=>exact ⟨0,_,rfl,⟨Nat.zero_le _,Nat.le_refl _⟩,⟨hPL.out.symm⟩,MM,HB,BA,BB⟩
  case round=>
    clear MM HB BA BB
    obtain ⟨i,f,rfl,HI,HF,MM,HB,BA,BB⟩:=hrel
    by_cases hi:i<l2.length
    · have q1:(i:Int)<(l2.length:Int):=by omega
      obtain ⟨ad,ead,hx0,hx1⟩:=at_T49 HR2.out (i:Int) (by omega) q1
      subst ead
      rw[Int.toNat_natCast]at hx0 hx1
      replace hx0:=ct_ HB hx0
      replace hx1:=ct_ HB hx1
      have hdr:l2.drop i=rd_T49 l2 i :: l2.drop (i+1):=me.drop49 l2 i hi
      obtain ⟨hX0,hX1⟩:=ok2 _ (me.mem49 l2 i hi)
      generalize rd_T49 l2 (i:Int)=X at *
      obtain ⟨D,hD,hat⟩:=MM.out
      have hil:(i:Int)<9223372036854775807:=by have:=Kd.C_max HR2.out;omega
      have HD:=Aside0.mk hD
      clear hD
      have HK:=Aside0.mk (mp.key hX0 hX1)
      go_wp2_with (first
        | ((with_reducible refine gate_dst (N:=9) rfl ?_);refine bx_ 9 #[.int .i64 0,.int .i64 0] 49 ?_;intro gP hg_ w5 hbk hb1;have GX:=Aside0.mk hg_;have BX:=Aside0.mk hbk;have HX:=Aside0.mk hb1;have hz0:w5.cell? ⟨gP,0,none⟩=some (.int .i64 0):=blk_cell hbk 0;have ab:=blk_frozen hbk 0;have hz1:w5.cell? ⟨gP,1,none⟩=some (.int .i64 0):=blk_cell hbk 1;have ac:=blk_frozen hbk 1;clear hg_ hbk hb1)
        | ((with_reducible refine gate_store (t:=49) (p:=9) rfl ?_);refine store_event (t:=49) (p:=9) (v:=?vo1) (w1:=((w5.setCell ⟨gP,0,none⟩ (.int .i64 X.f0)).setCell ⟨gP,1,none⟩ (.int .i64 X.f1))) ?hg ?ho ?hn ?hr ?_;(case ho=>rfl);(case hg=>rfl);(case hn=>rfl);(case hr=>first|(go_simp;done)|(go_simp;rfl));intro w6 hw;obtain ⟨hb_,hbk_⟩:=mt.put2 (x:=.int .i64 X.f0) (y:=.int .i64 X.f1) HX.out (Nat.le_of_eq GX.out.symm) BX.out;rw[← hw]at hb_ hbk_;replace HD:=Aside0.mk (HD.out.kept (grown_of_below hb_ none) (by simp));replace HB:=Aside0.mk (below_then HB.out HB.out.size hb_);replace BA:=Aside0.mk (blk_below BA.out hb_);replace BB:=Aside0.mk (blk_below BB.out hb_);have BP:=Aside0.mk hbk_;clear hb_ hbk_ hw HX GX BX hz0 ab hz1 ac hx0 hx1;have hc0:w6.cell? ⟨gP,0,none⟩=some (.int .i64 X.f0):=blk_cell BP.out 0;have hc1:w6.cell? ⟨gP,1,none⟩=some (.int .i64 X.f1):=blk_cell BP.out 1)
        | (at_mapUpdate;refine wpList_mapUpdate_own _ rfl _ _ _ 59 rfl 49 3 mp.law Try.underlying59 (plainElem Try.prog 3) gM i D rfl HD.out (by unfold maxLen;omega) _ _ _ rfl rfl HK.out _ [] (plainElem_int Try.underlying3 (mp.wf (by unfold mp.ok;omega))) ?_;intro w7 hown hgrow;have MM2:=Aside0.mk (me.put hX0 hX1 HD.out hat hown);have nA:=Aside0.mk (blk_grown BA.out hgrow (fun e_=>by injection e_ with e_;exact mt.not_map BA.out (e_ ▸ HD.out)));have nB:=Aside0.mk (blk_grown BB.out hgrow (fun e_=>by injection e_ with e_;exact mt.not_map BB.out (e_ ▸ HD.out)));replace HB:=Aside0.mk (pw_below_grown HB.out (some gM) HB.out.size hgrow (fun k hk=>by injection hk with hk;have:=GM.out;omega));clear BA BB;have BA:=nA;have BB:=nB;clear nA nB HD hown hgrow hc0 hc1 BP)
        | fail)
      go_roundg (gk - 1)
      case measure=>have:=HI.out;omega
      case rel=>
        refine ⟨i+1,_,by first|(rw[mt.nx hi (Kd.C_max HR2.out)];done)|rfl,⟨by have:=HI.out;omega⟩,⟨?_⟩,MM2,HB,BA,BB⟩
        have e:=HF.out
        rw[hdr]at e
        exact e
    have ei:i=l2.length:=by have:=HI.out;omega
    subst ei
    have eL:f=PL:=by
      have e:=HF.out
      rw[List.drop_length]at e
      exact e
    subst eL
    clear HI HF
    go_wp2
    have MM':Aside0 (mp wr gM l2.length f):=MM
    clear MM
    go_loopg [10,32] l2.length (fun kq ag ai w'=>∃ (i:Nat) (O:List S43),ai=.int .i64 (i:Int)∧Aside0 (i≤l2.length∧l2.length - i≤kq)∧Aside0 (me.go a0_3 f l0_4 l1_4 (l2.drop i) i O=OF)∧Aside0 (O.length≤2001)∧Aside0 (Kd.R k43 43 w' w.heap.size (fun _=>True) ag O)∧Aside0 (mp w' gM l2.length f)∧Aside0 (Below w.heap.size w w')∧
      Aside0 (w'.heap[gA]?=some (.cells #[.int .i64 a0_0,.int .i64 a0_1,.int .i64 a0_2,.int .i64 a0_3,.slice A0_4 l0_4.length c0_4] 28 (0,0)))∧Aside0 (w'.heap[gB]?=some (.cells #[.int .i64 a1_0,.int .i64 a1_1,.int .i64 a1_2,.int .i64 a1_3,.slice A1_4 l1_4.length c1_4] 28 (0,0))))
    case atStart=>exact ⟨0,[],rfl,⟨Nat.zero_le _,Nat.le_refl _⟩,⟨hOF.out.symm⟩,⟨by simp⟩,⟨Kd.R_nil _ _ _ _ _⟩,MM',HB,BA,BB⟩
    case round=>
      clear MM' HB BA BB
      obtain ⟨i,O,rfl,HI,HF,HO,RO,MM,HB,BA,BB⟩:=hrel
      obtain ⟨AO,cO,eO⟩:=Kd.R_slice RO.out
      subst eO
      by_cases hi:i<l2.length
      · have q1:(i:Int)<(l2.length:Int):=by omega
        obtain ⟨ad,ead,hx0,hx1⟩:=at_T49 HR2.out (i:Int) (by omega) q1
        subst ead
        rw[Int.toNat_natCast]at hx0 hx1
        replace hx0:=ct_ HB hx0
        replace hx1:=ct_ HB hx1
        have hdr:l2.drop i=rd_T49 l2 i :: l2.drop (i+1):=me.drop49 l2 i hi
        generalize rd_T49 l2 (i:Int)=X at *
        go_wp2_with (first
          | ((with_reducible refine gate_dst (N:=12) rfl ?_);refine bx_ 12 #[.int .i64 0,.int .i64 0] 49 ?_;intro gP hg_ w5 hbk hb1;have GX:=Aside0.mk hg_;have BX:=Aside0.mk hbk;have HX:=Aside0.mk hb1;have hz0:w5.cell? ⟨gP,0,none⟩=some (.int .i64 0):=blk_cell hbk 0;have ab:=blk_frozen hbk 0;have hz1:w5.cell? ⟨gP,1,none⟩=some (.int .i64 0):=blk_cell hbk 1;have ac:=blk_frozen hbk 1;clear hg_ hbk hb1)
          | ((with_reducible refine gate_store (t:=49) (p:=12) rfl ?_);refine store_event (t:=49) (p:=12) (v:=?vo2) (w1:=((w5.setCell ⟨gP,0,none⟩ (.int .i64 X.f0)).setCell ⟨gP,1,none⟩ (.int .i64 X.f1))) ?hg ?ho ?hn ?hr ?_;(case ho=>rfl);(case hg=>rfl);(case hn=>rfl);(case hr=>first|(go_simp;done)|(go_simp;rfl));intro w6 hw;obtain ⟨hb_,hbk_⟩:=mt.put2 (x:=.int .i64 X.f0) (y:=.int .i64 X.f1) HX.out (Nat.le_of_eq GX.out.symm) BX.out;rw[← hw]at hb_ hbk_;replace RO:=Aside0.mk (Kd.R_below RO.out hb_);replace MM:=Aside0.mk (MM.out.below hb_);replace HB:=Aside0.mk (below_then HB.out HB.out.size hb_);replace BA:=Aside0.mk (blk_below BA.out hb_);replace BB:=Aside0.mk (blk_below BB.out hb_);have BP:=Aside0.mk hbk_;clear hb_ hbk_ hw HX GX BX hz0 ab hz1 ac hx0 hx1;have hcA4:w6.cell? ⟨gA,4,none⟩=some (.slice A0_4 l0_4.length c0_4):=blk_cell BA.out 4)
          | fail)
        obtain ⟨g2,hg2⟩:∃ g,g=gk:=⟨_,rfl⟩
        go_loopg [10,40] l0_4.length (fun kq ag aj w'=>∃ (j:Nat) (N:List S43),aj=.int .i64 (j:Int)∧Aside0 (j≤l0_4.length∧l0_4.length - j≤kq)∧Aside0 ((l0_4.drop j).foldl (me.row a0_3 f l1_4 i X) N=me.step a0_3 f l0_4 l1_4 i X O)∧Aside0 (N.length≤2001)∧Aside0 (Kd.R k43 43 w' w.heap.size (fun _=>True) ag N)∧Aside0 (mp w' gM l2.length f)∧Aside0 (Below w.heap.size w w')∧
          Aside0 (w'.heap[gA]?=some (.cells #[.int .i64 a0_0,.int .i64 a0_1,.int .i64 a0_2,.int .i64 a0_3,.slice A0_4 l0_4.length c0_4] 28 (0,0)))∧Aside0 (w'.heap[gB]?=some (.cells #[.int .i64 a1_0,.int .i64 a1_1,.int .i64 a1_2,.int .i64 a1_3,.slice A1_4 l1_4.length c1_4] 28 (0,0)))∧Aside0 (w'.heap[gP]?=some (.cells #[.int .i64 X.f0,.int .i64 X.f1] 49 (0,0))))
        case atStart=>exact ⟨0,O,rfl,⟨Nat.zero_le _,Nat.le_refl _⟩,⟨rfl⟩,HO,RO,MM,HB,BA,BB,BP⟩
        case round=>
          clear HO RO MM HB BA BB BP
          obtain ⟨j,N,rfl,HJ,HF2,HO,RO,MM,HB,BA,BB,BP⟩:=hrel
          obtain ⟨AO,cO,eO⟩:=Kd.R_slice RO.out
          subst eO
          by_cases hj:j<l0_4.length
          · have q3:(j:Int)<(l0_4.length:Int):=by omega
            obtain ⟨ed,eed,he0,he1,he2,he3⟩:=at_T43 HR0.out (j:Int) (by omega) q3
            subst eed
            rw[Int.toNat_natCast]at he0 he1 he2 he3
            replace he0:=ct_ HB he0
            replace he1:=ct_ HB he1
            replace he2:=ct_ HB he2
            replace he3:=ct_ HB he3
            have hdr2:l0_4.drop j=rd_T43 l0_4 j :: l0_4.drop (j+1):=mt.drop43 l0_4 j hj
            have hE:=ok0 _ (mt.mem43 l0_4 j hj)
            generalize rd_T43 l0_4 (j:Int)=E at *
            go_wp2_with (first
              | ((with_reducible refine gate_dst (N:=14) rfl ?_);refine bx_ 14 #[.int .i64 0,.int .i64 0,.int .i64 0,.int .i64 0] 43 ?_;intro gE hg_ w7 hbk hb1;have GX:=Aside0.mk hg_;have BX:=Aside0.mk hbk;have HX:=Aside0.mk hb1;have hz0:w7.cell? ⟨gE,0,none⟩=some (.int .i64 0):=blk_cell hbk 0;have ab:=blk_frozen hbk 0;have hz1:w7.cell? ⟨gE,1,none⟩=some (.int .i64 0):=blk_cell hbk 1;have ac:=blk_frozen hbk 1;have hz2:w7.cell? ⟨gE,2,none⟩=some (.int .i64 0):=blk_cell hbk 2;have ae:=blk_frozen hbk 2;have hz3:w7.cell? ⟨gE,3,none⟩=some (.int .i64 0):=blk_cell hbk 3;have af:=blk_frozen hbk 3;clear hg_ hbk hb1)
              | ((with_reducible refine gate_store (t:=43) (p:=14) rfl ?_);refine store_event (t:=43) (p:=14) (v:=?vo3) (w1:=((((w7.setCell ⟨gE,0,none⟩ (.int .i64 E.f0)).setCell ⟨gE,1,none⟩ (.int .i64 E.f1)).setCell ⟨gE,2,none⟩ (.int .i64 E.f2)).setCell ⟨gE,3,none⟩ (.int .i64 E.f3))) ?hg ?ho ?hn ?hr ?_;(case ho=>rfl);(case hg=>rfl);(case hn=>rfl);(case hr=>first|(go_simp;done)|(go_simp;rfl));intro w8 hw;obtain ⟨hb_,hbk_⟩:=mt.put4 (x:=.int .i64 E.f0) (y:=.int .i64 E.f1) (z:=.int .i64 E.f2) (u:=.int .i64 E.f3) HX.out (Nat.le_of_eq GX.out.symm) BX.out;rw[← hw]at hb_ hbk_;replace RO:=Aside0.mk (me.newR RO.out hb_ (Nat.le_of_eq GX.out.symm));replace MM:=Aside0.mk (MM.out.below hb_);replace HB:=Aside0.mk (below_then HB.out HB.out.size hb_);replace BA:=Aside0.mk (blk_below BA.out hb_);replace BB:=Aside0.mk (blk_below BB.out hb_);replace BP:=Aside0.mk (blk_below BP.out hb_);have BE:=Aside0.mk hbk_;clear hb_ hbk_ hw HX GX BX hz0 ab hz1 ac hz2 ae hz3 af he0 he1 he2 he3;have hcB4:w8.cell? ⟨gB,4,none⟩=some (.slice A1_4 l1_4.length c1_4):=blk_cell BB.out 4)
              | fail)
            obtain ⟨g3,hg3⟩:∃ g,g=gk:=⟨_,rfl⟩
            go_loopg [10,47] l1_4.length (fun kq ag ak w'=>∃ (m:Nat) (K:List S43),ak=.int .i64 (m:Int)∧Aside0 (m≤l1_4.length∧l1_4.length - m≤kq)∧Aside0 ((l1_4.drop m).foldl (fun O e=>me.one a0_3 f i X E e O) K=me.row a0_3 f l1_4 i X N E)∧Aside0 (K.length≤2001)∧Aside0 (Kd.R k43 43 w' w.heap.size (fun k=>True∧k≠gE) ag K)∧Aside0 (mp w' gM l2.length f)∧Aside0 (Below w.heap.size w w')∧
              Aside0 (w'.heap[gA]?=some (.cells #[.int .i64 a0_0,.int .i64 a0_1,.int .i64 a0_2,.int .i64 a0_3,.slice (some ed) l0_4.length c0_4] 28 (0,0)))∧Aside0 (w'.heap[gB]?=some (.cells #[.int .i64 a1_0,.int .i64 a1_1,.int .i64 a1_2,.int .i64 a1_3,.slice A1_4 l1_4.length c1_4] 28 (0,0)))∧Aside0 (w'.heap[gP]?=some (.cells #[.int .i64 X.f0,.int .i64 X.f1] 49 (0,0)))∧Aside0 (w'.heap[gE]?=some (.cells #[.int .i64 E.f0,.int .i64 E.f1,.int .i64 E.f2,.int .i64 E.f3] 43 (0,0))))
            case atStart=>exact ⟨0,N,rfl,⟨Nat.zero_le _,Nat.le_refl _⟩,⟨rfl⟩,HO,RO,MM,HB,BA,BB,BP,BE⟩
            case round=>
              clear HO RO MM HB BA BB BP BE
              obtain ⟨m,K,rfl,HM,HF3,HO,RO,MM,HB,BA,BB,BP,BE⟩:=hrel
              obtain ⟨AO,cO,eO⟩:=Kd.R_slice RO.out
              subst eO
              by_cases hm2:m<l1_4.length
              · have q4:(m:Int)<(l1_4.length:Int):=by omega
                obtain ⟨fd,efd,hf0,hf1,hf2,hf3⟩:=at_T43 HR1.out (m:Int) (by omega) q4
                subst efd
                rw[Int.toNat_natCast]at hf0 hf1 hf2 hf3
                replace hf0:=ct_ HB hf0
                replace hf1:=ct_ HB hf1
                replace hf2:=ct_ HB hf2
                replace hf3:=ct_ HB hf3
                have hdr3:l1_4.drop m=rd_T43 l1_4 m :: l1_4.drop (m+1):=mt.drop43 l1_4 m hm2
                have hFo:=ok1 _ (mt.mem43 l1_4 m hm2)
                generalize rd_T43 l1_4 (m:Int)=F at *
                rcases hb1:(E.f0 == X.f0) with _|_
                · skip
                  go_wp2_with (first
                    | ((with_reducible refine gate_dst (N:=16) rfl ?_);refine bx_ 16 #[.int .i64 0,.int .i64 0,.int .i64 0,.int .i64 0] 43 ?_;intro gF hg_ w9 hbk hb1;have GX:=Aside0.mk hg_;have BX:=Aside0.mk hbk;have HX:=Aside0.mk hb1;have hz0:w9.cell? ⟨gF,0,none⟩=some (.int .i64 0):=blk_cell hbk 0;have ab:=blk_frozen hbk 0;have hz1:w9.cell? ⟨gF,1,none⟩=some (.int .i64 0):=blk_cell hbk 1;have ac:=blk_frozen hbk 1;have hz2:w9.cell? ⟨gF,2,none⟩=some (.int .i64 0):=blk_cell hbk 2;have ae:=blk_frozen hbk 2;have hz3:w9.cell? ⟨gF,3,none⟩=some (.int .i64 0):=blk_cell hbk 3;have af:=blk_frozen hbk 3;clear hg_ hbk hb1)
                    | ((with_reducible refine gate_store (t:=43) (p:=16) rfl ?_);refine store_event (t:=43) (p:=16) (v:=?vo4) (w1:=((((w9.setCell ⟨gF,0,none⟩ (.int .i64 F.f0)).setCell ⟨gF,1,none⟩ (.int .i64 F.f1)).setCell ⟨gF,2,none⟩ (.int .i64 F.f2)).setCell ⟨gF,3,none⟩ (.int .i64 F.f3))) ?hg ?ho ?hn ?hr ?_;(case ho=>rfl);(case hg=>rfl);(case hn=>rfl);(case hr=>first|(go_simp;done)|(go_simp;rfl));intro aa hw;obtain ⟨hb_,hbk_⟩:=mt.put4 (x:=.int .i64 F.f0) (y:=.int .i64 F.f1) (z:=.int .i64 F.f2) (u:=.int .i64 F.f3) HX.out (Nat.le_of_eq GX.out.symm) BX.out;rw[← hw]at hb_ hbk_;replace RO:=Aside0.mk (Kd.R_below RO.out hb_);replace MM:=Aside0.mk (MM.out.below hb_);replace HB:=Aside0.mk (below_then HB.out HB.out.size hb_);replace BA:=Aside0.mk (blk_below BA.out hb_);replace BB:=Aside0.mk (blk_below BB.out hb_);replace BP:=Aside0.mk (blk_below BP.out hb_);replace BE:=Aside0.mk (blk_below BE.out hb_);have BF:=Aside0.mk hbk_;clear hb_ hbk_ hw HX GX BX hz0 ab hz1 ac hz2 ae hz3 af hf0 hf1 hf2 hf3;have hqE0:aa.cell? ⟨gE,0,none⟩=some (.int .i64 E.f0):=blk_cell BE.out 0;have hqE1:aa.cell? ⟨gE,1,none⟩=some (.int .i64 E.f1):=blk_cell BE.out 1;have hqE2:aa.cell? ⟨gE,2,none⟩=some (.int .i64 E.f2):=blk_cell BE.out 2;have hqE3:aa.cell? ⟨gE,3,none⟩=some (.int .i64 E.f3):=blk_cell BE.out 3;have hqF0:aa.cell? ⟨gF,0,none⟩=some (.int .i64 F.f0):=blk_cell BF.out 0;have hqF1:aa.cell? ⟨gF,1,none⟩=some (.int .i64 F.f1):=blk_cell BF.out 1;have hqF2:aa.cell? ⟨gF,2,none⟩=some (.int .i64 F.f2):=blk_cell BF.out 2;have hqF3:aa.cell? ⟨gF,3,none⟩=some (.int .i64 F.f3):=blk_cell BF.out 3;have hqX0:aa.cell? ⟨gP,0,none⟩=some (.int .i64 X.f0):=blk_cell BP.out 0;have hqX1:aa.cell? ⟨gP,1,none⟩=some (.int .i64 X.f1):=blk_cell BP.out 1;have hA3:aa.cell? ⟨gA,3,none⟩=some (.int .i64 a0_3):=blk_cell BA.out 3)
                    | fail)
                  go_roundg (gk - 1)
                  case measure=>have:=HM.out;omega
                  case rel=>
                    refine ⟨m+1,K,by rw[mt.nx hm2 (Kd.C_max HR1.out)],⟨by have:=HM.out;omega⟩,⟨?_⟩,HO,RO,MM,HB,BA,BB,BP,BE⟩
                    have e:=HF3.out
                    rw[hdr3,List.foldl_cons]at e
                    rw[show me.one a0_3 f i X E F K=K from if_neg (by intro hh;simp[hh.1]at hb1)]at e
                    exact e
                rcases hb2:(F.f0 == X.f1) with _|_
                · skip
                  go_wp2_with (first
                    | ((with_reducible refine gate_dst (N:=16) rfl ?_);refine bx_ 16 #[.int .i64 0,.int .i64 0,.int .i64 0,.int .i64 0] 43 ?_;intro gF hg_ w9 hbk hb1;have GX:=Aside0.mk hg_;have BX:=Aside0.mk hbk;have HX:=Aside0.mk hb1;have hz0:w9.cell? ⟨gF,0,none⟩=some (.int .i64 0):=blk_cell hbk 0;have ab:=blk_frozen hbk 0;have hz1:w9.cell? ⟨gF,1,none⟩=some (.int .i64 0):=blk_cell hbk 1;have ac:=blk_frozen hbk 1;have hz2:w9.cell? ⟨gF,2,none⟩=some (.int .i64 0):=blk_cell hbk 2;have ae:=blk_frozen hbk 2;have hz3:w9.cell? ⟨gF,3,none⟩=some (.int .i64 0):=blk_cell hbk 3;have af:=blk_frozen hbk 3;clear hg_ hbk hb1)
                    | ((with_reducible refine gate_store (t:=43) (p:=16) rfl ?_);refine store_event (t:=43) (p:=16) (v:=?vo5) (w1:=((((w9.setCell ⟨gF,0,none⟩ (.int .i64 F.f0)).setCell ⟨gF,1,none⟩ (.int .i64 F.f1)).setCell ⟨gF,2,none⟩ (.int .i64 F.f2)).setCell ⟨gF,3,none⟩ (.int .i64 F.f3))) ?hg ?ho ?hn ?hr ?_;(case ho=>rfl);(case hg=>rfl);(case hn=>rfl);(case hr=>first|(go_simp;done)|(go_simp;rfl));intro aa hw;obtain ⟨hb_,hbk_⟩:=mt.put4 (x:=.int .i64 F.f0) (y:=.int .i64 F.f1) (z:=.int .i64 F.f2) (u:=.int .i64 F.f3) HX.out (Nat.le_of_eq GX.out.symm) BX.out;rw[← hw]at hb_ hbk_;replace RO:=Aside0.mk (Kd.R_below RO.out hb_);replace MM:=Aside0.mk (MM.out.below hb_);replace HB:=Aside0.mk (below_then HB.out HB.out.size hb_);replace BA:=Aside0.mk (blk_below BA.out hb_);replace BB:=Aside0.mk (blk_below BB.out hb_);replace BP:=Aside0.mk (blk_below BP.out hb_);replace BE:=Aside0.mk (blk_below BE.out hb_);have BF:=Aside0.mk hbk_;clear hb_ hbk_ hw HX GX BX hz0 ab hz1 ac hz2 ae hz3 af hf0 hf1 hf2 hf3;have hqE0:aa.cell? ⟨gE,0,none⟩=some (.int .i64 E.f0):=blk_cell BE.out 0;have hqE1:aa.cell? ⟨gE,1,none⟩=some (.int .i64 E.f1):=blk_cell BE.out 1;have hqE2:aa.cell? ⟨gE,2,none⟩=some (.int .i64 E.f2):=blk_cell BE.out 2;have hqE3:aa.cell? ⟨gE,3,none⟩=some (.int .i64 E.f3):=blk_cell BE.out 3;have hqF0:aa.cell? ⟨gF,0,none⟩=some (.int .i64 F.f0):=blk_cell BF.out 0;have hqF1:aa.cell? ⟨gF,1,none⟩=some (.int .i64 F.f1):=blk_cell BF.out 1;have hqF2:aa.cell? ⟨gF,2,none⟩=some (.int .i64 F.f2):=blk_cell BF.out 2;have hqF3:aa.cell? ⟨gF,3,none⟩=some (.int .i64 F.f3):=blk_cell BF.out 3;have hqX0:aa.cell? ⟨gP,0,none⟩=some (.int .i64 X.f0):=blk_cell BP.out 0;have hqX1:aa.cell? ⟨gP,1,none⟩=some (.int .i64 X.f1):=blk_cell BP.out 1;have hA3:aa.cell? ⟨gA,3,none⟩=some (.int .i64 a0_3):=blk_cell BA.out 3)
                    | fail)
                  go_roundg (gk - 1)
                  case measure=>have:=HM.out;omega
                  case rel=>
                    refine ⟨m+1,K,by rw[mt.nx hm2 (Kd.C_max HR1.out)],⟨by have:=HM.out;omega⟩,⟨?_⟩,HO,RO,MM,HB,BA,BB,BP,BE⟩
                    have e:=HF3.out
                    rw[hdr3,List.foldl_cons]at e
                    rw[show me.one a0_3 f i X E F K=K from if_neg (by intro hh;simp[hh.2.1]at hb2)]at e
                    exact e
                rcases hb3:(E.f1 == F.f1) with _|_
                · skip
                  go_wp2_with (first
                    | ((with_reducible refine gate_dst (N:=16) rfl ?_);refine bx_ 16 #[.int .i64 0,.int .i64 0,.int .i64 0,.int .i64 0] 43 ?_;intro gF hg_ w9 hbk hb1;have GX:=Aside0.mk hg_;have BX:=Aside0.mk hbk;have HX:=Aside0.mk hb1;have hz0:w9.cell? ⟨gF,0,none⟩=some (.int .i64 0):=blk_cell hbk 0;have ab:=blk_frozen hbk 0;have hz1:w9.cell? ⟨gF,1,none⟩=some (.int .i64 0):=blk_cell hbk 1;have ac:=blk_frozen hbk 1;have hz2:w9.cell? ⟨gF,2,none⟩=some (.int .i64 0):=blk_cell hbk 2;have ae:=blk_frozen hbk 2;have hz3:w9.cell? ⟨gF,3,none⟩=some (.int .i64 0):=blk_cell hbk 3;have af:=blk_frozen hbk 3;clear hg_ hbk hb1)
                    | ((with_reducible refine gate_store (t:=43) (p:=16) rfl ?_);refine store_event (t:=43) (p:=16) (v:=?vo6) (w1:=((((w9.setCell ⟨gF,0,none⟩ (.int .i64 F.f0)).setCell ⟨gF,1,none⟩ (.int .i64 F.f1)).setCell ⟨gF,2,none⟩ (.int .i64 F.f2)).setCell ⟨gF,3,none⟩ (.int .i64 F.f3))) ?hg ?ho ?hn ?hr ?_;(case ho=>rfl);(case hg=>rfl);(case hn=>rfl);(case hr=>first|(go_simp;done)|(go_simp;rfl));intro aa hw;obtain ⟨hb_,hbk_⟩:=mt.put4 (x:=.int .i64 F.f0) (y:=.int .i64 F.f1) (z:=.int .i64 F.f2) (u:=.int .i64 F.f3) HX.out (Nat.le_of_eq GX.out.symm) BX.out;rw[← hw]at hb_ hbk_;replace RO:=Aside0.mk (Kd.R_below RO.out hb_);replace MM:=Aside0.mk (MM.out.below hb_);replace HB:=Aside0.mk (below_then HB.out HB.out.size hb_);replace BA:=Aside0.mk (blk_below BA.out hb_);replace BB:=Aside0.mk (blk_below BB.out hb_);replace BP:=Aside0.mk (blk_below BP.out hb_);replace BE:=Aside0.mk (blk_below BE.out hb_);have BF:=Aside0.mk hbk_;clear hb_ hbk_ hw HX GX BX hz0 ab hz1 ac hz2 ae hz3 af hf0 hf1 hf2 hf3;have hqE0:aa.cell? ⟨gE,0,none⟩=some (.int .i64 E.f0):=blk_cell BE.out 0;have hqE1:aa.cell? ⟨gE,1,none⟩=some (.int .i64 E.f1):=blk_cell BE.out 1;have hqE2:aa.cell? ⟨gE,2,none⟩=some (.int .i64 E.f2):=blk_cell BE.out 2;have hqE3:aa.cell? ⟨gE,3,none⟩=some (.int .i64 E.f3):=blk_cell BE.out 3;have hqF0:aa.cell? ⟨gF,0,none⟩=some (.int .i64 F.f0):=blk_cell BF.out 0;have hqF1:aa.cell? ⟨gF,1,none⟩=some (.int .i64 F.f1):=blk_cell BF.out 1;have hqF2:aa.cell? ⟨gF,2,none⟩=some (.int .i64 F.f2):=blk_cell BF.out 2;have hqF3:aa.cell? ⟨gF,3,none⟩=some (.int .i64 F.f3):=blk_cell BF.out 3;have hqX0:aa.cell? ⟨gP,0,none⟩=some (.int .i64 X.f0):=blk_cell BP.out 0;have hqX1:aa.cell? ⟨gP,1,none⟩=some (.int .i64 X.f1):=blk_cell BP.out 1;have hA3:aa.cell? ⟨gA,3,none⟩=some (.int .i64 a0_3):=blk_cell BA.out 3)
                    | fail)
                  go_roundg (gk - 1)
                  case measure=>have:=HM.out;omega
                  case rel=>
                    refine ⟨m+1,K,by rw[mt.nx hm2 (Kd.C_max HR1.out)],⟨by have:=HM.out;omega⟩,⟨?_⟩,HO,RO,MM,HB,BA,BB,BP,BE⟩
                    have e:=HF3.out
                    rw[hdr3,List.foldl_cons]at e
                    rw[show me.one a0_3 f i X E F K=K from if_neg (by intro hh;simp[hh.2.2.1]at hb3)]at e
                    exact e
                by_cases hb4:K.length≤2000
                · have hb5:decide ((K.length:Int)≤2000)=true:=decide_eq_true (by omega)
                  obtain ⟨D,hD,hat⟩:=MM.out
                  have HD:=Aside0.mk hD
                  clear hD
                  have HAT:=Aside0.mk (hat E.f2 F.f2 hE hFo)
                  have HK:=Aside0.mk (mp.key hE hFo)
                  go_wp2_with (first
                    | ((with_reducible refine gate_dst (N:=16) rfl ?_);refine bx_ 16 #[.int .i64 0,.int .i64 0,.int .i64 0,.int .i64 0] 43 ?_;intro gF hg_ w9 hbk hb1;have GX:=Aside0.mk hg_;have BX:=Aside0.mk hbk;have HX:=Aside0.mk hb1;have hz0:w9.cell? ⟨gF,0,none⟩=some (.int .i64 0):=blk_cell hbk 0;have ab:=blk_frozen hbk 0;have hz1:w9.cell? ⟨gF,1,none⟩=some (.int .i64 0):=blk_cell hbk 1;have ac:=blk_frozen hbk 1;have hz2:w9.cell? ⟨gF,2,none⟩=some (.int .i64 0):=blk_cell hbk 2;have ae:=blk_frozen hbk 2;have hz3:w9.cell? ⟨gF,3,none⟩=some (.int .i64 0):=blk_cell hbk 3;have af:=blk_frozen hbk 3;clear hg_ hbk hb1)
                    | ((with_reducible refine gate_store (t:=43) (p:=16) rfl ?_);refine store_event (t:=43) (p:=16) (v:=?vo7) (w1:=((((w9.setCell ⟨gF,0,none⟩ (.int .i64 F.f0)).setCell ⟨gF,1,none⟩ (.int .i64 F.f1)).setCell ⟨gF,2,none⟩ (.int .i64 F.f2)).setCell ⟨gF,3,none⟩ (.int .i64 F.f3))) ?hg ?ho ?hn ?hr ?_;(case ho=>rfl);(case hg=>rfl);(case hn=>rfl);(case hr=>first|(go_simp;done)|(go_simp;rfl));intro aa hw;obtain ⟨hb_,hbk_⟩:=mt.put4 (x:=.int .i64 F.f0) (y:=.int .i64 F.f1) (z:=.int .i64 F.f2) (u:=.int .i64 F.f3) HX.out (Nat.le_of_eq GX.out.symm) BX.out;rw[← hw]at hb_ hbk_;replace RO:=Aside0.mk (Kd.R_below RO.out hb_);replace MM:=Aside0.mk (MM.out.below hb_);replace HD:=Aside0.mk (HD.out.kept (grown_of_below hb_ none) (by simp));replace HB:=Aside0.mk (below_then HB.out HB.out.size hb_);replace BA:=Aside0.mk (blk_below BA.out hb_);replace BB:=Aside0.mk (blk_below BB.out hb_);replace BP:=Aside0.mk (blk_below BP.out hb_);replace BE:=Aside0.mk (blk_below BE.out hb_);have BF:=Aside0.mk hbk_;clear hb_ hbk_ hw HX GX BX hz0 ab hz1 ac hz2 ae hz3 af hf0 hf1 hf2 hf3;have hqE0:aa.cell? ⟨gE,0,none⟩=some (.int .i64 E.f0):=blk_cell BE.out 0;have hqE1:aa.cell? ⟨gE,1,none⟩=some (.int .i64 E.f1):=blk_cell BE.out 1;have hqE2:aa.cell? ⟨gE,2,none⟩=some (.int .i64 E.f2):=blk_cell BE.out 2;have hqE3:aa.cell? ⟨gE,3,none⟩=some (.int .i64 E.f3):=blk_cell BE.out 3;have hqF0:aa.cell? ⟨gF,0,none⟩=some (.int .i64 F.f0):=blk_cell BF.out 0;have hqF1:aa.cell? ⟨gF,1,none⟩=some (.int .i64 F.f1):=blk_cell BF.out 1;have hqF2:aa.cell? ⟨gF,2,none⟩=some (.int .i64 F.f2):=blk_cell BF.out 2;have hqF3:aa.cell? ⟨gF,3,none⟩=some (.int .i64 F.f3):=blk_cell BF.out 3;have hqX0:aa.cell? ⟨gP,0,none⟩=some (.int .i64 X.f0):=blk_cell BP.out 0;have hqX1:aa.cell? ⟨gP,1,none⟩=some (.int .i64 X.f1):=blk_cell BP.out 1;have hA3:aa.cell? ⟨gA,3,none⟩=some (.int .i64 a0_3):=blk_cell BA.out 3)
                    | (at_lookup;refine wpList_lookup_own_int _ rfl _ _ 59 rfl 49 3 .i64 mp.law Try.underlying59 Try.underlying3 (mp.zero _) gM _ D rfl HD.out _ _ rfl HK.out ?_;intro c hc hwc;have ec:c=f E.f2 F.f2:=by { have e:=HAT.out.symm.trans hc;injection e with e;injection e with _ e;exact e.symm };subst ec;clear hc hwc)
                    | ((with_reducible refine gate_builtin (b:=.append) (xs:=#[.tmp 82,.tmp 97]) rfl ?_);at_builtin;refine Kd.R_append k43 (w0:=w) w.heap.size rfl (.tmp 82) (.tmp 97) 26 43 (.agg #[(.int .i64 0),(.int .i64 0),(.int .i64 0),(.int .i64 0)]) 32 rfl Try.underlying26 info43 rfl (by decide) (by omega) (.slice AO K.length cO) K (⟨(i:Int),E.f1,f E.f2 F.f2,Go.bits .or .i64 E.f3 (wrap64 (F.f3 * 2 ^ a0_3.toNat))⟩:S43) [.int .i64 (i:Int),.int .i64 E.f1,.int .i64 (f E.f2 F.f2),.int .i64 (Go.bits .or .i64 E.f3 (wrap64 (F.f3 * 2 ^ a0_3.toNat)))] (fun k=>True∧k≠gE) (fun _=>False) rfl rfl (k43_mkM _ _ _ (⟨(i:Int),E.f1,f E.f2 F.f2,Go.bits .or .i64 E.f3 (wrap64 (F.f3 * 2 ^ a0_3.toNat))⟩:S43)) (fun _ hk=>hk.elim) ?aF RO.out HB.out HB.out.size (by omega) ?_;(case aF=>exact fun k hk=>⟨trivial,fun e=>by have:=blk_lt BE.out;omega⟩);intro ap al ho hb hg _;have n1:=Aside0.mk (blk_grown BA.out hg (Kd.R_ne RO.out BA.out (by decide)));have n2:=Aside0.mk (blk_grown BB.out hg (Kd.R_ne RO.out BB.out (by decide)));have n3:=Aside0.mk (blk_grown BP.out hg (Kd.R_ne RO.out BP.out (by decide)));have n4:=Aside0.mk (blk_grown BE.out hg (fun e=>(RO.out.1 gE e.symm).2 rfl));have n5:Aside0 (mp al gM l2.length f):=Aside0.mk ⟨D,HD.out.kept hg (fun e=>by { obtain ⟨_,_,_,q,_,cs_,hc_⟩:=(Kd.R_bound RO.out).1 gM e.symm;exact mt.not_map hc_ HD.out }),hat⟩;have n6:=Aside0.mk hb;have n7:=Aside0.mk ho;clear ho hb hg BA BB BP BE BF HD HB RO;have BA:=n1;have BB:=n2;have BP:=n3;have BE:=n4;have HB:=n6;have RO:=n7;clear n1 n2 n3 n4 n6 n7)
                    | fail)
                  go_roundg (gk - 1)
                  case measure=>have:=HM.out;omega
                  case rel=>
                    refine ⟨m+1,K ++ [(⟨(i:Int),E.f1,f E.f2 F.f2,Go.bits .or .i64 E.f3 (wrap64 (F.f3 * 2 ^ a0_3.toNat))⟩:S43)],by rw[mt.nx hm2 (Kd.C_max HR1.out)],⟨by have:=HM.out;omega⟩,⟨?_⟩,⟨by rw[List.length_append,List.length_singleton];omega⟩,RO,n5,HB,BA,BB,BP,BE⟩
                    have e:=HF3.out
                    rw[hdr3,List.foldl_cons]at e
                    rw[show me.one a0_3 f i X E F K=K ++ [(⟨(i:Int),E.f1,f E.f2 F.f2,Go.bits .or .i64 E.f3 (wrap64 (F.f3 * 2 ^ a0_3.toNat))⟩:S43)] from if_pos ⟨by simpa using hb1,by simpa using hb2,by simpa using hb3,hb4⟩]at e
                    exact e
                have hb5:decide ((K.length:Int)≤2000)=false:=decide_eq_false (by omega)
                go_wp2_with (first
                  | ((with_reducible refine gate_dst (N:=16) rfl ?_);refine bx_ 16 #[.int .i64 0,.int .i64 0,.int .i64 0,.int .i64 0] 43 ?_;intro gF hg_ w9 hbk hb1;have GX:=Aside0.mk hg_;have BX:=Aside0.mk hbk;have HX:=Aside0.mk hb1;have hz0:w9.cell? ⟨gF,0,none⟩=some (.int .i64 0):=blk_cell hbk 0;have ab:=blk_frozen hbk 0;have hz1:w9.cell? ⟨gF,1,none⟩=some (.int .i64 0):=blk_cell hbk 1;have ac:=blk_frozen hbk 1;have hz2:w9.cell? ⟨gF,2,none⟩=some (.int .i64 0):=blk_cell hbk 2;have ae:=blk_frozen hbk 2;have hz3:w9.cell? ⟨gF,3,none⟩=some (.int .i64 0):=blk_cell hbk 3;have af:=blk_frozen hbk 3;clear hg_ hbk hb1)
                  | ((with_reducible refine gate_store (t:=43) (p:=16) rfl ?_);refine store_event (t:=43) (p:=16) (v:=?vo8) (w1:=((((w9.setCell ⟨gF,0,none⟩ (.int .i64 F.f0)).setCell ⟨gF,1,none⟩ (.int .i64 F.f1)).setCell ⟨gF,2,none⟩ (.int .i64 F.f2)).setCell ⟨gF,3,none⟩ (.int .i64 F.f3))) ?hg ?ho ?hn ?hr ?_;(case ho=>rfl);(case hg=>rfl);(case hn=>rfl);(case hr=>first|(go_simp;done)|(go_simp;rfl));intro aa hw;obtain ⟨hb_,hbk_⟩:=mt.put4 (x:=.int .i64 F.f0) (y:=.int .i64 F.f1) (z:=.int .i64 F.f2) (u:=.int .i64 F.f3) HX.out (Nat.le_of_eq GX.out.symm) BX.out;rw[← hw]at hb_ hbk_;replace RO:=Aside0.mk (Kd.R_below RO.out hb_);replace MM:=Aside0.mk (MM.out.below hb_);replace HB:=Aside0.mk (below_then HB.out HB.out.size hb_);replace BA:=Aside0.mk (blk_below BA.out hb_);replace BB:=Aside0.mk (blk_below BB.out hb_);replace BP:=Aside0.mk (blk_below BP.out hb_);replace BE:=Aside0.mk (blk_below BE.out hb_);have BF:=Aside0.mk hbk_;clear hb_ hbk_ hw HX GX BX hz0 ab hz1 ac hz2 ae hz3 af hf0 hf1 hf2 hf3;have hqE0:aa.cell? ⟨gE,0,none⟩=some (.int .i64 E.f0):=blk_cell BE.out 0;have hqE1:aa.cell? ⟨gE,1,none⟩=some (.int .i64 E.f1):=blk_cell BE.out 1;have hqE2:aa.cell? ⟨gE,2,none⟩=some (.int .i64 E.f2):=blk_cell BE.out 2;have hqE3:aa.cell? ⟨gE,3,none⟩=some (.int .i64 E.f3):=blk_cell BE.out 3;have hqF0:aa.cell? ⟨gF,0,none⟩=some (.int .i64 F.f0):=blk_cell BF.out 0;have hqF1:aa.cell? ⟨gF,1,none⟩=some (.int .i64 F.f1):=blk_cell BF.out 1;have hqF2:aa.cell? ⟨gF,2,none⟩=some (.int .i64 F.f2):=blk_cell BF.out 2;have hqF3:aa.cell? ⟨gF,3,none⟩=some (.int .i64 F.f3):=blk_cell BF.out 3;have hqX0:aa.cell? ⟨gP,0,none⟩=some (.int .i64 X.f0):=blk_cell BP.out 0;have hqX1:aa.cell? ⟨gP,1,none⟩=some (.int .i64 X.f1):=blk_cell BP.out 1;have hA3:aa.cell? ⟨gA,3,none⟩=some (.int .i64 a0_3):=blk_cell BA.out 3)
                  | fail)
                go_roundg (gk - 1)
                case measure=>have:=HM.out;omega
                case rel=>
                  refine ⟨m+1,K,by rw[mt.nx hm2 (Kd.C_max HR1.out)],⟨by have:=HM.out;omega⟩,⟨?_⟩,HO,RO,MM,HB,BA,BB,BP,BE⟩
                  have e:=HF3.out
                  rw[hdr3,List.foldl_cons]at e
                  rw[show me.one a0_3 f i X E F K=K from if_neg (by intro hh;exact hb4 hh.2.2.2)]at e
                  exact e
              have em:m=l1_4.length:=by have:=HM.out;omega
              subst em
              go_wp2
              go_roundg (g3 - 1)
              case measure=>have:=HJ.out;omega
              case rel=>
                refine ⟨j+1,K,by rw[mt.nx hj (Kd.C_max HR0.out)],⟨by have:=HJ.out;omega⟩,⟨?_⟩,HO,Aside0.mk (Kd.R_mono RO.out (fun _ _=>trivial)),MM,HB,BA,BB,BP⟩
                have e:=HF3.out
                rw[List.drop_length,List.foldl_nil]at e
                have f_:=HF2.out
                rw[hdr2,List.foldl_cons,← e]at f_
                exact f_
          have ej:j=l0_4.length:=by have:=HJ.out;omega
          subst ej
          go_wp2
          go_roundg (g2 - 1)
          case measure=>have:=HI.out;omega
          case rel=>
            refine ⟨i+1,N,by rw[mt.nx hi (Kd.C_max HR2.out)],⟨by have:=HI.out;omega⟩,⟨?_⟩,HO,RO,MM,HB,BA,BB⟩
            have e:=HF2.out
            rw[List.drop_length,List.foldl_nil]at e
            have f_:=HF.out
            rw[hdr]at f_
            unfold me.go at f_
            rw[← e]at f_
            exact f_
      have ei:i=l2.length:=by have:=HI.out;omega
      subst ei
      have EO:Aside0 (O=OF):=Aside0.mk (by
        have e:=HF.out
        rw[List.drop_length]at e
        exact e)
      go_wp2_with (first
        | ((with_reducible refine gate_callee (f:=40) rfl ?_);refine goesL_ (some 103) rfl rfl Try.func40 (by kernel_rfl) rfl #[.slice AO O.length cO,.func (.func 33) #[] #[]] rfl (by (try simp only[List.map_toArray,List.map_cons,List.map_nil]);first|done|rfl|(go_simp;rfl)) ?_;(with_reducible refine (impl_GEdge_40.calls (fun _=>True) _ O r w _ HB.out RO.out (EO.out.symm ▸ HEND.out)).mono ?_);rintro e aq ⟨rfl,ho,hb,hk⟩;refine ⟨_,rfl,?_⟩;have am:=Aside0.mk ho;have HBB:=Aside0.mk hb;clear ho hb hk)
        | fail)
      go_ret
      exact ⟨_,rfl,Kd.R_mono am.out (fun _ _=>trivial),HBB.out⟩
end Go.Proofs.Ytbfghpbmalpdbaa.MFnExactGenMeet
