import Derived.Test.YtkpeajafgldpbaaGreatMFnExactAutoMeetx0
import Derived.Test.YtkpeajafgldpbaaGreatMFnExactAutoMeetx10
import Derived.Test.YtkpeajafgldpbaaGreatMFnExactAutoMeetx11
import Derived.Test.YtkpeajafgldpbaaGreatMFnExactAutoMeetx13
import Derived.Shelf.SlSortCmp.NoneTotal
namespace Go.Proofs.YtkpeajafgldpbaaGreat.MFnExactAutoMeet
open Go.RowKit Go.Proofs.YtkpeajafgldpbaaGreatW.PrintWords Go.Proofs.YtkpeajafgldpbaaGreatW.PrintLast Go.Proofs.YtkpeajafgldpbaaGreatW.PrintMore Go.Proofs.YtkpeajafgldpbaaGreat.Short6 Go.Proofs.YtkpeajafgldpbaaGreat.Short8
attribute [local go_sem] max2_int min2_int max_two min_two max_three min_three max_four min_four
set_option linter.unusedVariables false
set_option linter.unusedSimpArgs false
def impl_GEdge_59.lays_ren:Go.Shelf.Ren:=⟨fun|6=>59|15=>64|14=>65|28=>75|29=>76|20=>77|21=>78|22=>79|23=>80|24=>81|25=>82|26=>83|27=>84|46=>98|47=>94|48=>95|49=>99|50=>100|57=>105|n=>n,fun|22=>37|24=>58|25=>79|3=>3|39=>84|0=>0|53=>99|55=>101|4=>4|46=>93|45=>92|50=>71|5=>5|9=>9|66=>112|70=>116|76=>122|77=>123|n=>n,fun|n=>n⟩
theorem impl_GEdge_59.lays:Go.Proofs.SlLaysF0.n6 Tryz.prog impl_GEdge_59.lays_ren:={
  mixed:=by kernel_rfl
  f6:=⟨Tryz.f59.name,by decide,Tryz.func59.trans (congrArg some (by kernel_rfl))⟩
  f14:=⟨Tryz.f65.name,by decide,Tryz.func65.trans (congrArg some (by kernel_rfl))⟩
  f15:=Tryz.func64.trans (congrArg some (by kernel_rfl))
  f20:=⟨Tryz.f77.name,by decide,Tryz.func77.trans (congrArg some (by kernel_rfl))⟩
  f21:=⟨Tryz.f78.name,by decide,Tryz.func78.trans (congrArg some (by kernel_rfl))⟩
  f22:=⟨Tryz.f79.name,by decide,Tryz.func79.trans (congrArg some (by kernel_rfl))⟩
  f23:=⟨Tryz.f80.name,by decide,Tryz.func80.trans (congrArg some (by kernel_rfl))⟩
  f24:=⟨Tryz.f81.name,by decide,Tryz.func81.trans (congrArg some (by kernel_rfl))⟩
  f25:=⟨Tryz.f82.name,by decide,Tryz.func82.trans (congrArg some (by kernel_rfl))⟩
  f26:=⟨Tryz.f83.name,by decide,Tryz.func83.trans (congrArg some (by kernel_rfl))⟩
  f27:=⟨Tryz.f84.name,by decide,Tryz.func84.trans (congrArg some (by kernel_rfl))⟩
  f28:=Tryz.func75.trans (congrArg some (by kernel_rfl))
  f29:=Tryz.func76.trans (congrArg some (by kernel_rfl))
  f46:=⟨Tryz.f98.name,by decide,Tryz.func98.trans (congrArg some (by kernel_rfl))⟩
  f47:=Tryz.func94.trans (congrArg some (by kernel_rfl))
  f48:=Tryz.func95.trans (congrArg some (by kernel_rfl))
  f49:=⟨Tryz.f99.name,by decide,Tryz.func99.trans (congrArg some (by kernel_rfl))⟩
  f50:=⟨Tryz.f100.name,by decide,Tryz.func100.trans (congrArg some (by kernel_rfl))⟩
  f57:=⟨Tryz.f105.name,by decide,Tryz.func105.trans (congrArg some (by kernel_rfl))⟩
  t0:=Tryz.underlying0
  a0:=Tryz.isAgg0
  z0:=Tryz.sizeOf0
  v0:=Tryz.zeroValue0
  t3:=Tryz.underlying3
  a3:=Tryz.isAgg3
  z3:=Tryz.sizeOf3
  v3:=Tryz.zeroValue3
  t4:=Tryz.underlying4
  a4:=Tryz.isAgg4
  z4:=Tryz.sizeOf4
  v4:=Tryz.zeroValue4
  t5:=Tryz.underlying5
  a5:=Tryz.isAgg5
  z5:=Tryz.sizeOf5
  v5:=Tryz.zeroValue5
  t9:=Tryz.underlying9
  a9:=Tryz.isAgg9
  z9:=Tryz.sizeOf9
  v9:=Tryz.zeroValue9
  t22:=Tryz.underlying37
  a22:=Tryz.isAgg37
  z22:=Tryz.sizeOf37
  v22:=Tryz.zeroValue37
  t25:=Tryz.underlying79
  a25:=Tryz.isAgg79
  z25:=Tryz.sizeOf79
  v25:=Tryz.zeroValue79
  t39:=Tryz.underlying84
  a39:=Tryz.isAgg84
  z39:=Tryz.sizeOf84
  v39:=Tryz.zeroValue84
  t45:=Tryz.underlying92
  a45:=Tryz.isAgg92
  z45:=Tryz.sizeOf92
  v45:=Tryz.zeroValue92
  t46:=Tryz.underlying93
  a46:=Tryz.isAgg93
  z46:=Tryz.sizeOf93
  v46:=Tryz.zeroValue93
  t50:=Tryz.underlying71
  a50:=Tryz.isAgg71
  z50:=Tryz.sizeOf71
  v50:=Tryz.zeroValue71
  t53:=Tryz.underlying99
  a53:=Tryz.isAgg99
  z53:=Tryz.sizeOf99
  v53:=Tryz.zeroValue99
  t55:=Tryz.underlying101
  a55:=Tryz.isAgg101
  z55:=Tryz.sizeOf101
  v55:=Tryz.zeroValue101
  t66:=Tryz.underlying112
  a66:=Tryz.isAgg112
  z66:=Tryz.sizeOf112
  v66:=Tryz.zeroValue112
  t70:=Tryz.underlying116
  a70:=Tryz.isAgg116
  z70:=Tryz.sizeOf116
  v70:=Tryz.zeroValue116
  t76:=Tryz.underlying122
  a76:=Tryz.isAgg122
  z76:=Tryz.sizeOf122
  v76:=Tryz.zeroValue122
  t77:=Tryz.underlying123
  a77:=Tryz.isAgg123
  z77:=Tryz.sizeOf123
  v77:=Tryz.zeroValue123 }
theorem impl_GEdge_59.dr_drewN {w w':World} (h:w.drawn≤w'.drawn) (n:Nat):w.drawn≤(w'.drewN n).drawn:=Nat.le_trans h (Nat.le_add_right _ _)
theorem impl_GEdge_59.dr_drew {w w':World} (h:w.drawn≤w'.drawn):w.drawn≤w'.drew.drawn:=Nat.le_trans h (Nat.le_add_right _ _)
section
variable {P:Program} {ops:Array Oper} {Q:Exit→Act→World→Prop} {rest:List Oper} {o:Oper} {a:Act} {Kc:Act→World→Prop} {α:Type}
theorem impl_GEdge_59.box_event_d {W:World} (hgd:o.guard=none) {N:Tmp} (_hd:o.dst=some N) {cs:Array Value} {t:TypeId}
    (hrun:(execOp a.eval o).run P W=.ok (.value (.pointer (some ⟨W.heap.size,0,none⟩))) (W.alloc (.cells cs t (0,0))))
    (h:∀ g,g=W.heap.size→∀ w1,w1.heap[g]?=some (.cells cs t (0,0))→Below W.heap.size W w1→W.drawn≤w1.drawn→wpList P ops Q rest (a.put o.dst (.pointer (some ⟨g,0,none⟩))) w1):wpList P ops Q (o :: rest) a W:=
  Kd.event_run hgd hrun (h _ rfl _ (blk_new W _) (below_alloc (Below.refl _ _) _) (Nat.le_refl _))
theorem impl_GEdge_59.R_lit_step_d (d:Kd α) {w0 W:World} (base e:Nat) (hw:Region.wanted o (yielded ops a.tmps)=true) {N:Tmp} (_hd:o.dst=some N) {xs:List α} {inner:List Value} {ok okp:Nat→Prop}
    (hrun:(execOp a.eval o).run P W=.ok (.value (.slice (some ⟨W.heap.size,0,none⟩) xs.length xs.length)) (W.alloc (.cells inner.toArray e)))
    (hrep:Reps (d.M W base okp) d.sz xs inner) (hok:∀ k,okp k→ok k) (hfresh:ok W.heap.size) (HB:Below base w0 W) (hbase:base≤W.heap.size) (hm:xs.length≤9223372036854775807)
    (h:∀ v1 w1,d.R e w1 base ok v1 xs→Below base w0 w1→W.grownBy w1 none→(∃ b,v1.ownBlock=some b∧W.heap.size≤b)→W.drawn≤w1.drawn→Kc (a.put o.dst v1) w1):if Region.wanted o (yielded ops a.tmps)=true then Oper.wp P o a W Kc Q else Kc (a.put o.dst undef) W:=by
 refine event_step hw hrun (h _ _ ⟨fun k hk=>?_,inner,?_,?_⟩ (HB.alloc hbase _) (World.grownBy_alloc W _ none) ⟨W.heap.size,by simp[Value.ownBlock],Nat.le_refl _⟩ (Nat.le_refl _));(·have:W.heap.size=k:=(by simpa [Value.ownBlock] using hk);subst this;exact hfresh);(·have h2:=World.ownsRow_lit (base:=base) (e:=e) (size:=d.sz) W inner.toArray xs.length hbase (by simpa [maxLen] using hm) (by simpa using hrep.1);simpa using h2);refine hrep.imp_ (fun p c hp=>d.M_mono (fun k hk=>⟨hok k hk.1,fun he=>?_⟩) (Kd.M_below (d.M_bound hp) (below_alloc (Below.refl _ _) _)));have h3:k=W.heap.size:=(by simpa [Value.ownBlock] using he);have:=hk.2.2.1;omega
end
set_option maxHeartbeats 8000000 in
set_option maxRecDepth 100000 in
open Go.Proofs.YtkpeajafgldpbaaGreat.Short2 in
theorem impl_compareGEdges.drawn (k:Nat) (a0_0:Int) (a0_1:Int) (a0_2:Int) (a0_3:Int) (a1_0:Int) (a1_1:Int) (a1_2:Int) (a1_3:Int) (r:Int) (w:World) (h:impl_compareGEdges.f k a0_0 a0_1 a0_2 a0_3 a1_0 a1_1 a1_2 a1_3=some r) :
  Calls Tryz.prog 55 #[.agg #[.int .i64 a0_0,.int .i64 a0_1,.int .i64 a0_2,.int .i64 a0_3],.agg #[.int .i64 a1_0,.int .i64 a1_1,.int .i64 a1_2,.int .i64 a1_3]] w fun e w'=>e=.returned (.int .i64 r)∧Below w.heap.size w w'∧w.drawn≤w'.drawn:=by
 have hu58:=Tryz.underlying58;have HB:=Aside0.mk (Below.refl w.heap.size w);have HD:=Aside0.mk (Nat.le_refl w.drawn);unfold impl_compareGEdges.f at h;have H:=h;clear h;replace H:=bI H;obtain ⟨t366,A30,H⟩:=H;have A3:=Aside0.mk A30;clear A30;replace H:=bI H;obtain ⟨t367,A40,H⟩:=H;have A4:=Aside0.mk A40;clear A40;replace H:=bI H;obtain ⟨t368,A50,H⟩:=H;have A5:=Aside0.mk A50;clear A50;obtain ⟨y369,hy369⟩:∃ y_:List Int,y_=(([t366,t367,t368]:List Int)):=⟨_,rfl⟩
 replace H:((cmp_Or_int.f k y369).bind fun t372=>(some t372))=some r:=by first|(rw[hy369];with_reducible exact H)|(have H2_:=(Option.bind_some _ _).symm.trans H;rw[hy369];with_reducible exact H2_)|(have H2_:=(Option.bind_some _ _).symm.trans H;with_reducible exact H2_)|with_reducible exact H|(rw[hy369];exact H)|exact H
 have Ny369:=Aside0.mk hy369;clear hy369;replace H:=bI H;obtain ⟨t372,A60,H⟩:=H;have A6:=Aside0.mk A60;clear A60;obtain rfl:=Option.some.inj H
 go_enter Tryz.func55,Tryz.ntmps55
 try go_wp2_with (first|((with_reducible refine gate_dst (N:=2) rfl ?_);refine impl_GEdge_59.box_event_d ?hg (N:=2) ?hd (cs:=#[.int .i64 a0_0,.int .i64 a0_1,.int .i64 a0_2,.int .i64 a0_3]) (t:=58) ?hr ?_;(case hd=>rfl);(case hg=>rfl);(case hr=>first|(go_simp;done)|(go_simp;rfl));intro gb364 hg w7 hbox hb hd_;replace HD:=Aside0.mk (Nat.le_trans HD.out hd_);clear hd_;have BK364:=Aside0.mk (hbox);have GW364:=xG HB hg;have GE364:=xG HB hg;replace HB:=xS HB hb;clear hb hbox hg)|((with_reducible refine gate_dst (N:=3) rfl ?_);refine impl_GEdge_59.box_event_d ?hg (N:=3) ?hd (cs:=#[.int .i64 a1_0,.int .i64 a1_1,.int .i64 a1_2,.int .i64 a1_3]) (t:=58) ?hr ?_;(case hd=>rfl);(case hg=>rfl);(case hr=>first|(go_simp;done)|(go_simp;rfl));intro gb365 hg w8 hbox hb hd_;replace HD:=Aside0.mk (Nat.le_trans HD.out hd_);clear hd_;have BK365:=Aside0.mk (hbox);have GW365:=xG HB hg;have GE365:=xG HB hg;replace HB:=xS HB hb;have NB364_365:=xN BK364 hg;have NB365_364:=xM BK364 hg;replace BK364:=xB BK364 hb;clear hb hbox hg))
 replace BK364:=oB BK364;replace BK365:=oB BK365;replace HB:=oS HB;replace HD:=Aside0.mk (impl_GEdge_59.dr_drew HD.out);refine sw 18 [] impl_compareGEdges.tab1 impl_compareGEdges.bits1 (h4 BK364 (e4 BK365)) (fun HT_ HW_ hHeld=>?_);generalize w8.drew=w9 at BK364 BK365 HB HD hHeld ⊢
 refine pv 0 5 1 ?_
 refine pv 2 7 5 ?_
 refine pv 5 10 37 ?_
 refine pv 7 12 165 ?_
 refine pv 10 15 1189 ?_
 refine pv 12 17 5285 ?_
 refine tk 1 6 5287 ?_
 refine tk 3 8 5295 ?_
 refine tk 6 11 5359 ?_
 refine tk 8 13 5615 ?_
 refine tk 11 16 7663 ?_
 refine tk 13 18 15855 ?_
 refine on 4 (some 9) 15871 (fun K hK=>?_);refine gs2_ Tryz.func54 (cmp_Compare_int.calls a0_0 a1_0 t366 _ A3.out) ?_
 rintro e w' ⟨rfl,⟨nd,rfl⟩⟩;refine ⟨_,rfl,?_⟩;refine hK.out _ _ (h4 BK364 (e4 BK365)) (fun hHeld=>?_);clear hK K;refine nr_ (some 9) ?_
 refine on 9 (some 14) 16383 (fun K hK=>?_);refine gs2_ Tryz.func54 (cmp_Compare_int.calls a0_1 a1_1 t367 _ A4.out) ?_
 rintro e w' ⟨rfl,⟨nd,rfl⟩⟩;refine ⟨_,rfl,?_⟩;refine hK.out _ _ (h4 BK364 (e4 BK365)) (fun hHeld=>?_);clear hK K;refine nr_ (some 14) ?_
 refine on 14 (some 19) 32767 (fun K hK=>?_);refine gs2_ Tryz.func54 (cmp_Compare_int.calls a0_2 a1_2 t368 _ A5.out) ?_
 rintro e w' ⟨rfl,⟨nd,rfl⟩⟩;refine ⟨_,rfl,?_⟩;refine hK.out _ _ (h4 BK364 (e4 BK365)) (fun hHeld=>?_);clear hK K;refine nr_ (some 19) ?_
 refine on 15 (some 20) 65535 (fun K hK=>?_)
 refine impl_GEdge_59.R_lit_step_d (Kd.int .i64) _ 3 ?hg (N:=20) ?hd (xs:=([t366,t367,t368]:List Int)) (inner:=[.int .i64 t366,.int .i64 t367,.int .i64 t368]) (ok:=fun _=>True) (okp:=fun _=>True) ?hr ?hp (fun _ hk=>hk) trivial (Below.refl _ _) (Nat.le_refl _) (by simp) ?_;(case hd=>rfl);(case hg=>rfl);(case hr=>first|(go_simp;done)|(go_simp;rfl));(case hp=>exact (Reps.one (show Kd.M (Kd.int .i64) _ _ _ t366 [.int .i64 t366] from rfl) (Reps.one (show Kd.M (Kd.int .i64) _ _ _ t367 [.int .i64 t367] from rfl) (Reps.one (show Kd.M (Kd.int .i64) _ _ _ t368 [.int .i64 t368] from rfl) (Reps.none _ _)))))
 intro v370 w10 ho11 hb hg_ hnew_ hd_;clear hg_ hnew_;replace HD:=Aside0.mk (Nat.le_trans (by repeat (first|(with_reducible first|exact HD.out|apply impl_GEdge_59.dr_drewN|apply impl_GEdge_59.dr_drew)|exact HD.out)) hd_);clear hd_
 (first|rw[← Ny369.out]at ho11|(simp only[Int.reduceToNat]at ho11;rw[← Ny369.out]at ho11))
 have HO371:=rW0 ho11 HB;replace BK364:=xB BK364 hb;replace BK365:=xB BK365 hb;replace HB:=xS HB hb;clear hb ho11;obtain ⟨Ao12,co12,eo12⟩:=Kd.R_slice HO371.out
 (first|subst eo12|(injection eo12 with f1_ f2_ f3_;have f4_:=f1_.symm;have f5_:=f3_.symm;clear f1_ f2_ f3_;subst f4_;subst f5_))
 refine hK.out _ _ (h4 BK364 (e4 BK365)) (fun hHeld=>?_);clear hK K;refine nr_ (some 20) ?_
 refine on 16 (some 21) 131071 (fun K hK=>?_);refine gs_ Tryz.func53 #[.slice Ao12 y369.length co12] ?_
 with_reducible refine (cmp_Or_int.calls k _ _ y369 t372 _ ?side1 ?side2 A6.out).mono ?_
 (case side1=>exact sC HO371)
 (case side2=>exact sL HO371)
 rintro e w' ⟨rfl,⟨nd,rfl⟩⟩;refine ⟨_,rfl,?_⟩;refine hK.out _ _ (h4 BK364 (e4 BK365)) (fun hHeld=>?_);clear hK K;refine nr_ (some 21) ?_
 refine pv 17 4 262143 ?_
 refine done_ (done_of HT_.out (by kernel_rfl)) ?_
 try go_wp2
 go_ret;exact ⟨vw,⟨by repeat (first|(with_reducible first|exact HB.out|apply below_alloc|apply pw_below_drewN|apply below_drew1|refine below_set ?_ GE364.out|refine below_set ?_ GE365.out)|exact HB.out),(by repeat (first|(with_reducible first|exact HD.out|apply impl_GEdge_59.dr_drewN|apply impl_GEdge_59.dr_drew)|exact HD.out))⟩⟩
instance:Inhabited S58:=⟨z58⟩
def impl_GEdge_59.enc (x:S58):List Value:=[.int .i64 x.f0,.int .i64 x.f1,.int .i64 x.f2,.int .i64 x.f3]
def impl_GEdge_59.cf (x y:S58):Int:=if x.f0<y.f0 then -1 else if y.f0<x.f0 then 1 else if x.f1<y.f1 then -1 else if y.f1<x.f1 then 1 else if x.f2<y.f2 then -1 else if y.f2<x.f2 then 1 else 0
def impl_GEdge_59.lt (x y:S58):Bool:=decide (x.f0<y.f0∨(x.f0=y.f0∧(x.f1<y.f1∨(x.f1=y.f1∧x.f2<y.f2))))
theorem impl_GEdge_59.lt_eq:Go.Proofs.ltOf impl_GEdge_59.cf=impl_GEdge_59.lt:=by
 funext x y;unfold Go.Proofs.ltOf impl_GEdge_59.cf impl_GEdge_59.lt;rw[decide_eq_decide];split;(·omega);split;(·omega);split;(·omega);split;(·omega);split;(·omega);split <;> omega
theorem impl_GEdge_59.swo:Sort.SWO (Go.Proofs.ltOf impl_GEdge_59.cf):=by
 rw[impl_GEdge_59.lt_eq];refine ⟨fun x=>?_,fun x y z h1 h2=>?_,fun x y z h1 h2=>?_⟩;(·unfold impl_GEdge_59.lt;rw[decide_eq_false_iff_not];omega);(·unfold impl_GEdge_59.lt at *;rw[decide_eq_true_iff]at *;omega);unfold impl_GEdge_59.lt at *;rw[decide_eq_false_iff_not]at *;omega
theorem impl_GEdge_59.flat_at (d:Array S58) (j i:Nat) (hj:j<d.size) (hi:i<4):(Sort.flatK impl_GEdge_59.enc 4 d)[j * 4+i]! = (impl_GEdge_59.enc d[j]!)[i]!:=by
 rw[Sort.get_flatK _ _ _ _ (by omega),show (j * 4+i) / 4=j by omega,show (j * 4+i) % 4=i by omega]
theorem impl_GEdge_59.enc_at (x:S58) (i:Nat) (hi:i<4):(impl_GEdge_59.enc x)[i]?=some (impl_GEdge_59.enc x)[i]!:=by
 have hl:(impl_GEdge_59.enc x).length=4:=rfl;rw[getElem!_pos _ i (by omega),List.getElem?_eq_getElem]
theorem impl_GEdge_59.row {P0_:Nat→Prop} {l0:List S58} {w0 w:World} {g cap:Nat} (hB:Below w0.heap.size w0 w) (ho0:Kd.R k58 58 w w0.heap.size P0_ (.slice (some ⟨g,0,none⟩) l0.length cap) l0) :
    Sort.HoldsK impl_GEdge_59.enc 4 w g 0 l0.toArray∧g<w.heap.size∧∀ (d':Array S58) (n:Nat) (os:Array Obj),d'.size=l0.length→
      Kd.R k58 58 (Go.Proofs.sortWorldK impl_GEdge_59.enc 4 w g 0 n d' os) w0.heap.size (fun k_=>(P0_ k_∨w.heap.size≤k_)) (.slice (some ⟨g,0,none⟩) l0.length cap) d'.toList∧Below w0.heap.size w0 (Go.Proofs.sortWorldK impl_GEdge_59.enc 4 w g 0 n d' os)∧Kept w (Go.Proofs.sortWorldK impl_GEdge_59.enc 4 w g 0 n d' os) (fun k_=>P0_ k_):=by
 obtain ⟨hok,inner,⟨hin,hv⟩,hrl,hr⟩:=ho0;rcases hv with ⟨hv,_⟩|⟨g',cap',cur,hv,hb,hh,hnc,hcm,hcs,ht⟩;(·cases hv);injection hv with ha _ hc;injection ha with ha;injection ha with hg;subst hg;subst hc;have hlt:g<w.heap.size:=(Array.getElem?_eq_some_iff.1 hh).1;have hsz:k58.sz=4:=rfl;rw[hsz]at hrl hr hcs ht hin;have hcell:∀ j i:Nat,j<l0.length→i<4→cur[j * 4+i]?=some (impl_GEdge_59.enc (l0.toArray[j]!))[i]!:=(by intro j i hj hi;have hm:=k58_openM (hr j _ (List.getElem?_eq_getElem hj));have e1:((inner.drop (j * 4)).take 4)[i]?=cur[j * 4+i]?:=(by rw[List.getElem?_take_of_lt hi,List.getElem?_drop,← ht,List.getElem?_take_of_lt (by omega),Array.getElem?_toList]);rw[← e1,hm,show l0.toArray[j]! = l0[j] by rw[getElem!_pos _ _ (by simpa using hj)];simp];exact impl_GEdge_59.enc_at _ i hi);refine ⟨fun t htl=>?_,hlt,fun d' n os hd'=>?_⟩;(·rw[Sort.size_flatK,List.size_toArray]at htl;have hj:t / 4<l0.length:=(by omega);have e:=hcell (t / 4) (t % 4) hj (by omega);rw[show t / 4 * 4+t % 4=t by omega]at e;refine ⟨?_,?_⟩;(·have e2:=impl_GEdge_59.flat_at l0.toArray (t / 4) (t % 4) (by simpa using hj) (by omega);rw[show t / 4 * 4+t % 4=t by omega]at e2;rw[e2,Nat.zero_add];simp only[World.cell?,hh];simpa using e);simp[World.frozen?,hh]);have hb2:(Go.Proofs.sortWorldK impl_GEdge_59.enc 4 w g 0 n d' os).heap[g]?=some (.cells (Sort.putCells id 0 (Sort.flatK impl_GEdge_59.enc 4 d') cur) 58 (0,0)):=(by show ((w.heap.modify g (Sort.onCells (Sort.putCells id 0 (Sort.flatK impl_GEdge_59.enc 4 d')))) ++ os)[g]?=_;rw[Array.getElem?_append_left (by simpa using hlt),Array.getElem?_modify,if_pos rfl,hh];rfl);have hother:∀ k,k<w.heap.size→k≠g→(Go.Proofs.sortWorldK impl_GEdge_59.enc 4 w g 0 n d' os).heap[k]?=w.heap[k]?:=(by intro k hk hne;show ((w.heap.modify g (Sort.onCells (Sort.putCells id 0 (Sort.flatK impl_GEdge_59.enc 4 d')))) ++ os)[k]?=_;rw[Array.getElem?_append_left (by simpa using hk),Array.getElem?_modify,if_neg (Ne.symm hne)]);have hsize:w.heap.size≤(Go.Proofs.sortWorldK impl_GEdge_59.enc 4 w g 0 n d' os).heap.size:=(by show _≤((w.heap.modify g (Sort.onCells (Sort.putCells id 0 (Sort.flatK impl_GEdge_59.enc 4 d')))) ++ os).size;rw[Array.size_append,Array.size_modify];omega);have hcs2:(Sort.putCells id 0 (Sort.flatK impl_GEdge_59.enc 4 d') cur).size=cap * 4:=(by unfold Sort.putCells;rw[Array.size_mapIdx,hcs]);have hnew:∀ j i:Nat,j<l0.length→i<4→(Sort.putCells id 0 (Sort.flatK impl_GEdge_59.enc 4 d') cur)[j * 4+i]?=some (impl_GEdge_59.enc (d'[j]!))[i]!:=(by intro j i hj hi;have hlt2:j * 4+i<cur.size:=(by rw[hcs];omega);unfold Sort.putCells;rw[Array.getElem?_mapIdx,Array.getElem?_eq_getElem hlt2,Option.map_some,if_pos (by rw[Sort.size_flatK];omega),Nat.sub_zero,impl_GEdge_59.flat_at d' j i (by omega) hi];rfl);have hdl:d'.toList.length=l0.length:=(by simpa using hd');have hcl:(Sort.putCells id 0 (Sort.flatK impl_GEdge_59.enc 4 d') cur).toList.length=cap * 4:=(by rw[Array.length_toList (xs:=Sort.putCells id 0 (Sort.flatK impl_GEdge_59.enc 4 d') cur)];exact hcs2);refine ⟨⟨fun k hk=>.inl (hok k hk),(Sort.putCells id 0 (Sort.flatK impl_GEdge_59.enc 4 d') cur).toList.take (l0.length * 4),⟨?_,.inr ⟨g,cap,_,by rw[hdl],hb,hb2,?_,hcm,hcs2,?_⟩⟩,?_,fun j p hj=>?_⟩,?_,?_⟩;(·rw[List.length_take,hcl,hdl,hsz];omega);(·rw[hdl];exact hnc);(·rw[hdl,hsz]);(·rw[List.length_take,hcl,hdl,hsz];omega);(·obtain ⟨hjl,hjp⟩:=List.getElem?_eq_some_iff.1 hj;rw[hdl]at hjl;have e:((((Sort.putCells id 0 (Sort.flatK impl_GEdge_59.enc 4 d') cur).toList.take (l0.length * 4)).drop (j * 4)).take 4)=impl_GEdge_59.enc p:=(by apply List.ext_getElem?;intro i;by_cases hi:i<4;(·rw[List.getElem?_take_of_lt hi,List.getElem?_drop,List.getElem?_take_of_lt (by omega),Array.getElem?_toList,hnew j i hjl hi,← impl_GEdge_59.enc_at _ i hi,show d'[j]! = p by rw[getElem!_pos _ _ (by omega)];simpa using hjp]);rw[List.getElem?_eq_none (by rw[List.length_take];omega),List.getElem?_eq_none (by show 4≤i;omega)]);rw[hsz,e];exact k58_mkM _ _ _ p);(·exact hB.trans ⟨rfl,rfl,rfl,hsize,fun k hk=>hother k (by have:=hB.size;omega) (by omega)⟩);exact ⟨hsize,fun i hi hn=>hother i hi (fun e=>hn (by rw[e];exact hok g rfl))⟩
theorem impl_GEdge_59.grown {w w':World} (hb:Below w.heap.size w w') (hd:w.drawn≤w'.drawn):∃ q os',w'=Sort.grow (w.drewN q) os':=by
 refine ⟨w'.drawn - w.drawn,w'.heap.extract w.heap.size w'.heap.size,?_⟩;obtain ⟨heap,tape,drawn,os,output⟩:=w;obtain ⟨heap',tape',drawn',os',output'⟩:=w';obtain ⟨h1,h2,h3,h4,h5⟩:=hb;simp only at h1 h2 h3 h4 h5 hd;subst h1;subst h2;subst h3;have e:heap'=heap ++ heap'.extract heap.size heap'.size:=(by apply Array.ext_getElem?;intro i;by_cases hi:i<heap.size;(·rw[Array.getElem?_append_left hi,h5 i hi]);rw[Array.getElem?_append_right (by omega),Array.getElem?_extract];by_cases h2:i<heap'.size;(·rw[if_pos (by omega),show heap.size+(i - heap.size)=i by omega]);rw[if_neg (by omega),Array.getElem?_eq_none (by omega)]);unfold Sort.grow World.drewN;simp only[World.mk.injEq,true_and,and_true];exact ⟨e,by omega⟩
theorem impl_GEdge_59.or3 (a b c:Int):cmp_Or_int.f 10 [a,b,c]=some (if a=0 then (if b=0 then c else b) else a):=by
 unfold cmp_Or_int.f;have e0:rd [a,b,c] 0=a:=rfl;have e1:rd [a,b,c] 1=b:=rfl;have e2:rd [a,b,c] 2=c:=rfl;have w0:wrap64 (0+1)=1:=(by unfold wrap64;omega);have w1:wrap64 (1+1)=2:=(by unfold wrap64;omega);have w2:wrap64 (2+1)=3:=(by unfold wrap64;omega);have l3:(([a,b,c].length:Nat):Int)=3:=rfl;rw[l3];simp only[cmp_Or_int.l0,e0,e1,e2,w0,w1,w2,l3];by_cases ha:a=0;(·by_cases hb:b=0;(·by_cases hc:c=0;(·simp[ha,hb,hc]);simp[ha,hb,hc]);simp[ha,hb]);simp[ha]
theorem impl_GEdge_59.cmpf (x y:S58):impl_compareGEdges.f 10 x.f0 x.f1 x.f2 x.f3 y.f0 y.f1 y.f2 y.f3=some (impl_GEdge_59.cf x y):=by
  have hn:∀ a:Int,cmp_isNaN_int.f a=some false:=fun a=>by unfold cmp_isNaN_int.f;simp
  have hc:∀ a b:Int,cmp_Compare_int.f a b=some (if a<b then -1 else if b<a then 1 else 0):=fun a b=>by
    unfold cmp_Compare_int.f
    rw[hn,hn,Option.bind_some,Option.bind_some,if_neg (by simp),if_neg (by simp)]
    by_cases h1:a<b
    · rw[if_pos h1,if_pos h1]
    rw[if_neg h1,if_neg h1]
    by_cases h2:b<a
    · rw[if_pos h2,if_pos h2]
    rw[if_neg h2,if_neg h2]
  unfold impl_compareGEdges.f impl_GEdge_59.cf
  rw[hc,hc,hc,Option.bind_some,Option.bind_some,Option.bind_some,impl_GEdge_59.or3,Option.bind_some]
  congr 1
  by_cases h1:x.f0<y.f0
  · rw[if_pos h1,if_pos h1];rfl
  rw[if_neg h1,if_neg h1]
  by_cases h2:y.f0<x.f0
  · rw[if_pos h2,if_pos h2];rfl
  rw[if_neg h2,if_neg h2,if_pos rfl]
  by_cases h3:x.f1<y.f1
  · rw[if_pos h3,if_pos h3];rfl
  rw[if_neg h3,if_neg h3]
  by_cases h4:y.f1<x.f1
  · rw[if_pos h4,if_pos h4];rfl
  rw[if_neg h4,if_neg h4,if_pos rfl]
theorem impl_GEdge_59.lays_cmp (blk off size:Nat) (w:World):Go.Proofs.CmpLays Tryz.prog 55 #[] impl_GEdge_59.enc 4 impl_GEdge_59.cf blk off size w:=
  fun _ _ _ _ x y=>(impl_compareGEdges.drawn 10 x.f0 x.f1 x.f2 x.f3 y.f0 y.f1 y.f2 y.f3 _ _ (impl_GEdge_59.cmpf x y)).mono fun _ _ ⟨he,hb,hd⟩=>⟨he,impl_GEdge_59.grown hb hd⟩
def impl_GEdge_59.f (l0:List S58):Option (List S58):=if l0.length<1048576 then some (Sort.pdq (Go.Proofs.ltOf impl_GEdge_59.cf) l0.toArray 0 l0.toArray.size (Lib.bitLen l0.toArray.size) true true).toList else none
theorem impl_GEdge_59.calls (P0_:Nat→Prop) (u9000_:Value) (l0:List S58) (r1:List S58) (w0 w:World) (hB:Below w0.heap.size w0 w) (ho0:Kd.R k58 58 w w0.heap.size P0_ u9000_ l0) (h:impl_GEdge_59.f l0=some r1) :
    Calls Tryz.prog 59 #[u9000_,.func (.func 55) #[] #[]] w fun e w'=>e=.returned (.tuple #[])∧Kd.R k58 58 w' w0.heap.size (fun k_=>(P0_ k_∨w.heap.size≤k_)) u9000_ r1∧Below w0.heap.size w0 w'∧Kept w w' (fun k_=>P0_ k_):=by
 unfold impl_GEdge_59.f at h;by_cases hl:l0.length<1048576;(·rw[if_pos hl]at h;obtain rfl:=Option.some.inj h;clear h;have hsort:=Sort.pdq_sorts (Go.Proofs.ltOf impl_GEdge_59.cf) impl_GEdge_59.swo l0.toArray 0 l0.toArray.size (Lib.bitLen l0.toArray.size) true true (Nat.zero_le _) (Nat.le_refl _) (Or.inl rfl);have hsz:(Sort.pdq (Go.Proofs.ltOf impl_GEdge_59.cf) l0.toArray 0 l0.toArray.size (Lib.bitLen l0.toArray.size) true true).size=l0.length:=(by simpa using hsort.1.1);rcases Nat.eq_zero_or_pos l0.length with h0|hp;(·obtain ⟨A,c,rfl⟩:=Kd.R_slice ho0;obtain rfl:=List.eq_nil_of_length_eq_zero h0;have e0:(Sort.pdq (Go.Proofs.ltOf impl_GEdge_59.cf) ([]:List S58).toArray 0 ([]:List S58).toArray.size (Lib.bitLen ([]:List S58).toArray.size) true true).toList=[]:=List.eq_nil_of_length_eq_zero (by rw[Array.length_toList];exact hsz);rw[e0];have hcon:=Go.Proofs.AnyF.slices_SortFunc_none { impl_GEdge_59.lays with } A c (.func (.func 55) #[] #[]) w;change Calls Tryz.prog 59 _ _ _ at hcon;refine hcon.mono ?_;rintro e w' ⟨rfl,rfl⟩;exact ⟨rfl,Kd.R_mono ho0 (fun _ hk=>.inl hk),hB,Kept.refl _ _⟩);obtain ⟨g,cap,rfl,_,_,_⟩:=Kd.R_form ho0 hp;obtain ⟨hH,hlt,hrow⟩:=impl_GEdge_59.row hB ho0;have eg:∀ args w,(callFunc 55 args).run Tryz.prog w=.ok (.enter 55 args) w:=Go.Proofs.enters_of Tryz.func55 (by kernel_rfl) rfl;have hcon:=Go.Proofs.AnyQ.slices_SortFunc_eq impl_GEdge_59.lays 4 Tryz.isAgg58 Tryz.sizeOf58 impl_GEdge_59.enc (fun _=>rfl) (fun x v hv=>by simp[impl_GEdge_59.enc]at hv;rcases hv with rfl|rfl|rfl|rfl <;> rfl) impl_GEdge_59.cf impl_GEdge_59.swo 55 #[] g 0 cap l0.toArray w eg (impl_GEdge_59.lays_cmp g 0 _ w) hH hlt (by rw[List.size_toArray];omega);change Calls Tryz.prog 59 _ _ _ at hcon;rw[List.size_toArray]at hcon;refine hcon.mono ?_;rintro e w' ⟨rfl,n,os,rfl⟩;have:=hrow _ n os hsz;rw[List.size_toArray]at this ⊢;exact ⟨rfl,this⟩);rw[if_neg hl]at h;cases h
def me.fill:List S68→Nat→(Int→Int→Int)→Int→Int→Int
  | [],_,f=>f
  | p :: r,i,f=>me.fill r (i+1) (fun x y=>if x=p.f0∧y=p.f1 then (i:Int) else f x y)
def me.one (a:Int) (pl:Int→Int→Int) (i:Nat) (p:S68) (e f:S58) (O:List S58):List S58:=
  if e.f0=p.f0∧f.f0=p.f1∧e.f1=f.f1∧O.length≤2000 then O ++ [⟨(i:Int),e.f1,pl e.f2 f.f2,Go.bits .or .i64 e.f3 (wrap64 (f.f3 * 2 ^ a.toNat))⟩] else O
def me.row (a:Int) (pl:Int→Int→Int) (l1:List S58) (i:Nat) (p:S68) (O:List S58) (e:S58):List S58:=l1.foldl (fun O f=>me.one a pl i p e f O) O
def me.step (a:Int) (pl:Int→Int→Int) (l0 l1:List S58) (i:Nat) (p:S68) (O:List S58):List S58:=l0.foldl (me.row a pl l1 i p) O
def me.go (a:Int) (pl:Int→Int→Int) (l0 l1:List S58):List S68→Nat→List S58→List S58
  | [],_,O=>O
  | p :: r,i,O=>me.go a pl l0 l1 r (i+1) (me.step a pl l0 l1 i p O)
theorem me.put {w w1:World} {b n i:Nat} {f:Int→Int→Int} {D:DataW Unit} {x y:Int} (hx:mp.ok x) (hy:mp.ok y) (hm:w.ownsMap Tryz.prog 68 (plainElem Tryz.prog 3) b n D) (hat:∀ x y,mp.ok x→mp.ok y→D.atKey (mp.kl x y) (.lit (.int .i64 0))=.lit (.int .i64 (f x y)))
    (h:w1.ownsMap Tryz.prog 68 (plainElem Tryz.prog 3) b (n+1) (D.put (mp.kl x y) (.lit (.int .i64 i)))):mp w1 b (n+1) (fun a b=>if a=x∧b=y then (i:Int) else f a b):=by
 refine ⟨_,h,fun a b ha hb=>?_⟩;by_cases he:a=x∧b=y;(·obtain ⟨rfl,rfl⟩:=he;rw[Go.Maps.atKey_put_same hm.isMap (mp.law.key (mp.key ha hb))];dsimp only;rw[if_pos ⟨rfl,rfl⟩]);rw[Go.Maps.atKey_put_other (fun e=>he (mp.inj ha hb hx hy e)),hat a b ha hb];dsimp only;rw[if_neg he]
theorem me.drop68 (l:List S68) (i:Nat) (h:i<l.length):l.drop i=rd_T68 l i :: l.drop (i+1):=by
 rw[List.drop_eq_getElem_cons h];unfold rd_T68;simp[h]
theorem me.mem68 (l:List S68) (i:Nat) (h:i<l.length):rd_T68 l i∈l:=by
 unfold rd_T68;simp[h]
theorem mp.below {w w':World} {b n:Nat} {f:Int→Int→Int} (h:mp w b n f) (hb:Below w.heap.size w w'):mp w' b n f:=by
 obtain ⟨es,c,hc⟩:=h.isb;exact h.same (hb.block b (blk_lt hc))
theorem me.newR {w w1:World} {base g:Nat} {v:Value} {O:List S58} (h:Kd.R k58 58 w base (fun _=>True) v O) (hb:Below w.heap.size w w1) (hg:w.heap.size≤g):Kd.R k58 58 w1 base (fun k=>True∧k≠g) v O:=
  Kd.R_below (Kd.R_mono (Kd.R_bound h) (fun k hk=>⟨trivial,by have:=hk.2.2.1;omega⟩)) hb
def impl_metEdges.f (a0_0 a0_1 a0_2 a0_3:Int) (l0_4:List S58) (a1_0 a1_1 a1_2 a1_3:Int) (l1_4:List S58) (l2:List S68):Option (List S58):=
  if (∀ p∈l2,mp.ok p.f0∧mp.ok p.f1)∧(∀ e∈l0_4,mp.ok e.f2)∧(∀ e∈l1_4,mp.ok e.f2)∧0≤a0_3∧a0_3≤60 then impl_GEdge_59.f (me.go a0_3 (me.fill l2 0 (fun _ _=>0)) l0_4 l1_4 l2 0 []) else none
set_option maxHeartbeats 8000000 in
set_option maxRecDepth 100000 in
theorem impl_metEdges.calls (a0_0 a0_1 a0_2 a0_3:Int) (A0_4:Option Addr) (c0_4:Nat) (l0_4:List S58) (a1_0 a1_1 a1_2 a1_3:Int) (A1_4:Option Addr) (c1_4:Nat) (l1_4:List S58) (A2:Option Addr) (c2:Nat) (l2:List S68) (r:List S58) (w:World)
    (hr0_4:Kd.C k58 w A0_4 l0_4.length l0_4) (hc0_4:l0_4.length≤c0_4) (hr1_4:Kd.C k58 w A1_4 l1_4.length l1_4) (hc1_4:l1_4.length≤c1_4) (hr2:Kd.C k68 w A2 l2.length l2) (hc2:l2.length≤c2) (h:impl_metEdges.f a0_0 a0_1 a0_2 a0_3 l0_4 a1_0 a1_1 a1_2 a1_3 l1_4 l2=some r) :
    Calls Tryz.prog 43 #[.agg #[.int .i64 a0_0,.int .i64 a0_1,.int .i64 a0_2,.int .i64 a0_3,.slice A0_4 l0_4.length c0_4],.agg #[.int .i64 a1_0,.int .i64 a1_1,.int .i64 a1_2,.int .i64 a1_3,.slice A1_4 l1_4.length c1_4],.slice A2 l2.length c2] w fun e w'=>
      ∃ v0_:Value,e=.returned v0_∧Kd.R k58 58 w' w.heap.size (fun _=>True) v0_ r∧Below w.heap.size w w':=by
  have HR0:=Aside0.mk hr0_4
  have HR1:=Aside0.mk hr1_4
  have HR2:=Aside0.mk hr2
  clear hr0_4 hr1_4 hr2
  unfold impl_metEdges.f at h
  by_cases hg:(∀ p∈l2,mp.ok p.f0∧mp.ok p.f1)∧(∀ e∈l0_4,mp.ok e.f2)∧(∀ e∈l1_4,mp.ok e.f2)∧0≤a0_3∧a0_3≤60
  case neg=>rw[if_neg hg]at h;cases h
  rw[if_pos hg]at h
  obtain ⟨ok2,ok0,ok1,an,ao⟩:=hg
  have HEND:=Aside0.mk h
  clear h
  obtain ⟨PL,hPL⟩:∃ PL,PL=me.fill l2 0 (fun _ _=>0):=⟨_,rfl⟩
  rw[← hPL]at HEND
  obtain ⟨OF,hOF⟩:∃ OF,OF=me.go a0_3 PL l0_4 l1_4 l2 0 []:=⟨_,rfl⟩
  rw[← hOF]at HEND
  replace hPL:=Aside0.mk hPL
  replace hOF:=Aside0.mk hOF
  have HB:=Aside0.mk (Below.refl w.heap.size w)
  have hmm:=@run_makeMap Tryz.prog
  go_enter Tryz.func43,Tryz.ntmps43
  go_wp2_with (first
    | ((with_reducible refine gate_dst (N:=3) rfl ?_);refine bx_ 3 #[.int .i64 a0_0,.int .i64 a0_1,.int .i64 a0_2,.int .i64 a0_3,.slice A0_4 l0_4.length c0_4] 39 ?_;intro gA hg_ w1 hbk hb1;have BA:=Aside0.mk hbk;replace HB:=Aside0.mk hb1;clear hg_ hbk hb1)
    | ((with_reducible refine gate_dst (N:=4) rfl ?_);refine bx_ 4 #[.int .i64 a1_0,.int .i64 a1_1,.int .i64 a1_2,.int .i64 a1_3,.slice A1_4 l1_4.length c1_4] 39 ?_;intro gB hg_ w2 hbk hb1;have BB:=Aside0.mk hbk;replace BA:=Aside0.mk (blk_below BA.out hb1);replace HB:=Aside0.mk (below_then HB.out HB.out.size hb1);clear hg_ hbk hb1)
    | ((with_reducible refine gate_dst (N:=18) rfl ?_);refine mt.map_event ?hg ?hr ?_;(case hg=>rfl);(case hr=>first|(go_simp;done)|(go_simp;rfl));intro gM hgM w4 hmap hb1 hlt;have MM:=Aside0.mk hmap;have GM:=Aside0.mk (hgM ▸ HB.out.size);replace BA:=Aside0.mk (blk_below BA.out hb1);replace BB:=Aside0.mk (blk_below BB.out hb1);replace HB:=Aside0.mk (below_then HB.out HB.out.size hb1);clear hgM hmap hb1 hlt)
    | fail)
  go_loopg [21] l2.length (fun kq ah w'=>∃ (i:Nat) (f:Int→Int→Int),ah=.int .i64 (i:Int)∧Aside0 (i≤l2.length∧l2.length - i≤kq)∧Aside0 (me.fill (l2.drop i) i f=PL)∧Aside0 (mp w' gM i f)∧Aside0 (Below w.heap.size w w')∧
    Aside0 (w'.heap[gA]?=some (.cells #[.int .i64 a0_0,.int .i64 a0_1,.int .i64 a0_2,.int .i64 a0_3,.slice A0_4 l0_4.length c0_4] 39 (0,0)))∧Aside0 (w'.heap[gB]?=some (.cells #[.int .i64 a1_0,.int .i64 a1_1,.int .i64 a1_2,.int .i64 a1_3,.slice A1_4 l1_4.length c1_4] 39 (0,0))))
  case atStart=>exact ⟨0,_,rfl,⟨Nat.zero_le _,Nat.le_refl _⟩,⟨hPL.out.symm⟩,MM,HB,BA,BB⟩
  case round=>
    clear MM HB BA BB
    obtain ⟨i,f,rfl,HI,HF,MM,HB,BA,BB⟩:=hrel
    by_cases hi:i<l2.length
    · have q1:(i:Int)<(l2.length:Int):=by omega
      obtain ⟨ad,ead,hx0,hx1⟩:=at_T68 HR2.out (i:Int) (by omega) q1
      subst ead
      rw[Int.toNat_natCast]at hx0 hx1
      replace hx0:=ct_ HB hx0
      replace hx1:=ct_ HB hx1
      have hdr:l2.drop i=rd_T68 l2 i :: l2.drop (i+1):=me.drop68 l2 i hi
      obtain ⟨hX0,hX1⟩:=ok2 _ (me.mem68 l2 i hi)
      generalize rd_T68 l2 (i:Int)=X at *
      obtain ⟨D,hD,hat⟩:=MM.out
      have hil:(i:Int)<9223372036854775807:=by have:=Kd.C_max HR2.out;omega
      have HD:=Aside0.mk hD
      clear hD
      have HK:=Aside0.mk (mp.key hX0 hX1)
      go_wp2_with (first
        | ((with_reducible refine gate_dst (N:=9) rfl ?_);refine bx_ 9 #[.int .i64 0,.int .i64 0] 68 ?_;intro gP hg_ w5 hbk hb1;have GX:=Aside0.mk hg_;have BX:=Aside0.mk hbk;have HX:=Aside0.mk hb1;have hz0:w5.cell? ⟨gP,0,none⟩=some (.int .i64 0):=blk_cell hbk 0;have ab:=blk_frozen hbk 0;have hz1:w5.cell? ⟨gP,1,none⟩=some (.int .i64 0):=blk_cell hbk 1;have ac:=blk_frozen hbk 1;clear hg_ hbk hb1)
        | ((with_reducible refine gate_store (t:=68) (p:=9) rfl ?_);refine store_event (t:=68) (p:=9) (v:=?vo1) (w1:=((w5.setCell ⟨gP,0,none⟩ (.int .i64 X.f0)).setCell ⟨gP,1,none⟩ (.int .i64 X.f1))) ?hg ?ho ?hn ?hr ?_;(case ho=>rfl);(case hg=>rfl);(case hn=>rfl);(case hr=>first|(go_simp;done)|(go_simp;rfl));intro w6 hw;obtain ⟨hb_,hbk_⟩:=mt.put2 (x:=.int .i64 X.f0) (y:=.int .i64 X.f1) HX.out (Nat.le_of_eq GX.out.symm) BX.out;rw[← hw]at hb_ hbk_;replace HD:=Aside0.mk (HD.out.kept (grown_of_below hb_ none) (by simp));replace HB:=Aside0.mk (below_then HB.out HB.out.size hb_);replace BA:=Aside0.mk (blk_below BA.out hb_);replace BB:=Aside0.mk (blk_below BB.out hb_);have BP:=Aside0.mk hbk_;clear hb_ hbk_ hw HX GX BX hz0 ab hz1 ac hx0 hx1;have hc0:w6.cell? ⟨gP,0,none⟩=some (.int .i64 X.f0):=blk_cell BP.out 0;have hc1:w6.cell? ⟨gP,1,none⟩=some (.int .i64 X.f1):=blk_cell BP.out 1)
        | (at_mapUpdate;refine wpList_mapUpdate_own _ rfl _ _ _ 80 rfl 68 3 mp.law Tryz.underlying80 (plainElem Tryz.prog 3) gM i D rfl HD.out (by unfold maxLen;omega) _ _ _ rfl rfl HK.out _ [] (plainElem_int Tryz.underlying3 (mp.wf (by unfold mp.ok;omega))) ?_;intro w7 hown hgrow;have MM2:=Aside0.mk (me.put hX0 hX1 HD.out hat hown);have nA:=Aside0.mk (blk_grown BA.out hgrow (fun e_=>by injection e_ with e_;exact mt.not_map BA.out (e_ ▸ HD.out)));have nB:=Aside0.mk (blk_grown BB.out hgrow (fun e_=>by injection e_ with e_;exact mt.not_map BB.out (e_ ▸ HD.out)));replace HB:=Aside0.mk (pw_below_grown HB.out (some gM) HB.out.size hgrow (fun k hk=>by injection hk with hk;have:=GM.out;omega));clear BA BB;have BA:=nA;have BB:=nB;clear nA nB HD hown hgrow hc0 hc1 BP)
        | fail)
      go_roundg (gk - 1)
      case measure=>have:=HI.out;omega
      case rel=>
        refine ⟨i+1,_,by first|(rw[mt.nx hi (Kd.C_max HR2.out)];done)|rfl,⟨by have:=HI.out;omega⟩,⟨?_⟩,MM2,HB,BA,BB⟩
        have e:=HF.out
        rw[hdr]at e
        exact e
    have ei:i=l2.length:=by have:=HI.out;omega
    subst ei
    have eL:f=PL:=by
      have e:=HF.out
      rw[List.drop_length]at e
      exact e
    subst eL
    clear HI HF
    go_wp2
    have MM':Aside0 (mp wr gM l2.length f):=MM
    clear MM
    go_loopg [10,32] l2.length (fun kq ag ai w'=>∃ (i:Nat) (O:List S58),ai=.int .i64 (i:Int)∧Aside0 (i≤l2.length∧l2.length - i≤kq)∧Aside0 (me.go a0_3 f l0_4 l1_4 (l2.drop i) i O=OF)∧Aside0 (O.length≤2001)∧Aside0 (Kd.R k58 58 w' w.heap.size (fun _=>True) ag O)∧Aside0 (mp w' gM l2.length f)∧Aside0 (Below w.heap.size w w')∧
      Aside0 (w'.heap[gA]?=some (.cells #[.int .i64 a0_0,.int .i64 a0_1,.int .i64 a0_2,.int .i64 a0_3,.slice A0_4 l0_4.length c0_4] 39 (0,0)))∧Aside0 (w'.heap[gB]?=some (.cells #[.int .i64 a1_0,.int .i64 a1_1,.int .i64 a1_2,.int .i64 a1_3,.slice A1_4 l1_4.length c1_4] 39 (0,0))))
    case atStart=>exact ⟨0,[],rfl,⟨Nat.zero_le _,Nat.le_refl _⟩,⟨hOF.out.symm⟩,⟨by simp⟩,⟨Kd.R_nil _ _ _ _ _⟩,MM',HB,BA,BB⟩
    case round=>
      clear MM' HB BA BB
      obtain ⟨i,O,rfl,HI,HF,HO,RO,MM,HB,BA,BB⟩:=hrel
      obtain ⟨AO,cO,eO⟩:=Kd.R_slice RO.out
      subst eO
      by_cases hi:i<l2.length
      · have q1:(i:Int)<(l2.length:Int):=by omega
        obtain ⟨ad,ead,hx0,hx1⟩:=at_T68 HR2.out (i:Int) (by omega) q1
        subst ead
        rw[Int.toNat_natCast]at hx0 hx1
        replace hx0:=ct_ HB hx0
        replace hx1:=ct_ HB hx1
        have hdr:l2.drop i=rd_T68 l2 i :: l2.drop (i+1):=me.drop68 l2 i hi
        generalize rd_T68 l2 (i:Int)=X at *
        go_wp2_with (first
          | ((with_reducible refine gate_dst (N:=12) rfl ?_);refine bx_ 12 #[.int .i64 0,.int .i64 0] 68 ?_;intro gP hg_ w5 hbk hb1;have GX:=Aside0.mk hg_;have BX:=Aside0.mk hbk;have HX:=Aside0.mk hb1;have hz0:w5.cell? ⟨gP,0,none⟩=some (.int .i64 0):=blk_cell hbk 0;have ab:=blk_frozen hbk 0;have hz1:w5.cell? ⟨gP,1,none⟩=some (.int .i64 0):=blk_cell hbk 1;have ac:=blk_frozen hbk 1;clear hg_ hbk hb1)
          | ((with_reducible refine gate_store (t:=68) (p:=12) rfl ?_);refine store_event (t:=68) (p:=12) (v:=?vo2) (w1:=((w5.setCell ⟨gP,0,none⟩ (.int .i64 X.f0)).setCell ⟨gP,1,none⟩ (.int .i64 X.f1))) ?hg ?ho ?hn ?hr ?_;(case ho=>rfl);(case hg=>rfl);(case hn=>rfl);(case hr=>first|(go_simp;done)|(go_simp;rfl));intro w6 hw;obtain ⟨hb_,hbk_⟩:=mt.put2 (x:=.int .i64 X.f0) (y:=.int .i64 X.f1) HX.out (Nat.le_of_eq GX.out.symm) BX.out;rw[← hw]at hb_ hbk_;replace RO:=Aside0.mk (Kd.R_below RO.out hb_);replace MM:=Aside0.mk (MM.out.below hb_);replace HB:=Aside0.mk (below_then HB.out HB.out.size hb_);replace BA:=Aside0.mk (blk_below BA.out hb_);replace BB:=Aside0.mk (blk_below BB.out hb_);have BP:=Aside0.mk hbk_;clear hb_ hbk_ hw HX GX BX hz0 ab hz1 ac hx0 hx1;have hcA4:w6.cell? ⟨gA,4,none⟩=some (.slice A0_4 l0_4.length c0_4):=blk_cell BA.out 4)
          | fail)
        obtain ⟨g2,hg2⟩:∃ g,g=gk:=⟨_,rfl⟩
        go_loopg [10,40] l0_4.length (fun kq ag aj w'=>∃ (j:Nat) (N:List S58),aj=.int .i64 (j:Int)∧Aside0 (j≤l0_4.length∧l0_4.length - j≤kq)∧Aside0 ((l0_4.drop j).foldl (me.row a0_3 f l1_4 i X) N=me.step a0_3 f l0_4 l1_4 i X O)∧Aside0 (N.length≤2001)∧Aside0 (Kd.R k58 58 w' w.heap.size (fun _=>True) ag N)∧Aside0 (mp w' gM l2.length f)∧Aside0 (Below w.heap.size w w')∧
          Aside0 (w'.heap[gA]?=some (.cells #[.int .i64 a0_0,.int .i64 a0_1,.int .i64 a0_2,.int .i64 a0_3,.slice A0_4 l0_4.length c0_4] 39 (0,0)))∧Aside0 (w'.heap[gB]?=some (.cells #[.int .i64 a1_0,.int .i64 a1_1,.int .i64 a1_2,.int .i64 a1_3,.slice A1_4 l1_4.length c1_4] 39 (0,0)))∧Aside0 (w'.heap[gP]?=some (.cells #[.int .i64 X.f0,.int .i64 X.f1] 68 (0,0))))
        case atStart=>exact ⟨0,O,rfl,⟨Nat.zero_le _,Nat.le_refl _⟩,⟨rfl⟩,HO,RO,MM,HB,BA,BB,BP⟩
        case round=>
          clear HO RO MM HB BA BB BP
          obtain ⟨j,N,rfl,HJ,HF2,HO,RO,MM,HB,BA,BB,BP⟩:=hrel
          obtain ⟨AO,cO,eO⟩:=Kd.R_slice RO.out
          subst eO
          by_cases hj:j<l0_4.length
          · have q3:(j:Int)<(l0_4.length:Int):=by omega
            obtain ⟨ed,eed,he0,he1,he2,he3⟩:=at_T58 HR0.out (j:Int) (by omega) q3
            subst eed
            rw[Int.toNat_natCast]at he0 he1 he2 he3
            replace he0:=ct_ HB he0
            replace he1:=ct_ HB he1
            replace he2:=ct_ HB he2
            replace he3:=ct_ HB he3
            have hdr2:l0_4.drop j=rd_T58 l0_4 j :: l0_4.drop (j+1):=mt.drop58 l0_4 j hj
            have hE:=ok0 _ (mt.mem58 l0_4 j hj)
            generalize rd_T58 l0_4 (j:Int)=E at *
            go_wp2_with (first
              | ((with_reducible refine gate_dst (N:=14) rfl ?_);refine bx_ 14 #[.int .i64 0,.int .i64 0,.int .i64 0,.int .i64 0] 58 ?_;intro gE hg_ w7 hbk hb1;have GX:=Aside0.mk hg_;have BX:=Aside0.mk hbk;have HX:=Aside0.mk hb1;have hz0:w7.cell? ⟨gE,0,none⟩=some (.int .i64 0):=blk_cell hbk 0;have ab:=blk_frozen hbk 0;have hz1:w7.cell? ⟨gE,1,none⟩=some (.int .i64 0):=blk_cell hbk 1;have ac:=blk_frozen hbk 1;have hz2:w7.cell? ⟨gE,2,none⟩=some (.int .i64 0):=blk_cell hbk 2;have ae:=blk_frozen hbk 2;have hz3:w7.cell? ⟨gE,3,none⟩=some (.int .i64 0):=blk_cell hbk 3;have af:=blk_frozen hbk 3;clear hg_ hbk hb1)
              | ((with_reducible refine gate_store (t:=58) (p:=14) rfl ?_);refine store_event (t:=58) (p:=14) (v:=?vo3) (w1:=((((w7.setCell ⟨gE,0,none⟩ (.int .i64 E.f0)).setCell ⟨gE,1,none⟩ (.int .i64 E.f1)).setCell ⟨gE,2,none⟩ (.int .i64 E.f2)).setCell ⟨gE,3,none⟩ (.int .i64 E.f3))) ?hg ?ho ?hn ?hr ?_;(case ho=>rfl);(case hg=>rfl);(case hn=>rfl);(case hr=>first|(go_simp;done)|(go_simp;rfl));intro w8 hw;obtain ⟨hb_,hbk_⟩:=mt.put4 (x:=.int .i64 E.f0) (y:=.int .i64 E.f1) (z:=.int .i64 E.f2) (u:=.int .i64 E.f3) HX.out (Nat.le_of_eq GX.out.symm) BX.out;rw[← hw]at hb_ hbk_;replace RO:=Aside0.mk (me.newR RO.out hb_ (Nat.le_of_eq GX.out.symm));replace MM:=Aside0.mk (MM.out.below hb_);replace HB:=Aside0.mk (below_then HB.out HB.out.size hb_);replace BA:=Aside0.mk (blk_below BA.out hb_);replace BB:=Aside0.mk (blk_below BB.out hb_);replace BP:=Aside0.mk (blk_below BP.out hb_);have BE:=Aside0.mk hbk_;clear hb_ hbk_ hw HX GX BX hz0 ab hz1 ac hz2 ae hz3 af he0 he1 he2 he3;have hcB4:w8.cell? ⟨gB,4,none⟩=some (.slice A1_4 l1_4.length c1_4):=blk_cell BB.out 4)
              | fail)
            obtain ⟨g3,hg3⟩:∃ g,g=gk:=⟨_,rfl⟩
            go_loopg [10,47] l1_4.length (fun kq ag ak w'=>∃ (m:Nat) (K:List S58),ak=.int .i64 (m:Int)∧Aside0 (m≤l1_4.length∧l1_4.length - m≤kq)∧Aside0 ((l1_4.drop m).foldl (fun O e=>me.one a0_3 f i X E e O) K=me.row a0_3 f l1_4 i X N E)∧Aside0 (K.length≤2001)∧Aside0 (Kd.R k58 58 w' w.heap.size (fun k=>True∧k≠gE) ag K)∧Aside0 (mp w' gM l2.length f)∧Aside0 (Below w.heap.size w w')∧
              Aside0 (w'.heap[gA]?=some (.cells #[.int .i64 a0_0,.int .i64 a0_1,.int .i64 a0_2,.int .i64 a0_3,.slice (some ed) l0_4.length c0_4] 39 (0,0)))∧Aside0 (w'.heap[gB]?=some (.cells #[.int .i64 a1_0,.int .i64 a1_1,.int .i64 a1_2,.int .i64 a1_3,.slice A1_4 l1_4.length c1_4] 39 (0,0)))∧Aside0 (w'.heap[gP]?=some (.cells #[.int .i64 X.f0,.int .i64 X.f1] 68 (0,0)))∧Aside0 (w'.heap[gE]?=some (.cells #[.int .i64 E.f0,.int .i64 E.f1,.int .i64 E.f2,.int .i64 E.f3] 58 (0,0))))
            case atStart=>exact ⟨0,N,rfl,⟨Nat.zero_le _,Nat.le_refl _⟩,⟨rfl⟩,HO,RO,MM,HB,BA,BB,BP,BE⟩
            case round=>
              clear HO RO MM HB BA BB BP BE
              obtain ⟨m,K,rfl,HM,HF3,HO,RO,MM,HB,BA,BB,BP,BE⟩:=hrel
              obtain ⟨AO,cO,eO⟩:=Kd.R_slice RO.out
              subst eO
              by_cases hm2:m<l1_4.length
              · have q4:(m:Int)<(l1_4.length:Int):=by omega
                obtain ⟨fd,efd,hf0,hf1,hf2,hf3⟩:=at_T58 HR1.out (m:Int) (by omega) q4
                subst efd
                rw[Int.toNat_natCast]at hf0 hf1 hf2 hf3
                replace hf0:=ct_ HB hf0
                replace hf1:=ct_ HB hf1
                replace hf2:=ct_ HB hf2
                replace hf3:=ct_ HB hf3
                have hdr3:l1_4.drop m=rd_T58 l1_4 m :: l1_4.drop (m+1):=mt.drop58 l1_4 m hm2
                have hFo:=ok1 _ (mt.mem58 l1_4 m hm2)
                generalize rd_T58 l1_4 (m:Int)=F at *
                rcases hb1:(E.f0 == X.f0) with _|_
                · skip
                  go_wp2_with (first
                    | ((with_reducible refine gate_dst (N:=16) rfl ?_);refine bx_ 16 #[.int .i64 0,.int .i64 0,.int .i64 0,.int .i64 0] 58 ?_;intro gF hg_ w9 hbk hb1;have GX:=Aside0.mk hg_;have BX:=Aside0.mk hbk;have HX:=Aside0.mk hb1;have hz0:w9.cell? ⟨gF,0,none⟩=some (.int .i64 0):=blk_cell hbk 0;have ab:=blk_frozen hbk 0;have hz1:w9.cell? ⟨gF,1,none⟩=some (.int .i64 0):=blk_cell hbk 1;have ac:=blk_frozen hbk 1;have hz2:w9.cell? ⟨gF,2,none⟩=some (.int .i64 0):=blk_cell hbk 2;have ae:=blk_frozen hbk 2;have hz3:w9.cell? ⟨gF,3,none⟩=some (.int .i64 0):=blk_cell hbk 3;have af:=blk_frozen hbk 3;clear hg_ hbk hb1)
                    | ((with_reducible refine gate_store (t:=58) (p:=16) rfl ?_);refine store_event (t:=58) (p:=16) (v:=?vo4) (w1:=((((w9.setCell ⟨gF,0,none⟩ (.int .i64 F.f0)).setCell ⟨gF,1,none⟩ (.int .i64 F.f1)).setCell ⟨gF,2,none⟩ (.int .i64 F.f2)).setCell ⟨gF,3,none⟩ (.int .i64 F.f3))) ?hg ?ho ?hn ?hr ?_;(case ho=>rfl);(case hg=>rfl);(case hn=>rfl);(case hr=>first|(go_simp;done)|(go_simp;rfl));intro aa hw;obtain ⟨hb_,hbk_⟩:=mt.put4 (x:=.int .i64 F.f0) (y:=.int .i64 F.f1) (z:=.int .i64 F.f2) (u:=.int .i64 F.f3) HX.out (Nat.le_of_eq GX.out.symm) BX.out;rw[← hw]at hb_ hbk_;replace RO:=Aside0.mk (Kd.R_below RO.out hb_);replace MM:=Aside0.mk (MM.out.below hb_);replace HB:=Aside0.mk (below_then HB.out HB.out.size hb_);replace BA:=Aside0.mk (blk_below BA.out hb_);replace BB:=Aside0.mk (blk_below BB.out hb_);replace BP:=Aside0.mk (blk_below BP.out hb_);replace BE:=Aside0.mk (blk_below BE.out hb_);have BF:=Aside0.mk hbk_;clear hb_ hbk_ hw HX GX BX hz0 ab hz1 ac hz2 ae hz3 af hf0 hf1 hf2 hf3;have hqE0:aa.cell? ⟨gE,0,none⟩=some (.int .i64 E.f0):=blk_cell BE.out 0;have hqE1:aa.cell? ⟨gE,1,none⟩=some (.int .i64 E.f1):=blk_cell BE.out 1;have hqE2:aa.cell? ⟨gE,2,none⟩=some (.int .i64 E.f2):=blk_cell BE.out 2;have hqE3:aa.cell? ⟨gE,3,none⟩=some (.int .i64 E.f3):=blk_cell BE.out 3;have hqF0:aa.cell? ⟨gF,0,none⟩=some (.int .i64 F.f0):=blk_cell BF.out 0;have hqF1:aa.cell? ⟨gF,1,none⟩=some (.int .i64 F.f1):=blk_cell BF.out 1;have hqF2:aa.cell? ⟨gF,2,none⟩=some (.int .i64 F.f2):=blk_cell BF.out 2;have hqF3:aa.cell? ⟨gF,3,none⟩=some (.int .i64 F.f3):=blk_cell BF.out 3;have hqX0:aa.cell? ⟨gP,0,none⟩=some (.int .i64 X.f0):=blk_cell BP.out 0;have hqX1:aa.cell? ⟨gP,1,none⟩=some (.int .i64 X.f1):=blk_cell BP.out 1;have hA3:aa.cell? ⟨gA,3,none⟩=some (.int .i64 a0_3):=blk_cell BA.out 3)
                    | fail)
                  go_roundg (gk - 1)
                  case measure=>have:=HM.out;omega
                  case rel=>
                    refine ⟨m+1,K,by rw[mt.nx hm2 (Kd.C_max HR1.out)],⟨by have:=HM.out;omega⟩,⟨?_⟩,HO,RO,MM,HB,BA,BB,BP,BE⟩
                    have e:=HF3.out
                    rw[hdr3,List.foldl_cons]at e
                    rw[show me.one a0_3 f i X E F K=K from if_neg (by intro hh;simp[hh.1]at hb1)]at e
                    exact e
                rcases hb2:(F.f0 == X.f1) with _|_
                · skip
                  go_wp2_with (first
                    | ((with_reducible refine gate_dst (N:=16) rfl ?_);refine bx_ 16 #[.int .i64 0,.int .i64 0,.int .i64 0,.int .i64 0] 58 ?_;intro gF hg_ w9 hbk hb1;have GX:=Aside0.mk hg_;have BX:=Aside0.mk hbk;have HX:=Aside0.mk hb1;have hz0:w9.cell? ⟨gF,0,none⟩=some (.int .i64 0):=blk_cell hbk 0;have ab:=blk_frozen hbk 0;have hz1:w9.cell? ⟨gF,1,none⟩=some (.int .i64 0):=blk_cell hbk 1;have ac:=blk_frozen hbk 1;have hz2:w9.cell? ⟨gF,2,none⟩=some (.int .i64 0):=blk_cell hbk 2;have ae:=blk_frozen hbk 2;have hz3:w9.cell? ⟨gF,3,none⟩=some (.int .i64 0):=blk_cell hbk 3;have af:=blk_frozen hbk 3;clear hg_ hbk hb1)
                    | ((with_reducible refine gate_store (t:=58) (p:=16) rfl ?_);refine store_event (t:=58) (p:=16) (v:=?vo5) (w1:=((((w9.setCell ⟨gF,0,none⟩ (.int .i64 F.f0)).setCell ⟨gF,1,none⟩ (.int .i64 F.f1)).setCell ⟨gF,2,none⟩ (.int .i64 F.f2)).setCell ⟨gF,3,none⟩ (.int .i64 F.f3))) ?hg ?ho ?hn ?hr ?_;(case ho=>rfl);(case hg=>rfl);(case hn=>rfl);(case hr=>first|(go_simp;done)|(go_simp;rfl));intro aa hw;obtain ⟨hb_,hbk_⟩:=mt.put4 (x:=.int .i64 F.f0) (y:=.int .i64 F.f1) (z:=.int .i64 F.f2) (u:=.int .i64 F.f3) HX.out (Nat.le_of_eq GX.out.symm) BX.out;rw[← hw]at hb_ hbk_;replace RO:=Aside0.mk (Kd.R_below RO.out hb_);replace MM:=Aside0.mk (MM.out.below hb_);replace HB:=Aside0.mk (below_then HB.out HB.out.size hb_);replace BA:=Aside0.mk (blk_below BA.out hb_);replace BB:=Aside0.mk (blk_below BB.out hb_);replace BP:=Aside0.mk (blk_below BP.out hb_);replace BE:=Aside0.mk (blk_below BE.out hb_);have BF:=Aside0.mk hbk_;clear hb_ hbk_ hw HX GX BX hz0 ab hz1 ac hz2 ae hz3 af hf0 hf1 hf2 hf3;have hqE0:aa.cell? ⟨gE,0,none⟩=some (.int .i64 E.f0):=blk_cell BE.out 0;have hqE1:aa.cell? ⟨gE,1,none⟩=some (.int .i64 E.f1):=blk_cell BE.out 1;have hqE2:aa.cell? ⟨gE,2,none⟩=some (.int .i64 E.f2):=blk_cell BE.out 2;have hqE3:aa.cell? ⟨gE,3,none⟩=some (.int .i64 E.f3):=blk_cell BE.out 3;have hqF0:aa.cell? ⟨gF,0,none⟩=some (.int .i64 F.f0):=blk_cell BF.out 0;have hqF1:aa.cell? ⟨gF,1,none⟩=some (.int .i64 F.f1):=blk_cell BF.out 1;have hqF2:aa.cell? ⟨gF,2,none⟩=some (.int .i64 F.f2):=blk_cell BF.out 2;have hqF3:aa.cell? ⟨gF,3,none⟩=some (.int .i64 F.f3):=blk_cell BF.out 3;have hqX0:aa.cell? ⟨gP,0,none⟩=some (.int .i64 X.f0):=blk_cell BP.out 0;have hqX1:aa.cell? ⟨gP,1,none⟩=some (.int .i64 X.f1):=blk_cell BP.out 1;have hA3:aa.cell? ⟨gA,3,none⟩=some (.int .i64 a0_3):=blk_cell BA.out 3)
                    | fail)
                  go_roundg (gk - 1)
                  case measure=>have:=HM.out;omega
                  case rel=>
                    refine ⟨m+1,K,by rw[mt.nx hm2 (Kd.C_max HR1.out)],⟨by have:=HM.out;omega⟩,⟨?_⟩,HO,RO,MM,HB,BA,BB,BP,BE⟩
                    have e:=HF3.out
                    rw[hdr3,List.foldl_cons]at e
                    rw[show me.one a0_3 f i X E F K=K from if_neg (by intro hh;simp[hh.2.1]at hb2)]at e
                    exact e
                rcases hb3:(E.f1 == F.f1) with _|_
                · skip
                  go_wp2_with (first
                    | ((with_reducible refine gate_dst (N:=16) rfl ?_);refine bx_ 16 #[.int .i64 0,.int .i64 0,.int .i64 0,.int .i64 0] 58 ?_;intro gF hg_ w9 hbk hb1;have GX:=Aside0.mk hg_;have BX:=Aside0.mk hbk;have HX:=Aside0.mk hb1;have hz0:w9.cell? ⟨gF,0,none⟩=some (.int .i64 0):=blk_cell hbk 0;have ab:=blk_frozen hbk 0;have hz1:w9.cell? ⟨gF,1,none⟩=some (.int .i64 0):=blk_cell hbk 1;have ac:=blk_frozen hbk 1;have hz2:w9.cell? ⟨gF,2,none⟩=some (.int .i64 0):=blk_cell hbk 2;have ae:=blk_frozen hbk 2;have hz3:w9.cell? ⟨gF,3,none⟩=some (.int .i64 0):=blk_cell hbk 3;have af:=blk_frozen hbk 3;clear hg_ hbk hb1)
                    | ((with_reducible refine gate_store (t:=58) (p:=16) rfl ?_);refine store_event (t:=58) (p:=16) (v:=?vo6) (w1:=((((w9.setCell ⟨gF,0,none⟩ (.int .i64 F.f0)).setCell ⟨gF,1,none⟩ (.int .i64 F.f1)).setCell ⟨gF,2,none⟩ (.int .i64 F.f2)).setCell ⟨gF,3,none⟩ (.int .i64 F.f3))) ?hg ?ho ?hn ?hr ?_;(case ho=>rfl);(case hg=>rfl);(case hn=>rfl);(case hr=>first|(go_simp;done)|(go_simp;rfl));intro aa hw;obtain ⟨hb_,hbk_⟩:=mt.put4 (x:=.int .i64 F.f0) (y:=.int .i64 F.f1) (z:=.int .i64 F.f2) (u:=.int .i64 F.f3) HX.out (Nat.le_of_eq GX.out.symm) BX.out;rw[← hw]at hb_ hbk_;replace RO:=Aside0.mk (Kd.R_below RO.out hb_);replace MM:=Aside0.mk (MM.out.below hb_);replace HB:=Aside0.mk (below_then HB.out HB.out.size hb_);replace BA:=Aside0.mk (blk_below BA.out hb_);replace BB:=Aside0.mk (blk_below BB.out hb_);replace BP:=Aside0.mk (blk_below BP.out hb_);replace BE:=Aside0.mk (blk_below BE.out hb_);have BF:=Aside0.mk hbk_;clear hb_ hbk_ hw HX GX BX hz0 ab hz1 ac hz2 ae hz3 af hf0 hf1 hf2 hf3;have hqE0:aa.cell? ⟨gE,0,none⟩=some (.int .i64 E.f0):=blk_cell BE.out 0;have hqE1:aa.cell? ⟨gE,1,none⟩=some (.int .i64 E.f1):=blk_cell BE.out 1;have hqE2:aa.cell? ⟨gE,2,none⟩=some (.int .i64 E.f2):=blk_cell BE.out 2;have hqE3:aa.cell? ⟨gE,3,none⟩=some (.int .i64 E.f3):=blk_cell BE.out 3;have hqF0:aa.cell? ⟨gF,0,none⟩=some (.int .i64 F.f0):=blk_cell BF.out 0;have hqF1:aa.cell? ⟨gF,1,none⟩=some (.int .i64 F.f1):=blk_cell BF.out 1;have hqF2:aa.cell? ⟨gF,2,none⟩=some (.int .i64 F.f2):=blk_cell BF.out 2;have hqF3:aa.cell? ⟨gF,3,none⟩=some (.int .i64 F.f3):=blk_cell BF.out 3;have hqX0:aa.cell? ⟨gP,0,none⟩=some (.int .i64 X.f0):=blk_cell BP.out 0;have hqX1:aa.cell? ⟨gP,1,none⟩=some (.int .i64 X.f1):=blk_cell BP.out 1;have hA3:aa.cell? ⟨gA,3,none⟩=some (.int .i64 a0_3):=blk_cell BA.out 3)
                    | fail)
                  go_roundg (gk - 1)
                  case measure=>have:=HM.out;omega
                  case rel=>
                    refine ⟨m+1,K,by rw[mt.nx hm2 (Kd.C_max HR1.out)],⟨by have:=HM.out;omega⟩,⟨?_⟩,HO,RO,MM,HB,BA,BB,BP,BE⟩
                    have e:=HF3.out
                    rw[hdr3,List.foldl_cons]at e
                    rw[show me.one a0_3 f i X E F K=K from if_neg (by intro hh;simp[hh.2.2.1]at hb3)]at e
                    exact e
                by_cases hb4:K.length≤2000
                · have hb5:decide ((K.length:Int)≤2000)=true:=decide_eq_true (by omega)
                  obtain ⟨D,hD,hat⟩:=MM.out
                  have HD:=Aside0.mk hD
                  clear hD
                  have HAT:=Aside0.mk (hat E.f2 F.f2 hE hFo)
                  have HK:=Aside0.mk (mp.key hE hFo)
                  go_wp2_with (first
                    | ((with_reducible refine gate_dst (N:=16) rfl ?_);refine bx_ 16 #[.int .i64 0,.int .i64 0,.int .i64 0,.int .i64 0] 58 ?_;intro gF hg_ w9 hbk hb1;have GX:=Aside0.mk hg_;have BX:=Aside0.mk hbk;have HX:=Aside0.mk hb1;have hz0:w9.cell? ⟨gF,0,none⟩=some (.int .i64 0):=blk_cell hbk 0;have ab:=blk_frozen hbk 0;have hz1:w9.cell? ⟨gF,1,none⟩=some (.int .i64 0):=blk_cell hbk 1;have ac:=blk_frozen hbk 1;have hz2:w9.cell? ⟨gF,2,none⟩=some (.int .i64 0):=blk_cell hbk 2;have ae:=blk_frozen hbk 2;have hz3:w9.cell? ⟨gF,3,none⟩=some (.int .i64 0):=blk_cell hbk 3;have af:=blk_frozen hbk 3;clear hg_ hbk hb1)
                    | ((with_reducible refine gate_store (t:=58) (p:=16) rfl ?_);refine store_event (t:=58) (p:=16) (v:=?vo7) (w1:=((((w9.setCell ⟨gF,0,none⟩ (.int .i64 F.f0)).setCell ⟨gF,1,none⟩ (.int .i64 F.f1)).setCell ⟨gF,2,none⟩ (.int .i64 F.f2)).setCell ⟨gF,3,none⟩ (.int .i64 F.f3))) ?hg ?ho ?hn ?hr ?_;(case ho=>rfl);(case hg=>rfl);(case hn=>rfl);(case hr=>first|(go_simp;done)|(go_simp;rfl));intro aa hw;obtain ⟨hb_,hbk_⟩:=mt.put4 (x:=.int .i64 F.f0) (y:=.int .i64 F.f1) (z:=.int .i64 F.f2) (u:=.int .i64 F.f3) HX.out (Nat.le_of_eq GX.out.symm) BX.out;rw[← hw]at hb_ hbk_;replace RO:=Aside0.mk (Kd.R_below RO.out hb_);replace MM:=Aside0.mk (MM.out.below hb_);replace HD:=Aside0.mk (HD.out.kept (grown_of_below hb_ none) (by simp));replace HB:=Aside0.mk (below_then HB.out HB.out.size hb_);replace BA:=Aside0.mk (blk_below BA.out hb_);replace BB:=Aside0.mk (blk_below BB.out hb_);replace BP:=Aside0.mk (blk_below BP.out hb_);replace BE:=Aside0.mk (blk_below BE.out hb_);have BF:=Aside0.mk hbk_;clear hb_ hbk_ hw HX GX BX hz0 ab hz1 ac hz2 ae hz3 af hf0 hf1 hf2 hf3;have hqE0:aa.cell? ⟨gE,0,none⟩=some (.int .i64 E.f0):=blk_cell BE.out 0;have hqE1:aa.cell? ⟨gE,1,none⟩=some (.int .i64 E.f1):=blk_cell BE.out 1;have hqE2:aa.cell? ⟨gE,2,none⟩=some (.int .i64 E.f2):=blk_cell BE.out 2;have hqE3:aa.cell? ⟨gE,3,none⟩=some (.int .i64 E.f3):=blk_cell BE.out 3;have hqF0:aa.cell? ⟨gF,0,none⟩=some (.int .i64 F.f0):=blk_cell BF.out 0;have hqF1:aa.cell? ⟨gF,1,none⟩=some (.int .i64 F.f1):=blk_cell BF.out 1;have hqF2:aa.cell? ⟨gF,2,none⟩=some (.int .i64 F.f2):=blk_cell BF.out 2;have hqF3:aa.cell? ⟨gF,3,none⟩=some (.int .i64 F.f3):=blk_cell BF.out 3;have hqX0:aa.cell? ⟨gP,0,none⟩=some (.int .i64 X.f0):=blk_cell BP.out 0;have hqX1:aa.cell? ⟨gP,1,none⟩=some (.int .i64 X.f1):=blk_cell BP.out 1;have hA3:aa.cell? ⟨gA,3,none⟩=some (.int .i64 a0_3):=blk_cell BA.out 3)
                    | (at_lookup;refine wpList_lookup_own_int _ rfl _ _ 80 rfl 68 3 .i64 mp.law Tryz.underlying80 Tryz.underlying3 (mp.zero _) gM _ D rfl HD.out _ _ rfl HK.out ?_;intro c hc hwc;have ec:c=f E.f2 F.f2:=by { have e:=HAT.out.symm.trans hc;injection e with e;injection e with _ e;exact e.symm };subst ec;clear hc hwc)
                    | ((with_reducible refine gate_builtin (b:=.append) (xs:=#[.tmp 82,.tmp 97]) rfl ?_);at_builtin;refine Kd.R_append k58 (w0:=w) w.heap.size rfl (.tmp 82) (.tmp 97) 37 58 (.agg #[(.int .i64 0),(.int .i64 0),(.int .i64 0),(.int .i64 0)]) 32 rfl Tryz.underlying37 info58 rfl (by decide) (by omega) (.slice AO K.length cO) K (⟨(i:Int),E.f1,f E.f2 F.f2,Go.bits .or .i64 E.f3 (wrap64 (F.f3 * 2 ^ a0_3.toNat))⟩:S58) [.int .i64 (i:Int),.int .i64 E.f1,.int .i64 (f E.f2 F.f2),.int .i64 (Go.bits .or .i64 E.f3 (wrap64 (F.f3 * 2 ^ a0_3.toNat)))] (fun k=>True∧k≠gE) (fun _=>False) rfl rfl (k58_mkM _ _ _ (⟨(i:Int),E.f1,f E.f2 F.f2,Go.bits .or .i64 E.f3 (wrap64 (F.f3 * 2 ^ a0_3.toNat))⟩:S58)) (fun _ hk=>hk.elim) ?aF RO.out HB.out HB.out.size (by omega) ?_;(case aF=>exact fun k hk=>⟨trivial,fun e=>by have:=blk_lt BE.out;omega⟩);intro ap al ho hb hg _;have n1:=Aside0.mk (blk_grown BA.out hg (Kd.R_ne RO.out BA.out (by decide)));have n2:=Aside0.mk (blk_grown BB.out hg (Kd.R_ne RO.out BB.out (by decide)));have n3:=Aside0.mk (blk_grown BP.out hg (Kd.R_ne RO.out BP.out (by decide)));have n4:=Aside0.mk (blk_grown BE.out hg (fun e=>(RO.out.1 gE e.symm).2 rfl));have n5:Aside0 (mp al gM l2.length f):=Aside0.mk ⟨D,HD.out.kept hg (fun e=>by { obtain ⟨_,_,_,q,_,cs_,hc_⟩:=(Kd.R_bound RO.out).1 gM e.symm;exact mt.not_map hc_ HD.out }),hat⟩;have n6:=Aside0.mk hb;have n7:=Aside0.mk ho;clear ho hb hg BA BB BP BE BF HD HB RO;have BA:=n1;have BB:=n2;have BP:=n3;have BE:=n4;have HB:=n6;have RO:=n7;clear n1 n2 n3 n4 n6 n7)
                    | fail)
                  go_roundg (gk - 1)
                  case measure=>have:=HM.out;omega
                  case rel=>
                    refine ⟨m+1,K ++ [(⟨(i:Int),E.f1,f E.f2 F.f2,Go.bits .or .i64 E.f3 (wrap64 (F.f3 * 2 ^ a0_3.toNat))⟩:S58)],by rw[mt.nx hm2 (Kd.C_max HR1.out)],⟨by have:=HM.out;omega⟩,⟨?_⟩,⟨by rw[List.length_append,List.length_singleton];omega⟩,RO,n5,HB,BA,BB,BP,BE⟩
                    have e:=HF3.out
                    rw[hdr3,List.foldl_cons]at e
                    rw[show me.one a0_3 f i X E F K=K ++ [(⟨(i:Int),E.f1,f E.f2 F.f2,Go.bits .or .i64 E.f3 (wrap64 (F.f3 * 2 ^ a0_3.toNat))⟩:S58)] from if_pos ⟨by simpa using hb1,by simpa using hb2,by simpa using hb3,hb4⟩]at e
                    exact e
                have hb5:decide ((K.length:Int)≤2000)=false:=decide_eq_false (by omega)
                go_wp2_with (first
                  | ((with_reducible refine gate_dst (N:=16) rfl ?_);refine bx_ 16 #[.int .i64 0,.int .i64 0,.int .i64 0,.int .i64 0] 58 ?_;intro gF hg_ w9 hbk hb1;have GX:=Aside0.mk hg_;have BX:=Aside0.mk hbk;have HX:=Aside0.mk hb1;have hz0:w9.cell? ⟨gF,0,none⟩=some (.int .i64 0):=blk_cell hbk 0;have ab:=blk_frozen hbk 0;have hz1:w9.cell? ⟨gF,1,none⟩=some (.int .i64 0):=blk_cell hbk 1;have ac:=blk_frozen hbk 1;have hz2:w9.cell? ⟨gF,2,none⟩=some (.int .i64 0):=blk_cell hbk 2;have ae:=blk_frozen hbk 2;have hz3:w9.cell? ⟨gF,3,none⟩=some (.int .i64 0):=blk_cell hbk 3;have af:=blk_frozen hbk 3;clear hg_ hbk hb1)
                  | ((with_reducible refine gate_store (t:=58) (p:=16) rfl ?_);refine store_event (t:=58) (p:=16) (v:=?vo8) (w1:=((((w9.setCell ⟨gF,0,none⟩ (.int .i64 F.f0)).setCell ⟨gF,1,none⟩ (.int .i64 F.f1)).setCell ⟨gF,2,none⟩ (.int .i64 F.f2)).setCell ⟨gF,3,none⟩ (.int .i64 F.f3))) ?hg ?ho ?hn ?hr ?_;(case ho=>rfl);(case hg=>rfl);(case hn=>rfl);(case hr=>first|(go_simp;done)|(go_simp;rfl));intro aa hw;obtain ⟨hb_,hbk_⟩:=mt.put4 (x:=.int .i64 F.f0) (y:=.int .i64 F.f1) (z:=.int .i64 F.f2) (u:=.int .i64 F.f3) HX.out (Nat.le_of_eq GX.out.symm) BX.out;rw[← hw]at hb_ hbk_;replace RO:=Aside0.mk (Kd.R_below RO.out hb_);replace MM:=Aside0.mk (MM.out.below hb_);replace HB:=Aside0.mk (below_then HB.out HB.out.size hb_);replace BA:=Aside0.mk (blk_below BA.out hb_);replace BB:=Aside0.mk (blk_below BB.out hb_);replace BP:=Aside0.mk (blk_below BP.out hb_);replace BE:=Aside0.mk (blk_below BE.out hb_);have BF:=Aside0.mk hbk_;clear hb_ hbk_ hw HX GX BX hz0 ab hz1 ac hz2 ae hz3 af hf0 hf1 hf2 hf3;have hqE0:aa.cell? ⟨gE,0,none⟩=some (.int .i64 E.f0):=blk_cell BE.out 0;have hqE1:aa.cell? ⟨gE,1,none⟩=some (.int .i64 E.f1):=blk_cell BE.out 1;have hqE2:aa.cell? ⟨gE,2,none⟩=some (.int .i64 E.f2):=blk_cell BE.out 2;have hqE3:aa.cell? ⟨gE,3,none⟩=some (.int .i64 E.f3):=blk_cell BE.out 3;have hqF0:aa.cell? ⟨gF,0,none⟩=some (.int .i64 F.f0):=blk_cell BF.out 0;have hqF1:aa.cell? ⟨gF,1,none⟩=some (.int .i64 F.f1):=blk_cell BF.out 1;have hqF2:aa.cell? ⟨gF,2,none⟩=some (.int .i64 F.f2):=blk_cell BF.out 2;have hqF3:aa.cell? ⟨gF,3,none⟩=some (.int .i64 F.f3):=blk_cell BF.out 3;have hqX0:aa.cell? ⟨gP,0,none⟩=some (.int .i64 X.f0):=blk_cell BP.out 0;have hqX1:aa.cell? ⟨gP,1,none⟩=some (.int .i64 X.f1):=blk_cell BP.out 1;have hA3:aa.cell? ⟨gA,3,none⟩=some (.int .i64 a0_3):=blk_cell BA.out 3)
                  | fail)
                go_roundg (gk - 1)
                case measure=>have:=HM.out;omega
                case rel=>
                  refine ⟨m+1,K,by rw[mt.nx hm2 (Kd.C_max HR1.out)],⟨by have:=HM.out;omega⟩,⟨?_⟩,HO,RO,MM,HB,BA,BB,BP,BE⟩
                  have e:=HF3.out
                  rw[hdr3,List.foldl_cons]at e
                  rw[show me.one a0_3 f i X E F K=K from if_neg (by intro hh;exact hb4 hh.2.2.2)]at e
                  exact e
              have em:m=l1_4.length:=by have:=HM.out;omega
              subst em
              go_wp2
              go_roundg (g3 - 1)
              case measure=>have:=HJ.out;omega
              case rel=>
                refine ⟨j+1,K,by rw[mt.nx hj (Kd.C_max HR0.out)],⟨by have:=HJ.out;omega⟩,⟨?_⟩,HO,Aside0.mk (Kd.R_mono RO.out (fun _ _=>trivial)),MM,HB,BA,BB,BP⟩
                have e:=HF3.out
                rw[List.drop_length,List.foldl_nil]at e
                have f_:=HF2.out
                rw[hdr2,List.foldl_cons,← e]at f_
                exact f_
          have ej:j=l0_4.length:=by have:=HJ.out;omega
          subst ej
          go_wp2
          go_roundg (g2 - 1)
          case measure=>have:=HI.out;omega
          case rel=>
            refine ⟨i+1,N,by rw[mt.nx hi (Kd.C_max HR2.out)],⟨by have:=HI.out;omega⟩,⟨?_⟩,HO,RO,MM,HB,BA,BB⟩
            have e:=HF2.out
            rw[List.drop_length,List.foldl_nil]at e
            have f_:=HF.out
            rw[hdr]at f_
            unfold me.go at f_
            rw[← e]at f_
            exact f_
      have ei:i=l2.length:=by have:=HI.out;omega
      subst ei
      have EO:Aside0 (O=OF):=Aside0.mk (by
        have e:=HF.out
        rw[List.drop_length]at e
        exact e)
      go_wp2_with (first
        | ((with_reducible refine gate_callee (f:=59) rfl ?_);refine goesL_ (some 103) rfl rfl Tryz.func59 (by kernel_rfl) rfl #[.slice AO O.length cO,.func (.func 55) #[] #[]] rfl (by (try simp only[List.map_toArray,List.map_cons,List.map_nil]);first|done|rfl|(go_simp;rfl)) ?_;(with_reducible refine (impl_GEdge_59.calls (fun _=>True) _ O r w _ HB.out RO.out (EO.out.symm ▸ HEND.out)).mono ?_);rintro e aq ⟨rfl,ho,hb,hk⟩;refine ⟨_,rfl,?_⟩;have am:=Aside0.mk ho;have HBB:=Aside0.mk hb;clear ho hb hk)
        | fail)
      go_ret
      exact ⟨_,rfl,Kd.R_mono am.out (fun _ _=>trivial),HBB.out⟩
end Go.Proofs.YtkpeajafgldpbaaGreat.MFnExactAutoMeet
