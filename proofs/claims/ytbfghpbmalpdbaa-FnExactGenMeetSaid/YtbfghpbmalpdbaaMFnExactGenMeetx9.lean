import Derived.Shelf.SlSortCmp.NoneTotal
import Derived.Test.YtbfghpbmalpdbaaMFnExactGenMeetx0
import Derived.Test.YtbfghpbmalpdbaaMFnExactGenMeetx7
import Derived.Test.YtbfghpbmalpdbaaMFnExactGenMeetx8
namespace Go.Proofs.Ytbfghpbmalpdbaa.MFnExactGenMeet
open Go.RowKit Go.Proofs.YtbfghpbmalpdbaaW.PrintWords Go.Proofs.YtbfghpbmalpdbaaW.PrintLast Go.Proofs.YtbfghpbmalpdbaaW.PrintMore Go.Proofs.Ytbfghpbmalpdbaa.Short6
attribute [local go_sem] max2_int min2_int max_two min_two max_three min_three max_four min_four
set_option linter.unusedVariables false
set_option linter.unusedSimpArgs false
def impl_pair_36.lays_ren:Go.Shelf.Ren:=⟨fun|6=>36|15=>47|14=>46|28=>58|29=>59|20=>50|21=>51|22=>52|23=>53|24=>54|25=>55|26=>56|27=>57|46=>68|47=>69|48=>70|49=>71|50=>72|57=>76|n=>n,fun|22=>46|24=>49|25=>65|3=>3|39=>66|0=>0|53=>84|55=>86|4=>4|46=>77|45=>76|50=>81|5=>5|9=>9|66=>92|70=>96|76=>100|77=>101|n=>n,fun|n=>n⟩
theorem impl_pair_36.lays:Go.Proofs.SlLaysF0.n6 Try.prog impl_pair_36.lays_ren:={
  mixed:=by kernel_rfl
  f6:=⟨Try.f36.name,by decide,Try.func36.trans (congrArg some (by kernel_rfl))⟩
  f14:=⟨Try.f46.name,by decide,Try.func46.trans (congrArg some (by kernel_rfl))⟩
  f15:=Try.func47.trans (congrArg some (by kernel_rfl))
  f20:=⟨Try.f50.name,by decide,Try.func50.trans (congrArg some (by kernel_rfl))⟩
  f21:=⟨Try.f51.name,by decide,Try.func51.trans (congrArg some (by kernel_rfl))⟩
  f22:=⟨Try.f52.name,by decide,Try.func52.trans (congrArg some (by kernel_rfl))⟩
  f23:=⟨Try.f53.name,by decide,Try.func53.trans (congrArg some (by kernel_rfl))⟩
  f24:=⟨Try.f54.name,by decide,Try.func54.trans (congrArg some (by kernel_rfl))⟩
  f25:=⟨Try.f55.name,by decide,Try.func55.trans (congrArg some (by kernel_rfl))⟩
  f26:=⟨Try.f56.name,by decide,Try.func56.trans (congrArg some (by kernel_rfl))⟩
  f27:=⟨Try.f57.name,by decide,Try.func57.trans (congrArg some (by kernel_rfl))⟩
  f28:=Try.func58.trans (congrArg some (by kernel_rfl))
  f29:=Try.func59.trans (congrArg some (by kernel_rfl))
  f46:=⟨Try.f68.name,by decide,Try.func68.trans (congrArg some (by kernel_rfl))⟩
  f47:=Try.func69.trans (congrArg some (by kernel_rfl))
  f48:=Try.func70.trans (congrArg some (by kernel_rfl))
  f49:=⟨Try.f71.name,by decide,Try.func71.trans (congrArg some (by kernel_rfl))⟩
  f50:=⟨Try.f72.name,by decide,Try.func72.trans (congrArg some (by kernel_rfl))⟩
  f57:=⟨Try.f76.name,by decide,Try.func76.trans (congrArg some (by kernel_rfl))⟩
  t0:=Try.underlying0
  a0:=Try.isAgg0
  z0:=Try.sizeOf0
  v0:=Try.zeroValue0
  t3:=Try.underlying3
  a3:=Try.isAgg3
  z3:=Try.sizeOf3
  v3:=Try.zeroValue3
  t4:=Try.underlying4
  a4:=Try.isAgg4
  z4:=Try.sizeOf4
  v4:=Try.zeroValue4
  t5:=Try.underlying5
  a5:=Try.isAgg5
  z5:=Try.sizeOf5
  v5:=Try.zeroValue5
  t9:=Try.underlying9
  a9:=Try.isAgg9
  z9:=Try.sizeOf9
  v9:=Try.zeroValue9
  t22:=Try.underlying46
  a22:=Try.isAgg46
  z22:=Try.sizeOf46
  v22:=Try.zeroValue46
  t25:=Try.underlying65
  a25:=Try.isAgg65
  z25:=Try.sizeOf65
  v25:=Try.zeroValue65
  t39:=Try.underlying66
  a39:=Try.isAgg66
  z39:=Try.sizeOf66
  v39:=Try.zeroValue66
  t45:=Try.underlying76
  a45:=Try.isAgg76
  z45:=Try.sizeOf76
  v45:=Try.zeroValue76
  t46:=Try.underlying77
  a46:=Try.isAgg77
  z46:=Try.sizeOf77
  v46:=Try.zeroValue77
  t50:=Try.underlying81
  a50:=Try.isAgg81
  z50:=Try.sizeOf81
  v50:=Try.zeroValue81
  t53:=Try.underlying84
  a53:=Try.isAgg84
  z53:=Try.sizeOf84
  v53:=Try.zeroValue84
  t55:=Try.underlying86
  a55:=Try.isAgg86
  z55:=Try.sizeOf86
  v55:=Try.zeroValue86
  t66:=Try.underlying92
  a66:=Try.isAgg92
  z66:=Try.sizeOf92
  v66:=Try.zeroValue92
  t70:=Try.underlying96
  a70:=Try.isAgg96
  z70:=Try.sizeOf96
  v70:=Try.zeroValue96
  t76:=Try.underlying100
  a76:=Try.isAgg100
  z76:=Try.sizeOf100
  v76:=Try.zeroValue100
  t77:=Try.underlying101
  a77:=Try.isAgg101
  z77:=Try.sizeOf101
  v77:=Try.zeroValue101 }
theorem impl_pair_36.dr_drewN {w w':World} (h:w.drawn≤w'.drawn) (n:Nat):w.drawn≤(w'.drewN n).drawn:=Nat.le_trans h (Nat.le_add_right _ _)
theorem impl_pair_36.dr_drew {w w':World} (h:w.drawn≤w'.drawn):w.drawn≤w'.drew.drawn:=Nat.le_trans h (Nat.le_add_right _ _)
section
variable {P:Program} {ops:Array Oper} {Q:Exit→Act→World→Prop} {rest:List Oper} {o:Oper} {a:Act} {Kc:Act→World→Prop} {α:Type}
theorem impl_pair_36.box_event_d {W:World} (hgd:o.guard=none) {N:Tmp} (_hd:o.dst=some N) {cs:Array Value} {t:TypeId}
    (hrun:(execOp a.eval o).run P W=.ok (.value (.pointer (some ⟨W.heap.size,0,none⟩))) (W.alloc (.cells cs t (0,0))))
    (h:∀ g,g=W.heap.size→∀ w1,w1.heap[g]?=some (.cells cs t (0,0))→Below W.heap.size W w1→W.drawn≤w1.drawn→wpList P ops Q rest (a.put o.dst (.pointer (some ⟨g,0,none⟩))) w1):wpList P ops Q (o :: rest) a W:=
  Kd.event_run hgd hrun (h _ rfl _ (blk_new W _) (below_alloc (Below.refl _ _) _) (Nat.le_refl _))
theorem impl_pair_36.R_lit_step_d (d:Kd α) {w0 W:World} (base e:Nat) (hw:Region.wanted o (yielded ops a.tmps)=true) {N:Tmp} (_hd:o.dst=some N) {xs:List α} {inner:List Value} {ok okp:Nat→Prop}
    (hrun:(execOp a.eval o).run P W=.ok (.value (.slice (some ⟨W.heap.size,0,none⟩) xs.length xs.length)) (W.alloc (.cells inner.toArray e)))
    (hrep:Reps (d.M W base okp) d.sz xs inner) (hok:∀ k,okp k→ok k) (hfresh:ok W.heap.size) (HB:Below base w0 W) (hbase:base≤W.heap.size) (hm:xs.length≤9223372036854775807)
    (h:∀ v1 w1,d.R e w1 base ok v1 xs→Below base w0 w1→W.grownBy w1 none→(∃ b,v1.ownBlock=some b∧W.heap.size≤b)→W.drawn≤w1.drawn→Kc (a.put o.dst v1) w1):if Region.wanted o (yielded ops a.tmps)=true then Oper.wp P o a W Kc Q else Kc (a.put o.dst undef) W:=by
  refine event_step hw hrun (h _ _ ⟨fun k hk=>?_,inner,?_,?_⟩ (HB.alloc hbase _) (World.grownBy_alloc W _ none) ⟨W.heap.size,by simp[Value.ownBlock],Nat.le_refl _⟩ (Nat.le_refl _))
  · have:W.heap.size=k:=by simpa [Value.ownBlock] using hk
    subst this
    exact hfresh
  · have h2:=World.ownsRow_lit (base:=base) (e:=e) (size:=d.sz) W inner.toArray xs.length hbase (by simpa [maxLen] using hm) (by simpa using hrep.1)
    simpa using h2
  refine hrep.imp_ (fun p c hp=>d.M_mono (fun k hk=>⟨hok k hk.1,fun he=>?_⟩) (Kd.M_below (d.M_bound hp) (below_alloc (Below.refl _ _) _)))
  have h3:k=W.heap.size:=by simpa [Value.ownBlock] using he
  have:=hk.2.2.1
  omega
end
set_option maxHeartbeats 8000000 in
set_option maxRecDepth 100000 in
open Go.Proofs.Ytbfghpbmalpdbaa.Short2 in
theorem impl_meets_2.drawn (k:Nat) (a0_0:Int) (a0_1:Int) (a1_0:Int) (a1_1:Int) (r:Int) (w:World) (h:impl_meets_2.f k a0_0 a0_1 a1_0 a1_1=some r) :
  Calls Try.prog 37 #[.agg #[.int .i64 a0_0,.int .i64 a0_1],.agg #[.int .i64 a1_0,.int .i64 a1_1]] w fun e w'=>e=.returned (.int .i64 r)∧Below w.heap.size w w'∧w.drawn≤w'.drawn:=by
 have hu49:=Try.underlying49;have HB:=Aside0.mk (Below.refl w.heap.size w);have HD:=Aside0.mk (Nat.le_refl w.drawn);have H:((cmp_Compare_int.f a0_0 a1_0).bind fun t267=>((cmp_Compare_int.f a0_1 a1_1).bind fun t268=>((cmp_Or_int.f k (([t267,t268]:List Int))).bind fun t272=>(some t272))))=some r:=h;clear h;replace H:=bI H;obtain ⟨t267,A30,H⟩:=H;replace H:((cmp_Compare_int.f a0_1 a1_1).bind fun t268=>((cmp_Or_int.f k (([t267,t268]:List Int))).bind fun t272=>(some t272)))=some r:=H;have A3:=Aside0.mk A30;clear A30;replace H:=bI H;obtain ⟨t268,A40,H⟩:=H;replace H:((cmp_Or_int.f k (([t267,t268]:List Int))).bind fun t272=>(some t272))=some r:=H;have A4:=Aside0.mk A40;clear A40;obtain ⟨y269,hy269⟩:∃ y_:List Int,y_=(([t267,t268]:List Int)):=⟨_,rfl⟩
 replace H:((cmp_Or_int.f k y269).bind fun t272=>(some t272))=some r:=by first|(rw[hy269];with_reducible exact H)|(have H2_:=(Option.bind_some _ _).symm.trans H;rw[hy269];with_reducible exact H2_)|(have H2_:=(Option.bind_some _ _).symm.trans H;with_reducible exact H2_)|with_reducible exact H|(rw[hy269];exact H)|exact H
 have Ny269:=Aside0.mk hy269;clear hy269;replace H:=bI H;obtain ⟨t272,A50,H⟩:=H;replace H:(some t272)=some r:=H;have A5:=Aside0.mk A50;clear A50;obtain rfl:=Option.some.inj H
 go_enter Try.func37,Try.ntmps37
 try go_wp2_with (first|((with_reducible refine gate_dst (N:=2) rfl ?_);refine impl_pair_36.box_event_d ?hg (N:=2) ?hd (cs:=#[.int .i64 a0_0,.int .i64 a0_1]) (t:=49) ?hr ?_;(case hd=>rfl);(case hg=>rfl);(case hr=>first|(go_simp;done)|(go_simp;rfl));intro gb265 hg w6 hbox hb hd_;replace HD:=Aside0.mk (Nat.le_trans HD.out hd_);clear hd_;have BK265:=Aside0.mk (hbox);have GW265:=xG HB hg;have GE265:=xG HB hg;replace HB:=xS HB hb;clear hb hbox hg)|((with_reducible refine gate_dst (N:=3) rfl ?_);refine impl_pair_36.box_event_d ?hg (N:=3) ?hd (cs:=#[.int .i64 a1_0,.int .i64 a1_1]) (t:=49) ?hr ?_;(case hd=>rfl);(case hg=>rfl);(case hr=>first|(go_simp;done)|(go_simp;rfl));intro gb266 hg w7 hbox hb hd_;replace HD:=Aside0.mk (Nat.le_trans HD.out hd_);clear hd_;have BK266:=Aside0.mk (hbox);have GW266:=xG HB hg;have GE266:=xG HB hg;replace HB:=xS HB hb;have NB265_266:=xN BK265 hg;have NB266_265:=xM BK265 hg;replace BK265:=xB BK265 hb;clear hb hbox hg))
 replace BK265:=Aside0.mk (blk_drew BK265.out);replace BK266:=Aside0.mk (blk_drew BK266.out);replace HB:=Aside0.mk (below_drew1 HB.out);replace HD:=Aside0.mk (impl_pair_36.dr_drew HD.out);refine start_ (n:=13) (S:=fun w'=>w'.cell? ⟨gb265,0,none⟩=some (.int .i64 a0_0)∧w'.cell? ⟨gb265,1,none⟩=some (.int .i64 a0_1)∧w'.cell? ⟨gb266,0,none⟩=some (.int .i64 a1_0)∧w'.cell? ⟨gb266,1,none⟩=some (.int .i64 a1_1)) (ds:=[]) bl0 (by kernel_rfl) rfl rfl ⟨b1 BK265 0,b1 BK265 1,b1 BK266 0,b1 BK266 1⟩ (fun hHeld=>?_);refine with_tabW impl_meets_2.tab1 impl_meets_2.bits1 (fun HT_ HW_=>?_);generalize w7.drew=w8 at BK265 BK266 HB HD hHeld ⊢
 refine pv_ 0 (some 5) bl1 HT_ ?_
 refine pv_ 2 (some 7) bl2 HT_ ?_
 refine pv_ 5 (some 10) bl3 HT_ ?_
 refine pv_ 7 (some 12) bl4 HT_ ?_
 refine tk_ 1 (some 6) bl5 HT_ HW_ hHeld ?_
 refine tk_ 3 (some 8) bl6 HT_ HW_ hHeld ?_
 refine tk_ 6 (some 11) bl7 HT_ HW_ hHeld ?_
 refine tk_ 8 (some 13) bl8 HT_ HW_ hHeld ?_
 refine on_ 4 (some 9) bl9 HT_ (fun K hK=>?_);refine gs_ Try.func39 #[.int .i64 a0_0,.int .i64 a1_0] ?_
 with_reducible refine (cmp_Compare_int.calls a0_0 a1_0 t267 _ A3.out).mono ?_
 rintro e w' ⟨rfl,⟨nd,rfl⟩⟩;refine ⟨_,rfl,?_⟩;refine hK.out _ _ ⟨b1 BK265 0,b1 BK265 1,b1 BK266 0,b1 BK266 1⟩ (fun hHeld=>?_);clear hK K;refine nr_ (some 9) ?_
 refine on_ 9 (some 14) bl10 HT_ (fun K hK=>?_);refine gs_ Try.func39 #[.int .i64 a0_1,.int .i64 a1_1] ?_
 with_reducible refine (cmp_Compare_int.calls a0_1 a1_1 t268 _ A4.out).mono ?_
 rintro e w' ⟨rfl,⟨nd,rfl⟩⟩;refine ⟨_,rfl,?_⟩;refine hK.out _ _ ⟨b1 BK265 0,b1 BK265 1,b1 BK266 0,b1 BK266 1⟩ (fun hHeld=>?_);clear hK K;refine nr_ (some 14) ?_
 refine on_ 10 (some 15) bl11 HT_ (fun K hK=>?_)
 refine impl_pair_36.R_lit_step_d (Kd.int .i64) _ 3 ?hg (N:=15) ?hd (xs:=([t267,t268]:List Int)) (inner:=[.int .i64 t267,.int .i64 t268]) (ok:=fun _=>True) (okp:=fun _=>True) ?hr ?hp (fun _ hk=>hk) trivial (Below.refl _ _) (Nat.le_refl _) (by simp) ?_;(case hd=>rfl);(case hg=>rfl);(case hr=>first|(go_simp;done)|(go_simp;rfl));(case hp=>exact (Reps.one (show Kd.M (Kd.int .i64) _ _ _ t267 [.int .i64 t267] from rfl) (Reps.one (show Kd.M (Kd.int .i64) _ _ _ t268 [.int .i64 t268] from rfl) (Reps.none _ _))))
 intro v270 w9 ho10 hb hg_ hnew_ hd_;clear hg_ hnew_;replace HD:=Aside0.mk (Nat.le_trans (by repeat (first|(with_reducible first|exact HD.out|apply impl_pair_36.dr_drewN|apply impl_pair_36.dr_drew)|exact HD.out)) hd_);clear hd_
 (first|rw[← Ny269.out]at ho10|(simp only[Int.reduceToNat]at ho10;rw[← Ny269.out]at ho10))
 have HO271:=rW0 ho10 HB;replace BK265:=xB BK265 hb;replace BK266:=xB BK266 hb;replace HB:=xS HB hb;clear hb ho10;obtain ⟨Ao11,co11,eo11⟩:=Kd.R_slice HO271.out
 (first|subst eo11|(injection eo11 with f1_ f2_ f3_;have f4_:=f1_.symm;have f5_:=f3_.symm;clear f1_ f2_ f3_;subst f4_;subst f5_))
 refine hK.out _ _ ⟨b1 BK265 0,b1 BK265 1,b1 BK266 0,b1 BK266 1⟩ (fun hHeld=>?_);clear hK K;refine nr_ (some 15) ?_
 refine on_ 11 (some 16) bl12 HT_ (fun K hK=>?_);refine gs_ Try.func38 #[.slice Ao11 y269.length co11] ?_
 with_reducible refine (cmp_Or_int.calls k _ _ y269 t272 _ ?side1 ?side2 A5.out).mono ?_
 (case side1=>exact sC HO271)
 (case side2=>exact sL HO271)
 rintro e w' ⟨rfl,⟨nd,rfl⟩⟩;refine ⟨_,rfl,?_⟩;refine hK.out _ _ ⟨b1 BK265 0,b1 BK265 1,b1 BK266 0,b1 BK266 1⟩ (fun hHeld=>?_);clear hK K;refine nr_ (some 16) ?_
 refine pv_ 12 (some 4) bl13 HT_ ?_
 refine done_ (done_of HT_.out (by kernel_rfl)) ?_
 try go_wp2
 go_ret;exact ⟨vw,⟨by repeat (first|(with_reducible first|exact HB.out|apply below_alloc|apply pw_below_drewN|apply below_drew1|refine below_set ?_ GE265.out|refine below_set ?_ GE266.out)|exact HB.out),(by repeat (first|(with_reducible first|exact HD.out|apply impl_pair_36.dr_drewN|apply impl_pair_36.dr_drew)|exact HD.out))⟩⟩
instance:Inhabited S49:=⟨z49⟩
def impl_pair_36.enc (x:S49):List Value:=[.int .i64 x.f0,.int .i64 x.f1]
def impl_pair_36.cf (x y:S49):Int:=if x.f0<y.f0 then -1 else if y.f0<x.f0 then 1 else if x.f1<y.f1 then -1 else if y.f1<x.f1 then 1 else 0
def impl_pair_36.lt (x y:S49):Bool:=decide (x.f0<y.f0∨(x.f0=y.f0∧x.f1<y.f1))
theorem impl_pair_36.lt_eq:Go.Proofs.ltOf impl_pair_36.cf=impl_pair_36.lt:=by
  funext x y
  unfold Go.Proofs.ltOf impl_pair_36.cf impl_pair_36.lt
  rw[decide_eq_decide]
  split
  · omega
  split
  · omega
  split
  · omega
  split
  · omega
  omega
theorem impl_pair_36.swo:Sort.SWO (Go.Proofs.ltOf impl_pair_36.cf):=by
  rw[impl_pair_36.lt_eq]
  refine ⟨fun x=>?_,fun x y z h1 h2=>?_,fun x y z h1 h2=>?_⟩
  · unfold impl_pair_36.lt;rw[decide_eq_false_iff_not];omega
  · unfold impl_pair_36.lt at *;rw[decide_eq_true_iff]at *;omega
  unfold impl_pair_36.lt at *;rw[decide_eq_false_iff_not]at *;omega
theorem impl_pair_36.flat_at (d:Array S49) (j i:Nat) (hj:j<d.size) (hi:i<2):(Sort.flatK impl_pair_36.enc 2 d)[j * 2+i]! = (impl_pair_36.enc d[j]!)[i]!:=by
  rw[Sort.get_flatK _ _ _ _ (by omega),show (j * 2+i) / 2=j by omega,show (j * 2+i) % 2=i by omega]
theorem impl_pair_36.enc_at (x:S49) (i:Nat) (hi:i<2):(impl_pair_36.enc x)[i]?=some (impl_pair_36.enc x)[i]!:=by
  have hl:(impl_pair_36.enc x).length=2:=rfl
  rw[getElem!_pos _ i (by omega),List.getElem?_eq_getElem]
theorem impl_pair_36.row {P0_:Nat→Prop} {l0:List S49} {w0 w:World} {g cap:Nat} (hB:Below w0.heap.size w0 w) (ho0:Kd.R k49 49 w w0.heap.size P0_ (.slice (some ⟨g,0,none⟩) l0.length cap) l0) :
    Sort.HoldsK impl_pair_36.enc 2 w g 0 l0.toArray∧g<w.heap.size∧∀ (d':Array S49) (n:Nat) (os:Array Obj),d'.size=l0.length→
      Kd.R k49 49 (Go.Proofs.sortWorldK impl_pair_36.enc 2 w g 0 n d' os) w0.heap.size (fun k_=>(P0_ k_∨w.heap.size≤k_)) (.slice (some ⟨g,0,none⟩) l0.length cap) d'.toList∧Below w0.heap.size w0 (Go.Proofs.sortWorldK impl_pair_36.enc 2 w g 0 n d' os)∧Kept w (Go.Proofs.sortWorldK impl_pair_36.enc 2 w g 0 n d' os) (fun k_=>P0_ k_):=by
  obtain ⟨hok,inner,⟨hin,hv⟩,hrl,hr⟩:=ho0
  rcases hv with ⟨hv,_⟩|⟨g',cap',cur,hv,hb,hh,hnc,hcm,hcs,ht⟩
  · cases hv
  injection hv with ha _ hc
  injection ha with ha
  injection ha with hg
  subst hg;subst hc
  have hlt:g<w.heap.size:=(Array.getElem?_eq_some_iff.1 hh).1
  have hsz:k49.sz=2:=rfl
  rw[hsz]at hrl hr hcs ht hin
  have hcell:∀ j i:Nat,j<l0.length→i<2→cur[j * 2+i]?=some (impl_pair_36.enc (l0.toArray[j]!))[i]!:=by
    intro j i hj hi
    have hm:=k49_openM (hr j _ (List.getElem?_eq_getElem hj))
    have e1:((inner.drop (j * 2)).take 2)[i]?=cur[j * 2+i]?:=by
      rw[List.getElem?_take_of_lt hi,List.getElem?_drop,← ht,List.getElem?_take_of_lt (by omega),Array.getElem?_toList]
    rw[← e1,hm,show l0.toArray[j]! = l0[j] by rw[getElem!_pos _ _ (by simpa using hj)];simp]
    exact impl_pair_36.enc_at _ i hi
  refine ⟨fun t htl=>?_,hlt,fun d' n os hd'=>?_⟩
  · rw[Sort.size_flatK,List.size_toArray]at htl
    have hj:t / 2<l0.length:=by omega
    have e:=hcell (t / 2) (t % 2) hj (by omega)
    rw[show t / 2 * 2+t % 2=t by omega]at e
    refine ⟨?_,?_⟩
    · have e2:=impl_pair_36.flat_at l0.toArray (t / 2) (t % 2) (by simpa using hj) (by omega)
      rw[show t / 2 * 2+t % 2=t by omega]at e2
      rw[e2,Nat.zero_add]
      simp only[World.cell?,hh]
      simpa using e
    simp[World.frozen?,hh]
  have hb2:(Go.Proofs.sortWorldK impl_pair_36.enc 2 w g 0 n d' os).heap[g]?=some (.cells (Sort.putCells id 0 (Sort.flatK impl_pair_36.enc 2 d') cur) 49 (0,0)):=by
    show ((w.heap.modify g (Sort.onCells (Sort.putCells id 0 (Sort.flatK impl_pair_36.enc 2 d')))) ++ os)[g]?=_
    rw[Array.getElem?_append_left (by simpa using hlt),Array.getElem?_modify,if_pos rfl,hh]
    rfl
  have hother:∀ k,k<w.heap.size→k≠g→(Go.Proofs.sortWorldK impl_pair_36.enc 2 w g 0 n d' os).heap[k]?=w.heap[k]?:=by
    intro k hk hne
    show ((w.heap.modify g (Sort.onCells (Sort.putCells id 0 (Sort.flatK impl_pair_36.enc 2 d')))) ++ os)[k]?=_
    rw[Array.getElem?_append_left (by simpa using hk),Array.getElem?_modify,if_neg (Ne.symm hne)]
  have hsize:w.heap.size≤(Go.Proofs.sortWorldK impl_pair_36.enc 2 w g 0 n d' os).heap.size:=by
    show _≤((w.heap.modify g (Sort.onCells (Sort.putCells id 0 (Sort.flatK impl_pair_36.enc 2 d')))) ++ os).size
    rw[Array.size_append,Array.size_modify];omega
  have hcs2:(Sort.putCells id 0 (Sort.flatK impl_pair_36.enc 2 d') cur).size=cap * 2:=by unfold Sort.putCells;rw[Array.size_mapIdx,hcs]
  have hnew:∀ j i:Nat,j<l0.length→i<2→(Sort.putCells id 0 (Sort.flatK impl_pair_36.enc 2 d') cur)[j * 2+i]?=some (impl_pair_36.enc (d'[j]!))[i]!:=by
    intro j i hj hi
    have hlt2:j * 2+i<cur.size:=by rw[hcs];omega
    unfold Sort.putCells
    rw[Array.getElem?_mapIdx,Array.getElem?_eq_getElem hlt2,Option.map_some,if_pos (by rw[Sort.size_flatK];omega),Nat.sub_zero,impl_pair_36.flat_at d' j i (by omega) hi];rfl
  have hdl:d'.toList.length=l0.length:=by simpa using hd'
  have hcl:(Sort.putCells id 0 (Sort.flatK impl_pair_36.enc 2 d') cur).toList.length=cap * 2:=by rw[Array.length_toList (xs:=Sort.putCells id 0 (Sort.flatK impl_pair_36.enc 2 d') cur)];exact hcs2
  refine ⟨⟨fun k hk=>.inl (hok k hk),(Sort.putCells id 0 (Sort.flatK impl_pair_36.enc 2 d') cur).toList.take (l0.length * 2),⟨?_,.inr ⟨g,cap,_,by rw[hdl],hb,hb2,?_,hcm,hcs2,?_⟩⟩,?_,fun j p hj=>?_⟩,?_,?_⟩
  · rw[List.length_take,hcl,hdl,hsz];omega
  · rw[hdl];exact hnc
  · rw[hdl,hsz]
  · rw[List.length_take,hcl,hdl,hsz];omega
  · obtain ⟨hjl,hjp⟩:=List.getElem?_eq_some_iff.1 hj
    rw[hdl]at hjl
    have e:((((Sort.putCells id 0 (Sort.flatK impl_pair_36.enc 2 d') cur).toList.take (l0.length * 2)).drop (j * 2)).take 2)=impl_pair_36.enc p:=by
      apply List.ext_getElem?
      intro i
      by_cases hi:i<2
      · rw[List.getElem?_take_of_lt hi,List.getElem?_drop,List.getElem?_take_of_lt (by omega),Array.getElem?_toList,hnew j i hjl hi,← impl_pair_36.enc_at _ i hi,show d'[j]! = p by rw[getElem!_pos _ _ (by omega)];simpa using hjp]
      rw[List.getElem?_eq_none (by rw[List.length_take];omega),List.getElem?_eq_none (by show 2≤i;omega)]
    rw[hsz,e]
    exact k49_mkM _ _ _ p
  · exact hB.trans ⟨rfl,rfl,rfl,hsize,fun k hk=>hother k (by have:=hB.size;omega) (by omega)⟩
  exact ⟨hsize,fun i hi hn=>hother i hi (fun e=>hn (by rw[e];exact hok g rfl))⟩
theorem impl_pair_36.grown {w w':World} (hb:Below w.heap.size w w') (hd:w.drawn≤w'.drawn):∃ q os',w'=Sort.grow (w.drewN q) os':=by
  refine ⟨w'.drawn - w.drawn,w'.heap.extract w.heap.size w'.heap.size,?_⟩
  obtain ⟨heap,tape,drawn,os,output⟩:=w
  obtain ⟨heap',tape',drawn',os',output'⟩:=w'
  obtain ⟨h1,h2,h3,h4,h5⟩:=hb
  simp only at h1 h2 h3 h4 h5 hd
  subst h1;subst h2;subst h3
  have e:heap'=heap ++ heap'.extract heap.size heap'.size:=by
    apply Array.ext_getElem?
    intro i
    by_cases hi:i<heap.size
    · rw[Array.getElem?_append_left hi,h5 i hi]
    rw[Array.getElem?_append_right (by omega),Array.getElem?_extract]
    by_cases h2:i<heap'.size
    · rw[if_pos (by omega),show heap.size+(i - heap.size)=i by omega]
    rw[if_neg (by omega),Array.getElem?_eq_none (by omega)]
  unfold Sort.grow World.drewN
  simp only[World.mk.injEq,true_and,and_true]
  exact ⟨e,by omega⟩
theorem impl_pair_36.or2 (a b:Int):cmp_Or_int.f 10 [a,b]=some (if a=0 then b else a):=by
  unfold cmp_Or_int.f
  have e0:rd [a,b] 0=a:=rfl
  have e1:rd [a,b] 1=b:=rfl
  have w0:wrap64 (0+1)=1:=by unfold wrap64;omega
  have w1:wrap64 (1+1)=2:=by unfold wrap64;omega
  have l2:(([a,b].length:Nat):Int)=2:=rfl
  rw[l2]
  simp only[cmp_Or_int.l0,e0,e1,w0,w1,l2]
  by_cases ha:a=0
  · by_cases hb:b=0
    · simp[ha,hb]
    simp[ha,hb]
  simp[ha]
theorem impl_pair_36.cmpf (x y:S49):impl_meets_2.f 10 x.f0 x.f1 y.f0 y.f1=some (impl_pair_36.cf x y):=by
  have hn:∀ a:Int,cmp_isNaN_int.f a=some false:=fun a=>by unfold cmp_isNaN_int.f;simp
  have hc:∀ a b:Int,cmp_Compare_int.f a b=some (if a<b then -1 else if b<a then 1 else 0):=fun a b=>by
    unfold cmp_Compare_int.f
    rw[hn,hn,Option.bind_some,Option.bind_some,if_neg (by simp),if_neg (by simp)]
    by_cases h1:a<b
    · rw[if_pos h1,if_pos h1]
    rw[if_neg h1,if_neg h1]
    by_cases h2:b<a
    · rw[if_pos h2,if_pos h2]
    rw[if_neg h2,if_neg h2]
  unfold impl_meets_2.f impl_pair_36.cf
  rw[hc,hc,Option.bind_some,Option.bind_some,impl_pair_36.or2,Option.bind_some]
  congr 1
  by_cases h1:x.f0<y.f0
  · rw[if_pos h1,if_pos h1];rfl
  rw[if_neg h1,if_neg h1]
  by_cases h2:y.f0<x.f0
  · rw[if_pos h2,if_pos h2];rfl
  rw[if_neg h2,if_neg h2,if_pos rfl]
theorem impl_pair_36.lays_cmp (blk off size:Nat) (w:World):Go.Proofs.CmpLays Try.prog 37 #[] impl_pair_36.enc 2 impl_pair_36.cf blk off size w:=
  fun _ _ _ _ x y=>(impl_meets_2.drawn 10 x.f0 x.f1 y.f0 y.f1 _ _ (impl_pair_36.cmpf x y)).mono fun _ _ ⟨he,hb,hd⟩=>⟨he,impl_pair_36.grown hb hd⟩
def impl_pair_36.f (l0:List S49):Option (List S49):=if l0.length<1048576 then some (Sort.pdq (Go.Proofs.ltOf impl_pair_36.cf) l0.toArray 0 l0.toArray.size (Lib.bitLen l0.toArray.size) true true).toList else none
theorem impl_pair_36.calls (P0_:Nat→Prop) (u9000_:Value) (l0:List S49) (r1:List S49) (w0 w:World) (hB:Below w0.heap.size w0 w) (ho0:Kd.R k49 49 w w0.heap.size P0_ u9000_ l0) (h:impl_pair_36.f l0=some r1) :
    Calls Try.prog 36 #[u9000_,.func (.func 37) #[] #[]] w fun e w'=>e=.returned (.tuple #[])∧Kd.R k49 49 w' w0.heap.size (fun k_=>(P0_ k_∨w.heap.size≤k_)) u9000_ r1∧Below w0.heap.size w0 w'∧Kept w w' (fun k_=>P0_ k_):=by
  unfold impl_pair_36.f at h
  by_cases hl:l0.length<1048576
  · rw[if_pos hl]at h
    obtain rfl:=Option.some.inj h
    clear h
    have hsort:=Sort.pdq_sorts (Go.Proofs.ltOf impl_pair_36.cf) impl_pair_36.swo l0.toArray 0 l0.toArray.size (Lib.bitLen l0.toArray.size) true true (Nat.zero_le _) (Nat.le_refl _) (Or.inl rfl)
    have hsz:(Sort.pdq (Go.Proofs.ltOf impl_pair_36.cf) l0.toArray 0 l0.toArray.size (Lib.bitLen l0.toArray.size) true true).size=l0.length:=by simpa using hsort.1.1
    rcases Nat.eq_zero_or_pos l0.length with h0|hp
    · obtain ⟨A,c,rfl⟩:=Kd.R_slice ho0
      obtain rfl:=List.eq_nil_of_length_eq_zero h0
      have e0:(Sort.pdq (Go.Proofs.ltOf impl_pair_36.cf) ([]:List S49).toArray 0 ([]:List S49).toArray.size (Lib.bitLen ([]:List S49).toArray.size) true true).toList=[]:=List.eq_nil_of_length_eq_zero (by rw[Array.length_toList];exact hsz)
      rw[e0]
      have hcon:=Go.Proofs.AnyF.slices_SortFunc_none { impl_pair_36.lays with } A c (.func (.func 37) #[] #[]) w
      change Calls Try.prog 36 _ _ _ at hcon
      refine hcon.mono ?_
      rintro e w' ⟨rfl,rfl⟩
      exact ⟨rfl,Kd.R_mono ho0 (fun _ hk=>.inl hk),hB,Kept.refl _ _⟩
    obtain ⟨g,cap,rfl,_,_,_⟩:=Kd.R_form ho0 hp
    obtain ⟨hH,hlt,hrow⟩:=impl_pair_36.row hB ho0
    have eg:∀ args w,(callFunc 37 args).run Try.prog w=.ok (.enter 37 args) w:=Go.Proofs.enters_of Try.func37 (by kernel_rfl) rfl
    have hcon:=Go.Proofs.AnyQ.slices_SortFunc_eq impl_pair_36.lays 2 Try.isAgg49 Try.sizeOf49 impl_pair_36.enc (fun _=>rfl) (fun x v hv=>by simp[impl_pair_36.enc]at hv;rcases hv with rfl|rfl <;> rfl) impl_pair_36.cf impl_pair_36.swo 37 #[] g 0 cap l0.toArray w eg (impl_pair_36.lays_cmp g 0 _ w) hH hlt (by rw[List.size_toArray];omega)
    change Calls Try.prog 36 _ _ _ at hcon
    rw[List.size_toArray]at hcon
    refine hcon.mono ?_
    rintro e w' ⟨rfl,n,os,rfl⟩
    have:=hrow _ n os hsz
    rw[List.size_toArray]at this ⊢
    exact ⟨rfl,this⟩
  rw[if_neg hl]at h
  cases h
end Go.Proofs.Ytbfghpbmalpdbaa.MFnExactGenMeet
