import Derived.Test.YtbfghpbmalpdbaaMFnExactGenMeetx0
namespace Go.Proofs.Ytbfghpbmalpdbaa.MFnExactGenMeet
open Go.RowKit Go.Proofs.YtbfghpbmalpdbaaW.PrintWords Go.Proofs.YtbfghpbmalpdbaaW.PrintLast Go.Proofs.YtbfghpbmalpdbaaW.PrintMore Go.Proofs.Ytbfghpbmalpdbaa.Short6
attribute [local go_sem] max2_int min2_int max_two min_two max_three min_three max_four min_four
set_option linter.unusedVariables false
set_option linter.unusedSimpArgs false
section
open Go.Proofs.Ytbfghpbmalpdbaa.Short2.T
abbrev spec_l5Sort.bl0:Array Bool:=#[f,f,f,f,f,f,f,f,f,f,f,f,f,f,f,f,f,f,f,f,f,f,f,f,f,f,f,f]
abbrev spec_l5Sort.bl1:Array Bool:=#[t,f,f,f,f,f,f,f,f,f,f,f,f,f,f,f,f,f,f,f,f,f,f,f,f,f,f,f]
abbrev spec_l5Sort.bl2:Array Bool:=#[t,t,f,f,f,f,f,f,f,f,f,f,f,f,f,f,f,f,f,f,f,f,f,f,f,f,f,f]
abbrev spec_l5Sort.bl3:Array Bool:=#[t,t,t,f,f,f,f,f,f,f,f,f,f,f,f,f,f,f,f,f,f,f,f,f,f,f,f,f]
abbrev spec_l5Sort.bl4:Array Bool:=#[t,t,t,f,f,t,f,f,f,f,f,f,f,f,f,f,f,f,f,f,f,f,f,f,f,f,f,f]
abbrev spec_l5Sort.bl5:Array Bool:=#[t,t,t,f,f,t,f,f,t,f,f,f,f,f,f,f,f,f,f,f,f,f,f,f,f,f,f,f]
abbrev spec_l5Sort.bl6:Array Bool:=#[t,t,t,f,f,t,f,f,t,t,f,f,f,f,f,f,f,f,f,f,f,f,f,f,f,f,f,f]
abbrev spec_l5Sort.bl7:Array Bool:=#[t,t,t,f,f,t,f,f,t,t,f,f,t,f,f,f,f,f,f,f,f,f,f,f,f,f,f,f]
abbrev spec_l5Sort.bl8:Array Bool:=#[t,t,t,f,f,t,f,f,t,t,f,f,t,f,f,t,f,f,f,f,f,f,f,f,f,f,f,f]
abbrev spec_l5Sort.bl9:Array Bool:=#[t,t,t,f,f,t,f,f,t,t,f,f,t,f,f,t,t,f,f,f,f,f,f,f,f,f,f,f]
abbrev spec_l5Sort.bl10:Array Bool:=#[t,t,t,f,f,t,f,f,t,t,f,f,t,f,f,t,t,f,f,t,f,f,f,f,f,f,f,f]
abbrev spec_l5Sort.bl11:Array Bool:=#[t,t,t,f,f,t,f,f,t,t,f,f,t,f,f,t,t,f,f,t,t,f,f,f,f,f,f,f]
abbrev spec_l5Sort.bl12:Array Bool:=#[t,t,t,f,f,t,f,f,t,t,f,f,t,f,f,t,t,f,f,t,t,t,f,f,f,f,f,f]
abbrev spec_l5Sort.bl13:Array Bool:=#[t,t,t,t,f,t,f,f,t,t,f,f,t,f,f,t,t,f,f,t,t,t,f,f,f,f,f,f]
abbrev spec_l5Sort.bl14:Array Bool:=#[t,t,t,t,t,t,f,f,t,t,f,f,t,f,f,t,t,f,f,t,t,t,f,f,f,f,f,f]
abbrev spec_l5Sort.bl15:Array Bool:=#[t,t,t,t,t,t,t,f,t,t,f,f,t,f,f,t,t,f,f,t,t,t,f,f,f,f,f,f]
abbrev spec_l5Sort.bl16:Array Bool:=#[t,t,t,t,t,t,t,t,t,t,f,f,t,f,f,t,t,f,f,t,t,t,f,f,f,f,f,f]
abbrev spec_l5Sort.bl17:Array Bool:=#[t,t,t,t,t,t,t,t,t,t,t,f,t,f,f,t,t,f,f,t,t,t,f,f,f,f,f,f]
abbrev spec_l5Sort.bl18:Array Bool:=#[t,t,t,t,t,t,t,t,t,t,t,t,t,f,f,t,t,f,f,t,t,t,f,f,f,f,f,f]
abbrev spec_l5Sort.bl19:Array Bool:=#[t,t,t,t,t,t,t,t,t,t,t,t,t,t,f,t,t,f,f,t,t,t,f,f,f,f,f,f]
abbrev spec_l5Sort.bl20:Array Bool:=#[t,t,t,t,t,t,t,t,t,t,t,t,t,t,t,t,t,f,f,t,t,t,f,f,f,f,f,f]
abbrev spec_l5Sort.bl21:Array Bool:=#[t,t,t,t,t,t,t,t,t,t,t,t,t,t,t,t,t,t,f,t,t,t,f,f,f,f,f,f]
abbrev spec_l5Sort.bl22:Array Bool:=#[t,t,t,t,t,t,t,t,t,t,t,t,t,t,t,t,t,t,t,t,t,t,f,f,f,f,f,f]
abbrev spec_l5Sort.bl23:Array Bool:=#[t,t,t,t,t,t,t,t,t,t,t,t,t,t,t,t,t,t,t,t,t,t,t,f,f,f,f,f]
abbrev spec_l5Sort.bl24:Array Bool:=#[t,t,t,t,t,t,t,t,t,t,t,t,t,t,t,t,t,t,t,t,t,t,t,t,f,f,f,f]
abbrev spec_l5Sort.bl25:Array Bool:=#[t,t,t,t,t,t,t,t,t,t,t,t,t,t,t,t,t,t,t,t,t,t,t,t,t,f,f,f]
abbrev spec_l5Sort.bl26:Array Bool:=#[t,t,t,t,t,t,t,t,t,t,t,t,t,t,t,t,t,t,t,t,t,t,t,t,t,t,f,f]
abbrev spec_l5Sort.bl27:Array Bool:=#[t,t,t,t,t,t,t,t,t,t,t,t,t,t,t,t,t,t,t,t,t,t,t,t,t,t,t,f]
abbrev spec_l5Sort.bl28:Array Bool:=#[t,t,t,t,t,t,t,t,t,t,t,t,t,t,t,t,t,t,t,t,t,t,t,t,t,t,t,t]
end
mutual
def spec_l5Sort.l0:Nat→List Int→Int→Int→Int→Int→Int→List (S43)→Option (Int × Int × Int × Int × (List (S43)))
 | 0,_,_,_,_,_,_,_=>none
 | k+1,x3,x4,x165000,x165001,x165002,x165003,x165004=>if x4<(x165004.length:Int) then (if 0≤x4 then (if 0≤(wrap64 ((wrap64 ((wrap64 ((wrap64 (((rd_T43 x165004 x4).f0) * x165000))+((rd_T43 x165004 x4).f1))) * x165001))+((rd_T43 x165004 x4).f2))) then (if (wrap64 ((wrap64 ((wrap64 ((wrap64 (((rd_T43 x165004 x4).f0) * x165000))+((rd_T43 x165004 x4).f1))) * x165001))+((rd_T43 x165004 x4).f2)))<(x3.length:Int) then (spec_l5Sort.l0 k (x3.set ((wrap64 ((wrap64 ((wrap64 ((wrap64 (((rd_T43 x165004 x4).f0) * x165000))+((rd_T43 x165004 x4).f1))) * x165001))+((rd_T43 x165004 x4).f2))):Int).toNat (wrap64 (((rd_T43 x165004 x4).f3)+1))) (wrap64 (x4+1)) x165000 x165001 x165002 x165003 x165004) else (none)) else (none)) else (none)) else (spec_l5Sort.l1 k x3 (([]:List (S43))) 0 x165000 x165001 x165002 x165003 x165004)
def spec_l5Sort.l1:Nat→List Int→List (S43)→Int→Int→Int→Int→Int→List (S43)→Option (Int × Int × Int × Int × (List (S43)))
 | 0,_,_,_,_,_,_,_,_=>none
 | k+1,x3,x6,x7,x165000,x165001,x165002,x165003,x165004=>if x7<(x3.length:Int) then (if 0≤x7 then (if (rd x3 x7)>0 then (if x165001=0 then (none) else (if x165000=0 then (none) else (if x6.length<4398046511104 then (spec_l5Sort.l1 k x3 (x6 ++ [(⟨wrap64 (Int.tdiv (wrap64 (Int.tdiv x7 x165001)) x165000),Int.tmod (wrap64 (Int.tdiv x7 x165001)) x165000,Int.tmod x7 x165001,wrap64 ((rd x3 x7) - 1)⟩:S43)]) (wrap64 (x7+1)) x165000 x165001 x165002 x165003 x165004) else (none)))) else (spec_l5Sort.l1 k x3 x6 (wrap64 (x7+1)) x165000 x165001 x165002 x165003 x165004)) else (none)) else (some (x165000,x165001,x165002,x165003,x6))
end
def spec_l5Sort.f (k:Nat) (a0_0:Int) (a0_1:Int) (a0_2:Int) (a0_3:Int) (l0_4:List (S43)):Option (Int × Int × Int × Int × (List (S43))):=if 0≤(wrap64 ((wrap64 (a0_1 * a0_0)) * a0_1)) then (if (wrap64 ((wrap64 (a0_1 * a0_0)) * a0_1):Int).toNat≤35184372088832 then (spec_l5Sort.l0 k (List.replicate (wrap64 ((wrap64 (a0_1 * a0_0)) * a0_1):Int).toNat 0) 0 a0_0 a0_1 a0_2 a0_3 l0_4) else (none)) else (none)
theorem spec_l5Sort.mono_l:∀ k,(∀ y0 y1 y2 y3 y4 y5 y6,LeO (spec_l5Sort.l0 k y0 y1 y2 y3 y4 y5 y6) (spec_l5Sort.l0 (k+1) y0 y1 y2 y3 y4 y5 y6))∧(∀ y0 y1 y2 y3 y4 y5 y6 y7,LeO (spec_l5Sort.l1 k y0 y1 y2 y3 y4 y5 y6 y7) (spec_l5Sort.l1 (k+1) y0 y1 y2 y3 y4 y5 y6 y7))
 | 0=>⟨fun _ _ _ _ _ _ _ r h=>by simp[spec_l5Sort.l0]at h,fun _ _ _ _ _ _ _ _ r h=>by simp[spec_l5Sort.l1]at h⟩
 | k+1=>by
  obtain ⟨ih0,ih1⟩:=spec_l5Sort.mono_l k;refine ⟨?_,?_⟩
  ·intro y0 y1 y2 y3 y4 y5 y6;unfold spec_l5Sort.l0;repeat' first
   | (with_reducible exact ih0 _ _ _ _ _ _ _)
   | (with_reducible exact ih1 _ _ _ _ _ _ _ _)
   | (with_reducible exact LeO.refl _)
   | (with_reducible exact LeO.none _)
   | (with_reducible refine LeO.ite ?_ ?_)
   | (with_reducible refine LeO.bind ?_ (fun _=>?_))
   | exact ih0 _ _ _ _ _ _ _
   | exact ih1 _ _ _ _ _ _ _ _
   | exact LeO.none _
   | refine LeO.ite ?_ ?_
   | refine LeO.bind ?_ (fun _=>?_)
  intro y0 y1 y2 y3 y4 y5 y6 y7;unfold spec_l5Sort.l1;repeat' first
  | (with_reducible exact ih0 _ _ _ _ _ _ _)
  | (with_reducible exact ih1 _ _ _ _ _ _ _ _)
  | (with_reducible exact LeO.refl _)
  | (with_reducible exact LeO.none _)
  | (with_reducible refine LeO.ite ?_ ?_)
  | (with_reducible refine LeO.bind ?_ (fun _=>?_))
  | exact ih0 _ _ _ _ _ _ _
  | exact ih1 _ _ _ _ _ _ _ _
  | exact LeO.none _
  | refine LeO.ite ?_ ?_
  | refine LeO.bind ?_ (fun _=>?_)
theorem spec_l5Sort.mono:∀ a0 a1 a2 a3 a4 k,LeO (spec_l5Sort.f k a0 a1 a2 a3 a4) (spec_l5Sort.f (k+1) a0 a1 a2 a3 a4):=by
 intro a0 a1 a2 a3 a4 k;obtain ⟨ih0,ih1⟩:=spec_l5Sort.mono_l k;unfold spec_l5Sort.f;repeat' first
   | (with_reducible exact ih0 _ _ _ _ _ _ _)
   | (with_reducible exact ih1 _ _ _ _ _ _ _ _)
   | (with_reducible exact LeO.refl _)
   | (with_reducible exact LeO.none _)
   | (with_reducible refine LeO.ite ?_ ?_)
   | (with_reducible refine LeO.bind ?_ (fun _=>?_))
   | exact ih0 _ _ _ _ _ _ _
   | exact ih1 _ _ _ _ _ _ _ _
   | exact LeO.none _
   | refine LeO.ite ?_ ?_
   | refine LeO.bind ?_ (fun _=>?_)
def spec_l5Sort.T12:Bool × List (List Nat × List Nat):=(true,[([],[]),([],[]),([],[]),([2],[2]),([1,3],[1,3]),([],[]),([5],[5]),([4,6],[4,6]),([],[]),([],[]),([9],[9]),([8,10],[8,10]),([],[]),([12],[12]),([11,13],[11,13]),([],[]),([],[]),([16],[16]),([15,17],[15,17]),([],[]),([],[]),([19,20],[19,20]),([21],[21]),([22],[22]),([7,14,18,23],[7,14,18,23]),([24],[24]),([0,25],[0,25]),([26,26,0,1,2,3,4,5,6,7,8,9,10,11,12,13,14,15,16,17,18,19,20,21,22,23,24,25,26],[0,26])])
def spec_l5Sort.B12:List Nat:=[0,0,0,4,14,0,32,126,0,0,512,1792,0,4096,16128,0,0,65536,229376,0,0,1572864,3670016,7864320,16777214,33554430,67108863,134217727]
theorem spec_l5Sort.tab12:rtab .any (opsOf Try.f16 12)=spec_l5Sort.T12:=by kernel_rfl
theorem spec_l5Sort.bits12:waitsOk spec_l5Sort.T12.2 spec_l5Sort.B12=true:=by kernel_rfl
open Go.Proofs.Ytbfghpbmalpdbaa.Short2 in
set_option maxHeartbeats 8000000 in
set_option maxRecDepth 100000 in
theorem spec_l5Sort.calls (k:Nat) (a0_0:Int) (a0_1:Int) (a0_2:Int) (a0_3:Int) (A0_4:Option Addr) (c0_4:Nat) (l0_4:List (S43)) (r1:Int) (r2:Int) (r3:Int) (r4:Int) (r5:List (S43)) (w:World) (hr0_4:Kd.C k43 w A0_4 l0_4.length l0_4) (hc0_4:l0_4.length≤c0_4) (h:spec_l5Sort.f k a0_0 a0_1 a0_2 a0_3 l0_4=some (r1,r2,r3,r4,r5)) :
  Calls Try.prog 16 #[.agg #[.int .i64 a0_0,.int .i64 a0_1,.int .i64 a0_2,.int .i64 a0_3,.slice A0_4 l0_4.length c0_4]] w fun e w'=>∃ v4_:Value,e=.returned (.agg #[.int .i64 r1,.int .i64 r2,.int .i64 r3,.int .i64 r4,v4_])∧Kd.R k43 43 w' w.heap.size (fun _=>True) v4_ r5∧Below w.heap.size w w':=by
 have hu28:=Try.underlying28;have hu43:=Try.underlying43;have HR0_4:=Aside0.mk hr0_4;have HC0_4:=Aside0.mk hc0_4;clear hr0_4 hc0_4;have HB:=Aside0.mk (Below.refl w.heap.size w);have H:(if 0≤(wrap64 ((wrap64 (a0_1 * a0_0)) * a0_1)) then (if (wrap64 ((wrap64 (a0_1 * a0_0)) * a0_1):Int).toNat≤35184372088832 then (spec_l5Sort.l0 k (List.replicate (wrap64 ((wrap64 (a0_1 * a0_0)) * a0_1):Int).toNat 0) 0 a0_0 a0_1 a0_2 a0_3 l0_4) else (none)) else (none))=some (r1,r2,r3,r4,r5):=h;clear h;obtain ⟨ji2,hji2⟩:∃ j_:Int,(wrap64 ((wrap64 (a0_1 * a0_0)) * a0_1))=j_:=⟨_,rfl⟩;replace H:(if 0≤(ji2) then (if (ji2:Int).toNat≤35184372088832 then (spec_l5Sort.l0 k (List.replicate (ji2:Int).toNat 0) 0 a0_0 a0_1 a0_2 a0_3 l0_4) else (none)) else (none))=some (r1,r2,r3,r4,r5):=by first|(rw[hji2]at H;exact H)|(simp only[hji2]at H ⊢;exact H)
 have hji2w:(IntKind.i64.wrap ((wrap64 (a0_1 * a0_0)) * a0_1))=ji2:=(i64_w _).trans hji2;by_cases c3:0≤(ji2)
 ·rw[if_pos c3]at H;have cl:=eq_true c3;have cm:decide (0≤(ji2))=true:=decide_eq_true c3;clear c3;by_cases c4:(ji2:Int).toNat≤35184372088832
  ·rw[if_pos c4]at H;have cn:=eq_true c4;have co:decide ((ji2:Int).toNat≤35184372088832)=true:=decide_eq_true c4;clear c4;obtain ⟨cp,aj⟩:∃ y_:List Int,y_=(List.replicate (ji2:Int).toNat 0):=⟨_,rfl⟩;replace H:(spec_l5Sort.l0 k cp 0 a0_0 a0_1 a0_2 a0_3 l0_4)=some (r1,r2,r3,r4,r5):=by first|(rw[aj];with_reducible exact H)|(have H2_:=(Option.bind_some _ _).symm.trans H;rw[aj];with_reducible exact H2_)|(have H2_:=(Option.bind_some _ _).symm.trans H;with_reducible exact H2_)|with_reducible exact H|(rw[aj];exact H)|exact H
   have bh:=Aside0.mk aj;clear aj;have H':=Aside0.mk H;clear H;go_enter Try.func16,Try.ntmps16;go_wp2_with (first|((with_reducible refine gate_dst (N:=1) rfl ?_);refine bx_ 1 #[.int .i64 a0_0,.int .i64 a0_1,.int .i64 a0_2,.int .i64 a0_3,.slice A0_4 l0_4.length c0_4] 28 ?_;intro ad hg w5 hbox hb;have aa:=Aside0.mk (hbox);have dk:=xG HB hg;have dl:=xG HB hg;replace HB:=xS HB hb;clear hb hbox hg)|((with_reducible refine gate_dst (N:=2) rfl ?_);refine bx_ 2 #[.int .i64 0,.int .i64 0,.int .i64 0,.int .i64 0,.slice none 0 0] 28 ?_;intro ae hg w6 hbox hb;have ab:=Aside0.mk (hbox);have dm:=xG HB hg;have dn:=xG HB hg;replace HB:=xS HB hb;have ag:=xN aa hg;have aA:=xM aa hg;replace aa:=xB aa hb;clear hb hbox hg;obtain ⟨dH,dI⟩:=nn ag;obtain ⟨aC,aD,aE,aG,aH,aI,aJ,aK,aM,aN⟩:=cz5 aa)|((with_reducible refine gate_dst (N:=16) rfl ?_);refine Kd.R_make (Kd.int .i64) _ 3 rfl (N:=16) rfl 37 _ _ rfl ji2 rfl rfl Try.underlying37 (.int .i64 0) 8 info3 rfl (by decide) (by omega) 0 (ok:=fun _=>True) (okp:=fun _=>True) rfl (fun _ hk=>hk) trivial (oD) (Nat.le_trans (Nat.mul_le_mul_right _ (oD:ji2.toNat≤35184372088832)) (by omega)) (Below.refl _ _) (Nat.le_refl _) ?_;intro bc w9 ho10 hb hg_ hnew_;clear hg_ hnew_;(first|rw[← bh.out]at ho10|(simp only[Int.reduceToNat]at ho10;rw[← bh.out]at ho10));have cx:=rW0 ho10 HB;replace aa:=xB aa hb;replace ab:=xB ab hb;replace HB:=xS HB hb;clear hb ho10));go_loopg [4] k (fun kq v4 w'=>∃ (x3_1:List Int) (x4_1:Int),v4=.int .i64 x4_1∧Aside0 (spec_l5Sort.l0 kq x3_1 x4_1 a0_0 a0_1 a0_2 a0_3 l0_4=some (r1,r2,r3,r4,r5))∧Aside0 (kq≤k)∧Aside0 (Kd.R (Kd.int .i64) 3 w' w.heap.size (fun _=>True) bc x3_1)∧Aside0 (w'.heap[ad]?=some (.cells #[.int .i64 a0_0,.int .i64 a0_1,.int .i64 a0_2,.int .i64 a0_3,(.slice A0_4 l0_4.length c0_4)] 28 (0,0)))∧Aside0 (w'.heap[ae]?=some (.cells #[.int .i64 0,.int .i64 0,.int .i64 0,.int .i64 0,(.slice none 0 0)] 28 (0,0)))∧Aside0 (Below w.heap.size w w'))
   case atStart=>exact ⟨(cp),(0),vv,H',⟨Nat.le_refl _⟩,⟨zR cx.out⟩,⟨zB aa.out⟩,⟨zB ab.out⟩,⟨zS HB.out⟩⟩
   case round=>
    clear H';try clear c1
    try clear p2
    try clear c3
    try clear cl
    try clear cm
    try clear c4
    try clear cn
    try clear co
    try clear p6
    try clear c7
    try clear aC aD aE aG aH aI aJ aK aM aN
    obtain ⟨x3_1,x4_1,rfl,HA,HK1,ac,aa,ab,HB⟩:=hrel
    cases gk with
    | zero=>exact absurd HA.out (by simp[spec_l5Sort.l0])
    | succ k1=>
     have H:=HA.out;clear HA;simp only[spec_l5Sort.l0]at H;by_cases au:x4_1<(l0_4.length:Int)
     ·rw[if_pos au]at H;have bi:decide (x4_1<(l0_4.length:Int))=true:=decide_eq_true au;clear au;by_cases aQ:0≤x4_1
      ·rw[if_pos aQ]at H;have cy:decide (0≤x4_1)=true:=decide_eq_true aQ;clear aQ;obtain ⟨ji13,hji13⟩:∃ j_:Int,(wrap64 ((wrap64 ((wrap64 ((wrap64 (((rd_T43 l0_4 x4_1).f0) * a0_0))+((rd_T43 l0_4 x4_1).f1))) * a0_1))+((rd_T43 l0_4 x4_1).f2)))=j_:=⟨_,rfl⟩;replace H:(if 0≤(ji13) then (if (ji13)<(x3_1.length:Int) then (spec_l5Sort.l0 k1 (x3_1.set ((ji13):Int).toNat (wrap64 (((rd_T43 l0_4 x4_1).f3)+1))) (wrap64 (x4_1+1)) a0_0 a0_1 a0_2 a0_3 l0_4) else (none)) else (none))=some (r1,r2,r3,r4,r5):=by first|(rw[hji13]at H;exact H)|(simp only[hji13]at H ⊢;exact H)
       have hji13w:(IntKind.i64.wrap ((wrap64 ((wrap64 ((wrap64 (((rd_T43 l0_4 x4_1).f0) * a0_0))+((rd_T43 l0_4 x4_1).f1))) * a0_1))+((rd_T43 l0_4 x4_1).f2)))=ji13:=(i64_w _).trans hji13;by_cases aR:0≤(ji13)
       ·rw[if_pos aR]at H;have cz:decide (0≤(ji13))=true:=decide_eq_true aR;clear aR;by_cases aT:(ji13)<(x3_1.length:Int)
        ·rw[if_pos aT]at H;have cA:decide ((ji13)<(x3_1.length:Int))=true:=decide_eq_true aT;clear aT;obtain ⟨bd,ak⟩:∃ y_:List Int,y_=(x3_1.set ((ji13):Int).toNat (wrap64 (((rd_T43 l0_4 x4_1).f3)+1))):=⟨_,rfl⟩;replace H:(spec_l5Sort.l0 k1 bd (wrap64 (x4_1+1)) a0_0 a0_1 a0_2 a0_3 l0_4)=some (r1,r2,r3,r4,r5):=by first|(rw[ak];with_reducible exact H)|(have H2_:=(Option.bind_some _ _).symm.trans H;rw[ak];with_reducible exact H2_)|(have H2_:=(Option.bind_some _ _).symm.trans H;with_reducible exact H2_)|with_reducible exact H|(rw[ak];exact H)|exact H
         have cB:=Aside0.mk ak;clear ak;have H':=Aside0.mk H;clear H;obtain ⟨dp,dq⟩:=nn ag;obtain ⟨bo,bp,bq,br,bs,bt,bu,bv,bw,bx⟩:=cz5 aa;have az:0≤(x4_1:Int):=oD;have q169:x4_1<(l0_4.length:Int):=oD;obtain ⟨ad169,e169,ao,ap,aq,ar⟩:=at_T43 HR0_4.out x4_1 az q169
         cases e169
         replace ao:=ct_ HB ao;replace ap:=ct_ HB ap;replace aq:=ct_ HB aq;replace ar:=ct_ HB ar;replace az:=eq_true az;replace q169:=eq_true q169;go_wp2_with (first|((with_reducible refine gate_dst (N:=5) rfl ?_);refine bx_ 5 #[.int .i64 0,.int .i64 0,.int .i64 0,.int .i64 0] 43 ?_;intro al hg dj hbox hb;replace ac:=xR ac hb;have ah:=Aside0.mk (hbox);have dr:=xG HB hg;have dt:=xG HB hg;replace HB:=xS HB hb;have cH:=xN aa hg;have aU:=xM aa hg;replace aa:=xB aa hb;have cI:=xN ab hg;have aV:=xM ab hg;replace ab:=xB ab hb;clear hb hbox hg;obtain ⟨du,dv⟩:=nn aU;obtain ⟨dw,dx⟩:=nn aV;obtain ⟨bz,bA,bB,bC,bD,bE,bF,bH⟩:=cz4 ah)|((with_reducible refine gate_store (t:=43) (p:=5) rfl ?_);refine store_event (t:=43) (p:=5) (v:=?vo_w23) (w1:=((((dj.setCell ⟨al,0,none⟩ (.int .i64 ((rd_T43 l0_4 x4_1).f0))).setCell ⟨al,1,none⟩ (.int .i64 ((rd_T43 l0_4 x4_1).f1))).setCell ⟨al,2,none⟩ (.int .i64 ((rd_T43 l0_4 x4_1).f2))).setCell ⟨al,3,none⟩ (.int .i64 ((rd_T43 l0_4 x4_1).f3)))) ?hg ?ho ?hn ?hr ?_;(case ho=>rfl);(case hg=>rfl);(case hn=>rfl);(case hr=>first|(go_simp;done)|(go_simp;rfl));intro av hw;have aW:Aside0 (Kd.R (Kd.int .i64) 3 av w.heap.size (fun _=>True) bc x3_1):=⟨(by rw[hw];exact (rM (Aside0.mk (yF4 ac ah)) (fun _ hk=>trivial)))⟩;have aX:Aside0 (av.heap[ad]?=some (.cells #[.int .i64 a0_0,.int .i64 a0_1,.int .i64 a0_2,.int .i64 a0_3,.slice (some ad169) l0_4.length c0_4] 28 (0,0))):=⟨(by rw[hw];exact (zB aa.out))⟩;have aY:Aside0 (av.heap[ae]?=some (.cells #[.int .i64 0,.int .i64 0,.int .i64 0,.int .i64 0,.slice none 0 0] 28 (0,0))):=⟨(by rw[hw];exact (zB ab.out))⟩;have aZ:Aside0 (av.heap[al]?=some (.cells #[.int .i64 ((rd_T43 l0_4 x4_1).f0),.int .i64 ((rd_T43 l0_4 x4_1).f1),.int .i64 ((rd_T43 l0_4 x4_1).f2),.int .i64 ((rd_T43 l0_4 x4_1).f3)] 43 (0,0))):=⟨(by rw[hw];exact (xP4 ah.out))⟩;have ba:Aside0 (Below w.heap.size w av):=⟨(by rw[hw];exact (zS HB.out))⟩;clear hw;clear ac;clear aa;clear ab;clear ah;clear HB;have ac:=aW;have aa:=aX;have ab:=aY;have ah:=aZ;have HB:=ba;clear aW aX aY aZ ba;obtain ⟨bI,bJ,bK,bL,bM,bN,bO,bP⟩:=cz4 ah;obtain ⟨bQ,bR,bS,bT,bU,bV,bW,bX,bY,bZ⟩:=cz5 aa;have bb:0≤((ji13):Int):=oD;have q16:((ji13):Int)<((x3_1.length:Int):Int):=oD;obtain ⟨go16,cJ,cq,cr,gl16,cl16,HG16⟩:=Kd.R_form ac.out (by omega);(first|cases cq|(injection cq with ea_ en_ ec_;(first|subst ea_|(injection ea_ with ea_;subst ea_));subst ec_;clear en_));have GB16:=Aside0.mk cr;have GG16:=Aside0.mk HG16;clear cr gl16 HG16;obtain ⟨ct,hf16_0⟩:=Kd.R_celln 0 ac.out ((ji13):Int) bb q16;replace bb:=eq_true bb;replace q16:=eq_true q16;obtain ⟨hy26_,hz26_⟩:=Kd.R_celln 0 ac.out ((ji13):Int) (oD) (oD);have HP26:=Kd.R_putg ac.out ((ji13):Int) (wrap64 (((rd_T43 l0_4 x4_1).f3)+1)))|((with_reducible refine gate_store (t:=3) (p:=47) rfl ?_);refine store_event (t:=3) (p:=47) (v:=?vo_w27) (w1:=(av.setCell ⟨go16,((ji13):Int).toNat,none⟩ (.int .i64 (wrap64 (((rd_T43 l0_4 x4_1).f3)+1))))) ?hg ?ho ?hn ?hr ?_;(case ho=>rfl);(case hg=>rfl);(case hn=>rfl);(case hr=>first|(go_simp;done)|(go_simp;rfl));intro cu hw;have hg:av.grownBy cu (some go16):=(by rw[hw];exact HP26.2);have hp_:Kd.R (Kd.int .i64) 3 cu w.heap.size (fun _=>True) (.slice (some ⟨go16,0,none⟩) x3_1.length cJ) bd:=(by rw[hw,cB.out];exact HP26.1);clear HP26;replace aa:=bG aa hg ac;replace ab:=bG ab hg ac;replace ah:=bG ah hg ac;replace ac:=Aside0.mk (hp_);replace HB:=Aside0.mk ((by rw[hw];exact below_set (HB.out) GB16.out:Below w.heap.size w cu));clear hg hw hp_))
         (first|go_roundg k1|((try simp only[← hji2]);(try simp only[← hji13]);go_roundg k1))
         case measure=>have:=HK1.out;omega
         case rel=>exact ⟨(bd),(wrap64 (x4_1+1)),vv,(by first|exact H' | (have h_:=H';(try simp only[← hji2]at h_);(try simp only[← hji2]);(try simp only[← hji13]at h_);(try simp only[← hji13]);exact h_)),⟨by have:=HK1.out;omega⟩,⟨zR ac.out⟩,⟨zB aa.out⟩,⟨zB ab.out⟩,⟨zS HB.out⟩⟩
        rw[if_neg aT]at H;exact absurd H (by simp)
       rw[if_neg aR]at H;exact absurd H (by simp)
      rw[if_neg aQ]at H;exact absurd H (by simp)
     rw[if_neg au]at H;have bi:decide (x4_1<(l0_4.length:Int))=false:=decide_eq_false au;clear au;obtain ⟨cv,am⟩:∃ y_:List (S43),y_=(([]:List (S43))):=⟨_,rfl⟩;replace H:(spec_l5Sort.l1 k1 x3_1 cv 0 a0_0 a0_1 a0_2 a0_3 l0_4)=some (r1,r2,r3,r4,r5):=by first|(rw[am];with_reducible exact H)|(have H2_:=(Option.bind_some _ _).symm.trans H;rw[am];with_reducible exact H2_)|(have H2_:=(Option.bind_some _ _).symm.trans H;with_reducible exact H2_)|with_reducible exact H|(rw[am];exact H)|exact H
     have bj:=Aside0.mk am;clear am;have H':=Aside0.mk H;clear H;obtain ⟨dy,dz⟩:=nn ag;obtain ⟨ca,cb,cc,cd,ce,cf,cg,ch,ci,cj⟩:=cz5 aa;go_wp2_with (first|((with_reducible refine gate_dst (N:=48) rfl ?_);refine Kd.R_lit k43 _ 43 ?hg (N:=48) ?hd (xs:=([]:List (S43))) (inner:=[]) (ok:=fun _=>True) (okp:=fun _=>True) ?hr ?hp (fun _ hk=>hk) trivial (Below.refl _ _) (Nat.le_refl _) (by simp) ?_;(case hd=>rfl);(case hg=>rfl);(case hr=>first|(go_simp;done)|(go_simp;rfl));(case hp=>exact (Reps.none _ _));intro dJ dR ho31 hb hg_ hnew_;clear hg_ hnew_;(first|rw[← bj.out]at ho31|(simp only[Int.reduceToNat]at ho31;rw[← bj.out]at ho31));replace ac:=xR ac hb;have cC:=rW0 ho31 HB;replace aa:=xB aa hb;replace ab:=xB ab hb;replace HB:=xS HB hb;clear hb ho31));go_loopg [6,7] k1 (fun kq v6 v7 w'=>∃ (x6_2:List (S43)) (x7_2:Int),v7=.int .i64 x7_2∧Aside0 (spec_l5Sort.l1 kq x3_1 x6_2 x7_2 a0_0 a0_1 a0_2 a0_3 l0_4=some (r1,r2,r3,r4,r5))∧Aside0 (kq≤k1)∧Aside0 (Kd.R (Kd.int .i64) 3 w' w.heap.size (fun _=>True) bc x3_1)∧Aside0 (Kd.R k43 43 w' w.heap.size (fun _=>True) v6 x6_2)∧Aside0 (w'.heap[ad]?=some (.cells #[.int .i64 a0_0,.int .i64 a0_1,.int .i64 a0_2,.int .i64 a0_3,(.slice A0_4 l0_4.length c0_4)] 28 (0,0)))∧Aside0 (w'.heap[ae]?=some (.cells #[.int .i64 0,.int .i64 0,.int .i64 0,.int .i64 0,(.slice none 0 0)] 28 (0,0)))∧Aside0 (Below w.heap.size w w'))
     case atStart=>exact ⟨(cv),(0),vv,H',⟨Nat.le_refl _⟩,⟨zR ac.out⟩,⟨zR cC.out⟩,⟨zB aa.out⟩,⟨zB ab.out⟩,⟨zS HB.out⟩⟩
     case round=>
      clear H';try clear c1
      try clear p1
      try clear q1
      try clear hx1
      try clear hf1
      try clear c2
      try clear p2
      try clear c3
      try clear cl
      try clear cm
      try clear c4
      try clear cn
      try clear co
      try clear p6
      try clear c7
      try clear au
      try clear bi
      try clear aQ
      try clear cy
      try clear aR
      try clear cz
      try clear aT
      try clear cA
      try clear dS
      try clear bb
      try clear q16
      try clear hx16
      try clear hf16
      try clear dT
      try clear dU
      try clear dV
      try clear dW
      try clear bo bp bq br bs
      try clear bz bA bB bC
      try clear bI bJ bK bL
      try clear bQ bR bS bT bU
      try clear ca cb cc cd ce
      try clear aC aD aE aG aH
      try clear bt bu bv bw bx
      try clear bD bE bF bH
      try clear bM bN bO bP
      try clear bV bW bX bY bZ
      try clear cf cg ch ci cj
      try clear aI aJ aK aM aN
      try clear ao
      try clear ap
      try clear aq
      try clear ar
      try clear ct
      try clear bb
      try clear az
      try clear p2
      try clear p6
      try clear q16
      try clear q169
      obtain ⟨x6_2,x7_2,rfl,HA,HK2,ac,af,aa,ab,HB⟩:=hrel
      cases gk with
      | zero=>exact absurd HA.out (by simp[spec_l5Sort.l1])
      | succ k2=>
       have H:=HA.out;clear HA;simp only[spec_l5Sort.l1]at H;by_cases aw:x7_2<(x3_1.length:Int)
       ·rw[if_pos aw]at H;have cD:decide (x7_2<(x3_1.length:Int))=true:=decide_eq_true aw;clear aw;by_cases bk:0≤x7_2
        ·rw[if_pos bk]at H;have dA:decide (0≤x7_2)=true:=decide_eq_true bk;clear bk;by_cases ax:(rd x3_1 x7_2)>0
         ·rw[if_pos ax]at H;have cE:decide (0<(rd x3_1 x7_2))=true:=decide_eq_true ax;clear ax;by_cases bl:a0_1=0
          ·rw[if_pos bl]at H;exact absurd H (by simp)
          rw[if_neg bl]at H;have dB:(a0_1 == 0)=false:=beq_eq_false_iff_ne.mpr bl;have dC:(a0_1 != 0)=true:=bne_iff_ne.mpr bl;by_cases bm:a0_0=0
          ·rw[if_pos bm]at H;exact absurd H (by simp)
          rw[if_neg bm]at H;have dD:(a0_0 == 0)=false:=beq_eq_false_iff_ne.mpr bm;have dE:(a0_0 != 0)=true:=bne_iff_ne.mpr bm;by_cases bn:x6_2.length<4398046511104
          ·rw[if_pos bn]at H;have LMc37:=Aside0.mk bn;clear bn;obtain ⟨cw,an⟩:∃ y_:List (S43),y_=(x6_2 ++ [(⟨wrap64 (Int.tdiv (wrap64 (Int.tdiv x7_2 a0_1)) a0_0),Int.tmod (wrap64 (Int.tdiv x7_2 a0_1)) a0_0,Int.tmod x7_2 a0_1,wrap64 ((rd x3_1 x7_2) - 1)⟩:S43)]):=⟨_,rfl⟩;replace H:(spec_l5Sort.l1 k2 x3_1 cw (wrap64 (x7_2+1)) a0_0 a0_1 a0_2 a0_3 l0_4)=some (r1,r2,r3,r4,r5):=by first|(rw[an];with_reducible exact H)|(have H2_:=(Option.bind_some _ _).symm.trans H;rw[an];with_reducible exact H2_)|(have H2_:=(Option.bind_some _ _).symm.trans H;with_reducible exact H2_)|with_reducible exact H|(rw[an];exact H)|exact H
           have cF:=Aside0.mk an;clear an;have H':=Aside0.mk H;clear H;obtain ⟨dK,dL,cK⟩:=Kd.R_slice ac.out;subst cK;have ai:0≤(x7_2:Int):=oD;have q175:x7_2<(x3_1.length:Int):=oD;obtain ⟨ad175,e175,ck⟩:=Kd.at_int (Kd.R_reads' ac.out).2.2 x7_2 ai q175
           cases e175
           replace ai:=eq_true ai;replace q175:=eq_true q175;try go_wp2
           replace ac:=Aside0.mk (Kd.R_drew ac.out);replace af:=Aside0.mk (Kd.R_drew af.out);replace aa:=Aside0.mk (blk_drew aa.out);replace ab:=Aside0.mk (blk_drew ab.out);replace HB:=Aside0.mk (below_drew1 HB.out);have be:0≤(x7_2:Int):=oD;have q176:x7_2<(x3_1.length:Int):=oD;obtain ⟨ad176,e176,ay⟩:=Kd.at_int (Kd.R_reads' ac.out).2.2 x7_2 be q176;obtain rfl:ad175=ad176:=(by injection e176);replace be:=eq_true be;replace q176:=eq_true q176;refine start_ (n:=28) (S:=fun w'=>w'.cell? ⟨ad,0,none⟩=some (.int .i64 a0_0)∧w'.cell? ⟨ad,1,none⟩=some (.int .i64 a0_1)∧w'.cell? ⟨ad,2,none⟩=some (.int .i64 a0_2)∧w'.cell? ⟨ad,3,none⟩=some (.int .i64 a0_3)∧w'.cell? ⟨ad,4,none⟩=some (.slice A0_4 l0_4.length c0_4)∧w'.cell? (ad175.add (x7_2).toNat)=some (.int .i64 (rd x3_1 x7_2))) (ds:=[25,26]) bl0 (by kernel_rfl) rfl rfl ⟨b1 aa 0,b1 aa 1,b1 aa 2,b1 aa 3,b1 aa 4,ay⟩ (fun hHeld=>?_);refine with_tabW spec_l5Sort.tab12 spec_l5Sort.bits12 (fun HT_ HW_=>?_);generalize wr.drew=dX at ac af aa ab HB ay hHeld ⊢;refine pv_ 0 (some 60) bl1 HT_ ?_
           refine pv_ 1 (some 61) bl2 HT_ ?_
           refine pv_ 2 (some 62) bl3 HT_ ?_
           refine pv_ 5 (some 65) bl4 HT_ ?_
           refine pv_ 8 (some 68) bl5 HT_ ?_
           refine pv_ 9 (some 69) bl6 HT_ ?_
           refine pv_ 12 (some 72) bl7 HT_ ?_
           refine pv_ 15 (some 75) bl8 HT_ ?_
           refine pv_ 16 (some 76) bl9 HT_ ?_
           refine pv_ 19 (some 79) bl10 HT_ ?_
           refine pv_ 20 (some 80) bl11 HT_ ?_
           refine pv_ 21 (some 81) bl12 HT_ ?_
           refine tk_ 3 (some 63) bl13 HT_ HW_ hHeld ?_
           refine pv_ 4 (some 64) bl14 HT_ ?_
           refine tk_ 6 (some 66) bl15 HT_ HW_ hHeld ?_
           refine pv_ 7 (some 67) bl16 HT_ ?_
           refine tk_ 10 (some 70) bl17 HT_ HW_ hHeld ?_
           refine pv_ 11 (some 71) bl18 HT_ ?_
           refine tk_ 13 (some 73) bl19 HT_ HW_ hHeld ?_
           refine pv_ 14 (some 74) bl20 HT_ ?_
           refine tk_ 17 (some 77) bl21 HT_ HW_ hHeld ?_
           refine pv_ 18 (some 78) bl22 HT_ ?_
           refine tk_ 22 (some 82) bl23 HT_ HW_ hHeld ?_
           refine pv_ 23 (some 83) bl24 HT_ ?_
           refine pv_ 24 (some 84) bl25 HT_ ?_
           refine last_ (i:=25) (N:=some 85) bl26 rfl rfl (one_of HT_.out (by kernel_rfl)) (by decide) (fun K hK=>?_);refine value_ (w1:=?_) (v:=?_) (by rfl) rfl ?_ ?_;rotate_left 2
           ·go_simp;constructor
            ·rfl
            rfl
           refine hK.out _ _ ?_;clear hK K;refine nr_ (some 85) ?_
           refine last_ (i:=26) (N:=some 86) bl27 rfl rfl (one_of HT_.out (by kernel_rfl)) (by decide) (fun K hK=>?_);refine Kd.R_append_step k43 (w0:=w) w.heap.size (by rfl) (.tmp 60) (.tmp 85) 26 43 (.agg #[(.int .i64 0),(.int .i64 0),(.int .i64 0),(.int .i64 0)]) 32 rfl Try.underlying26 info43 rfl (by decide) (by omega) u6 x6_2 (⟨wrap64 (Int.tdiv (wrap64 (Int.tdiv x7_2 a0_1)) a0_0),Int.tmod (wrap64 (Int.tdiv x7_2 a0_1)) a0_0,Int.tmod x7_2 a0_1,wrap64 ((rd x3_1 x7_2) - 1)⟩:S43) [.int .i64 (wrap64 (Int.tdiv (wrap64 (Int.tdiv x7_2 a0_1)) a0_0)),.int .i64 (Int.tmod (wrap64 (Int.tdiv x7_2 a0_1)) a0_0),.int .i64 (Int.tmod x7_2 a0_1),.int .i64 (wrap64 ((rd x3_1 x7_2) - 1))] (fun _=>True) (fun _=>False) rfl rfl ?aP (fun _ hk=>hk.elim) ?aF ?aO ?aB ?aS ?aL ?_
           (case aP=>exact k43_mkM _ _ _ (⟨wrap64 (Int.tdiv (wrap64 (Int.tdiv x7_2 a0_1)) a0_0),Int.tmod (wrap64 (Int.tdiv x7_2 a0_1)) a0_0,Int.tmod x7_2 a0_1,wrap64 ((rd x3_1 x7_2) - 1)⟩:S43));(case aB=>exact (zS HB.out));(case aF=>exact (fun _ _=>trivial));(case aO=>exact (zR af.out));(case aS=>exact (below_size (zS HB.out)));(case aL=>have:=LMc37.out;omega);intro dM dY ho hb hg hat;rw[← cF.out]at ho;have aW:=Aside0.mk (Kd.R_over' (zR ac.out) (Kd.R_typed (zR af.out)) (by decide) hg);have aX:=bG aa hg af;have aY:=bG ab hg af;have aZ:=Aside0.mk (hb);have ba:=Aside0.mk (ho);clear ac;clear aa;clear ab;clear HB;clear af;have ac:=aW;have aa:=aX;have ab:=aY;have HB:=aZ;have cG:=ba;clear aW aX aY aZ ba;clear ho hb hg hat;refine hK.out _ _ ?_;clear hK K;refine nr_ (some 86) ?_
           refine pv_ 27 (some 6) bl28 HT_ ?_
           refine done_ (done_of HT_.out (by kernel_rfl)) ?_
           try go_wp2
           (first|go_roundg k2|((try simp only[← hji2]);go_roundg k2))
           case measure=>have:=HK1.out;have:=HK2.out;omega
           case rel=>exact ⟨(cw),(wrap64 (x7_2+1)),vv,(by first|exact H' | (have h_:=H';(try simp only[← hji2]at h_);(try simp only[← hji2]);exact h_)),⟨by have:=HK1.out;have:=HK2.out;omega⟩,⟨zR ac.out⟩,⟨zR cG.out⟩,⟨zB aa.out⟩,⟨zB ab.out⟩,⟨zS HB.out⟩⟩
          rw[if_neg bn]at H;exact absurd H (by simp)
         rw[if_neg ax]at H;have cE:decide (0<(rd x3_1 x7_2))=false:=decide_eq_false ax;clear ax;have H':=Aside0.mk H;clear H;obtain ⟨dN,dO,cL⟩:=Kd.R_slice ac.out;subst cL;have ai:0≤(x7_2:Int):=oD;have q175:x7_2<(x3_1.length:Int):=oD;obtain ⟨ad175,e175,ck⟩:=Kd.at_int (Kd.R_reads' ac.out).2.2 x7_2 ai q175
         cases e175
         replace ai:=eq_true ai;replace q175:=eq_true q175;go_wp2;(first|go_roundg k2|((try simp only[← hji2]);go_roundg k2))
         case measure=>have:=HK1.out;have:=HK2.out;omega
         case rel=>exact ⟨(x6_2),(wrap64 (x7_2+1)),vv,(by first|exact H' | (have h_:=H';(try simp only[← hji2]at h_);(try simp only[← hji2]);exact h_)),⟨by have:=HK1.out;have:=HK2.out;omega⟩,⟨zR ac.out⟩,⟨zR af.out⟩,⟨zB aa.out⟩,⟨zB ab.out⟩,⟨zS HB.out⟩⟩
        rw[if_neg bk]at H;exact absurd H (by simp)
       rw[if_neg aw]at H;have cD:decide (x7_2<(x3_1.length:Int))=false:=decide_eq_false aw;clear aw;simp only[Option.some.injEq,Prod.mk.injEq]at H;obtain ⟨rfl,rfl,rfl,rfl,rfl⟩:=H;obtain ⟨dP,dQ,cM⟩:=Kd.R_slice ac.out;subst cM;obtain ⟨bf,bg,cN⟩:=Kd.R_slice af.out;subst cN;obtain ⟨dF,dG⟩:=nn ag;obtain ⟨cO,cP,cQ,cR,cS,cU,cV,cW,cX,cY⟩:=cz5 aa;obtain ⟨cZ,da,db,dc,dd,de,df,dg,dh,di⟩:=cz5 ab;go_wp2;refine bodyPost_ret (results_cell_row rfl _ _ ae 28 #[.int .i64 a0_0,.int .i64 a0_1,.int .i64 a0_2,.int .i64 a0_3,.slice bf x6_2.length bg] (0,0) _ rfl (by (with_reducible repeat (first|refine blk_drewN ?_ _|refine blk_drew ?_|refine blk_alloc ?_ _));refine blk_put (cs:=#[.int .i64 a0_0,.int .i64 a0_1,.int .i64 a0_2,.int .i64 a0_3,.slice none 0 0]) ?_ 4 _ rfl;(with_reducible repeat (first|refine blk_drewN ?_ _|refine blk_drew ?_|refine blk_alloc ?_ _));refine blk_put (cs:=#[.int .i64 a0_0,.int .i64 a0_1,.int .i64 a0_2,.int .i64 0,.slice none 0 0]) ?_ 3 _ rfl;(with_reducible repeat (first|refine blk_drewN ?_ _|refine blk_drew ?_|refine blk_alloc ?_ _));refine blk_put (cs:=#[.int .i64 a0_0,.int .i64 a0_1,.int .i64 0,.int .i64 0,.slice none 0 0]) ?_ 2 _ rfl;(with_reducible repeat (first|refine blk_drewN ?_ _|refine blk_drew ?_|refine blk_alloc ?_ _));refine blk_put (cs:=#[.int .i64 a0_0,.int .i64 0,.int .i64 0,.int .i64 0,.slice none 0 0]) ?_ 1 _ rfl;(with_reducible repeat (first|refine blk_drewN ?_ _|refine blk_drew ?_|refine blk_alloc ?_ _));refine blk_put (cs:=#[.int .i64 0,.int .i64 0,.int .i64 0,.int .i64 0,.slice none 0 0]) ?_ 0 _ rfl;(with_reducible repeat (first|refine blk_drewN ?_ _|refine blk_drew ?_|refine blk_alloc ?_ _));refine blk_far ?_ aA.out _;(with_reducible repeat (first|refine blk_drewN ?_ _|refine blk_drew ?_|refine blk_alloc ?_ _));exact ab.out) Try.underlying28 rfl (by kernel_rfl)) rfl ?_;exact ⟨_,by first|rfl|(simp[errW_none,errW_some] <;> rfl)|(simp only[← hji2];first|rfl|(simp[errW_none,errW_some] <;> rfl))|(simp[*,errW_none,errW_some] <;> rfl),by (with_reducible repeat (first|apply Kd.R_alloc|apply Kd.R_drewN|apply Kd.R_drew));exact Kd.R_mono (Kd.R_far (p:=⟨ae,4,none⟩) (Kd.R_far (p:=⟨ae,3,none⟩) (Kd.R_far (p:=⟨ae,2,none⟩) (Kd.R_far (p:=⟨ae,1,none⟩) (Kd.R_far (p:=⟨ae,0,none⟩) (Kd.R_far (p:=⟨ad,4,none⟩) (Kd.R_types (Kd.R_types af.out aa.out (by decide)) ab.out (by decide)) (fun _ hk=>hk.1.2) (.slice bf x6_2.length bg)) (fun _ hk=>hk.2) (.int .i64 a0_0)) (fun _ hk=>hk.2) (.int .i64 a0_1)) (fun _ hk=>hk.2) (.int .i64 a0_2)) (fun _ hk=>hk.2) (.int .i64 a0_3)) (fun _ hk=>hk.2) (.slice bf x6_2.length bg)) (fun _ hk=>trivial),zS HB.out⟩
  rw[if_neg c4]at H;exact absurd H (by simp)
 rw[if_neg c3]at H;exact absurd H (by simp)
end Go.Proofs.Ytbfghpbmalpdbaa.MFnExactGenMeet
