import Derived.Test.YtbfghpbmalpdbaaMFnExactGenMeetx0
import Derived.Test.YtbfghpbmalpdbaaMFnExactGenMeetx7
namespace Go.Proofs.Ytbfghpbmalpdbaa.MFnExactGenMeet
open Go.RowKit Go.Proofs.YtbfghpbmalpdbaaW.PrintWords Go.Proofs.YtbfghpbmalpdbaaW.PrintLast Go.Proofs.YtbfghpbmalpdbaaW.PrintMore Go.Proofs.Ytbfghpbmalpdbaa.Short6
attribute [local go_sem] max2_int min2_int max_two min_two max_three min_three max_four min_four
set_option linter.unusedVariables false
set_option linter.unusedSimpArgs false
section
open Go.Proofs.Ytbfghpbmalpdbaa.Short2.T
abbrev impl_GenOk.bl0:Array Bool:=#[f,f,f,f,f,f,f,f,f,f,f,f,f,f,f,f,f,f,f,f,f,f,f]
abbrev impl_GenOk.bl1:Array Bool:=#[t,f,f,f,f,f,f,f,f,f,f,f,f,f,f,f,f,f,f,f,f,f,f]
abbrev impl_GenOk.bl2:Array Bool:=#[t,f,t,f,f,f,f,f,f,f,f,f,f,f,f,f,f,f,f,f,f,f,f]
abbrev impl_GenOk.bl3:Array Bool:=#[t,t,t,f,f,f,f,f,f,f,f,f,f,f,f,f,f,f,f,f,f,f,f]
abbrev impl_GenOk.bl4:Array Bool:=#[t,t,t,t,f,f,f,f,f,f,f,f,f,f,f,f,f,f,f,f,f,f,f]
abbrev impl_GenOk.bl5:Array Bool:=#[t,t,t,t,t,f,f,f,f,f,f,f,f,f,f,f,f,f,f,f,f,f,f]
abbrev impl_GenOk.bl6:Array Bool:=#[t,t,t,t,t,t,f,f,f,f,f,f,f,f,f,f,f,f,f,f,f,f,f]
abbrev impl_GenOk.bl7:Array Bool:=#[t,t,t,t,t,t,t,f,f,f,f,f,f,f,f,f,f,f,f,f,f,f,f]
abbrev impl_GenOk.bl8:Array Bool:=#[t,t,t,t,t,t,t,t,f,f,f,f,f,f,f,f,f,f,f,f,f,f,f]
abbrev impl_GenOk.bl9:Array Bool:=#[t,t,t,t,t,t,t,t,t,f,f,f,f,f,f,f,f,f,f,f,f,f,f]
abbrev impl_GenOk.bl10:Array Bool:=#[t,t,t,t,t,t,t,t,t,t,f,f,f,f,f,f,f,f,f,f,f,f,f]
abbrev impl_GenOk.bl11:Array Bool:=#[t,t,t,t,t,t,t,t,t,t,t,f,f,f,f,f,f,f,f,f,f,f,f]
abbrev impl_GenOk.bl12:Array Bool:=#[t,t,t,t,t,t,t,t,t,t,t,t,f,f,f,f,f,f,f,f,f,f,f]
abbrev impl_GenOk.bl13:Array Bool:=#[t,t,t,t,t,t,t,t,t,t,t,t,t,f,f,f,f,f,f,f,f,f,f]
abbrev impl_GenOk.bl14:Array Bool:=#[t,t,t,t,t,t,t,t,t,t,t,t,t,f,t,f,f,f,f,f,f,f,f]
abbrev impl_GenOk.bl15:Array Bool:=#[t,t,t,t,t,t,t,t,t,t,t,t,t,f,t,t,f,f,f,f,f,f,f]
abbrev impl_GenOk.bl16:Array Bool:=#[t,t,t,t,t,t,t,t,t,t,t,t,t,t,t,t,f,f,f,f,f,f,f]
abbrev impl_GenOk.bl17:Array Bool:=#[t,t,t,t,t,t,t,t,t,t,t,t,t,t,t,t,t,f,f,f,f,f,f]
abbrev impl_GenOk.bl18:Array Bool:=#[t,t,t,t,t,t,t,t,t,t,t,t,t,t,t,t,t,t,f,f,f,f,f]
abbrev impl_GenOk.bl19:Array Bool:=#[t,t,t,t,t,t,t,t,t,t,t,t,t,t,t,t,t,t,t,f,f,f,f]
abbrev impl_GenOk.bl20:Array Bool:=#[t,t,t,t,t,t,t,t,t,t,t,t,t,t,t,t,t,t,t,t,f,f,f]
abbrev impl_GenOk.bl21:Array Bool:=#[t,t,t,t,t,t,t,t,t,t,t,t,t,t,t,t,t,t,t,t,t,f,f]
abbrev impl_GenOk.bl22:Array Bool:=#[t,t,t,t,t,t,t,t,t,t,t,t,t,t,t,t,t,t,t,t,t,t,f]
abbrev impl_GenOk.bl23:Array Bool:=#[t,t,t,t,t,t,t,t,t,t,t,t,t,t,t,t,t,t,t,t,t,t,t]
abbrev impl_GenOk.bl24:Array Bool:=#[t,t,t,t,t,t,t,t,t,t,t,t,t,t,f,f,f,f,f,f,f,f,f]
abbrev impl_GenOk.bl25:Array Bool:=#[t,t,t,t,t,t,t,t,t,t,t,t,t,t,t,f,f,f,f,f,f,f,f]
end
mutual
def impl_GenOk.j0:Nat→Bool→Int→Int→Int→Int→List (S43)→Option (Bool)
 | 0,_,_,_,_,_,_=>none
 | k+1,x24,x249000,x249001,x249002,x249003,x249004=>if x24=true then (some false) else (impl_GenOk.l0 k x249004 (x249004.length:Int) 0 x249000 x249001 x249002 x249003 x249004)
def impl_GenOk.l0:Nat→List (S43)→Int→Int→Int→Int→Int→Int→List (S43)→Option (Bool)
 | 0,_,_,_,_,_,_,_,_=>none
 | k+1,x26,x27,x28,x249000,x249001,x249002,x249003,x249004=>if x28<x27 then (if 0≤x28 then (if x28<(x26.length:Int) then ((impl_inRange.f ((rd_T43 x26 x28).f0) 0 (wrap64 (x249001 - 1))).bind fun t253=>(if t253=true then ((impl_inRange.f ((rd_T43 x26 x28).f2) 0 (wrap64 (x249001 - 1))).bind fun t254=>(if t254=true then ((impl_inRange.f ((rd_T43 x26 x28).f1) 0 (wrap64 (x249000 - 1))).bind fun t255=>(impl_GenOk.j2 k x28 x26 x27 x28 (!t255) x249000 x249001 x249002 x249003 x249004 ((rd_T43 x26 x28).f0) ((rd_T43 x26 x28).f1) ((rd_T43 x26 x28).f2) ((rd_T43 x26 x28).f3))) else (impl_GenOk.j2 k x28 x26 x27 x28 true x249000 x249001 x249002 x249003 x249004 ((rd_T43 x26 x28).f0) ((rd_T43 x26 x28).f1) ((rd_T43 x26 x28).f2) ((rd_T43 x26 x28).f3)))) else (impl_GenOk.j2 k x28 x26 x27 x28 true x249000 x249001 x249002 x249003 x249004 ((rd_T43 x26 x28).f0) ((rd_T43 x26 x28).f1) ((rd_T43 x26 x28).f2) ((rd_T43 x26 x28).f3)))) else (none)) else (none)) else (some true)
def impl_GenOk.j2:Nat→Int→List (S43)→Int→Int→Bool→Int→Int→Int→Int→List (S43)→Int→Int→Int→Int→Option (Bool)
 | 0,_,_,_,_,_,_,_,_,_,_,_,_,_,_=>none
 | k+1,x3,x26,x27,x28,x57,x249000,x249001,x249002,x249003,x249004,x253000,x253001,x253002,x253003=>if x57=true then (some false) else ((impl_only.f x249003).bind fun t256=>((impl_inRange.f x253003 0 (wrap64 (t256 - 1))).bind fun t257=>(if t257=true then (if x3>0 then (if 0≤(wrap64 (x3 - 1)) then (if (wrap64 (x3 - 1))<(x249004.length:Int) then ((impl_compareGEdges.f k ((rd_T43 x249004 (wrap64 (x3 - 1))).f0) ((rd_T43 x249004 (wrap64 (x3 - 1))).f1) ((rd_T43 x249004 (wrap64 (x3 - 1))).f2) ((rd_T43 x249004 (wrap64 (x3 - 1))).f3) x253000 x253001 x253002 x253003).bind fun t259=>(if t259 ≥ 0 then (some false) else (impl_GenOk.l0 k x26 x27 (wrap64 (x28+1)) x249000 x249001 x249002 x249003 x249004))) else (none)) else (none)) else (impl_GenOk.l0 k x26 x27 (wrap64 (x28+1)) x249000 x249001 x249002 x249003 x249004)) else (some false))))
end
def impl_GenOk.f (k:Nat) (a0_0:Int) (a0_1:Int) (a0_2:Int) (a0_3:Int) (l0_4:List (S43)):Option (Bool):=(impl_headOk.f a0_0 a0_1 a0_2).bind fun t249=>(if t249=true then ((impl_inRange.f a0_3 0 4).bind fun t250=>(if t250=true then (impl_GenOk.j0 k (decide ((l0_4.length:Int)>2000)) a0_0 a0_1 a0_2 a0_3 l0_4) else (impl_GenOk.j0 k true a0_0 a0_1 a0_2 a0_3 l0_4))) else (impl_GenOk.j0 k true a0_0 a0_1 a0_2 a0_3 l0_4))
theorem impl_GenOk.mono_l:∀ k,(∀ y0 y1 y2 y3 y4 y5,LeO (impl_GenOk.j0 k y0 y1 y2 y3 y4 y5) (impl_GenOk.j0 (k+1) y0 y1 y2 y3 y4 y5))∧(∀ y0 y1 y2 y3 y4 y5 y6 y7,LeO (impl_GenOk.l0 k y0 y1 y2 y3 y4 y5 y6 y7) (impl_GenOk.l0 (k+1) y0 y1 y2 y3 y4 y5 y6 y7))∧(∀ y0 y1 y2 y3 y4 y5 y6 y7 y8 y9 y10 y11 y12 y13,LeO (impl_GenOk.j2 k y0 y1 y2 y3 y4 y5 y6 y7 y8 y9 y10 y11 y12 y13) (impl_GenOk.j2 (k+1) y0 y1 y2 y3 y4 y5 y6 y7 y8 y9 y10 y11 y12 y13))
 | 0=>⟨fun _ _ _ _ _ _ r h=>by simp[impl_GenOk.j0]at h,fun _ _ _ _ _ _ _ _ r h=>by simp[impl_GenOk.l0]at h,fun _ _ _ _ _ _ _ _ _ _ _ _ _ _ r h=>by simp[impl_GenOk.j2]at h⟩
 | k+1=>by
  obtain ⟨ih0,ih1,ih2⟩:=impl_GenOk.mono_l k;refine ⟨?_,?_,?_⟩
  ·intro y0 y1 y2 y3 y4 y5;unfold impl_GenOk.j0;repeat' first
   | (with_reducible exact ih0 _ _ _ _ _ _)
   | (with_reducible exact ih1 _ _ _ _ _ _ _ _)
   | (with_reducible exact ih2 _ _ _ _ _ _ _ _ _ _ _ _ _ _)
   | (with_reducible exact impl_compareGEdges.mono _ _ _ _ _ _ _ _ _)
   | (with_reducible exact LeO.refl _)
   | (with_reducible exact LeO.none _)
   | (with_reducible refine LeO.ite ?_ ?_)
   | (with_reducible refine LeO.bind ?_ (fun _=>?_))
   | exact ih0 _ _ _ _ _ _
   | exact ih1 _ _ _ _ _ _ _ _
   | exact ih2 _ _ _ _ _ _ _ _ _ _ _ _ _ _
   | exact impl_compareGEdges.mono _ _ _ _ _ _ _ _ _
   | exact LeO.none _
   | refine LeO.ite ?_ ?_
   | refine LeO.bind ?_ (fun _=>?_)
  ·intro y0 y1 y2 y3 y4 y5 y6 y7;unfold impl_GenOk.l0;repeat' first
   | (with_reducible exact ih0 _ _ _ _ _ _)
   | (with_reducible exact ih1 _ _ _ _ _ _ _ _)
   | (with_reducible exact ih2 _ _ _ _ _ _ _ _ _ _ _ _ _ _)
   | (with_reducible exact impl_compareGEdges.mono _ _ _ _ _ _ _ _ _)
   | (with_reducible exact LeO.refl _)
   | (with_reducible exact LeO.none _)
   | (with_reducible refine LeO.ite ?_ ?_)
   | (with_reducible refine LeO.bind ?_ (fun _=>?_))
   | exact ih0 _ _ _ _ _ _
   | exact ih1 _ _ _ _ _ _ _ _
   | exact ih2 _ _ _ _ _ _ _ _ _ _ _ _ _ _
   | exact impl_compareGEdges.mono _ _ _ _ _ _ _ _ _
   | exact LeO.none _
   | refine LeO.ite ?_ ?_
   | refine LeO.bind ?_ (fun _=>?_)
  intro y0 y1 y2 y3 y4 y5 y6 y7 y8 y9 y10 y11 y12 y13;unfold impl_GenOk.j2;repeat' first
  | (with_reducible exact ih0 _ _ _ _ _ _)
  | (with_reducible exact ih1 _ _ _ _ _ _ _ _)
  | (with_reducible exact ih2 _ _ _ _ _ _ _ _ _ _ _ _ _ _)
  | (with_reducible exact impl_compareGEdges.mono _ _ _ _ _ _ _ _ _)
  | (with_reducible exact LeO.refl _)
  | (with_reducible exact LeO.none _)
  | (with_reducible refine LeO.ite ?_ ?_)
  | (with_reducible refine LeO.bind ?_ (fun _=>?_))
  | exact ih0 _ _ _ _ _ _
  | exact ih1 _ _ _ _ _ _ _ _
  | exact ih2 _ _ _ _ _ _ _ _ _ _ _ _ _ _
  | exact impl_compareGEdges.mono _ _ _ _ _ _ _ _ _
  | exact LeO.none _
  | refine LeO.ite ?_ ?_
  | refine LeO.bind ?_ (fun _=>?_)
theorem impl_GenOk.mono:∀ a0 a1 a2 a3 a4 k,LeO (impl_GenOk.f k a0 a1 a2 a3 a4) (impl_GenOk.f (k+1) a0 a1 a2 a3 a4):=by
 intro a0 a1 a2 a3 a4 k;obtain ⟨ih0,ih1,ih2⟩:=impl_GenOk.mono_l k;unfold impl_GenOk.f;repeat' first
   | (with_reducible exact ih0 _ _ _ _ _ _)
   | (with_reducible exact ih1 _ _ _ _ _ _ _ _)
   | (with_reducible exact ih2 _ _ _ _ _ _ _ _ _ _ _ _ _ _)
   | (with_reducible exact impl_compareGEdges.mono _ _ _ _ _ _ _ _ _)
   | (with_reducible exact LeO.refl _)
   | (with_reducible exact LeO.none _)
   | (with_reducible refine LeO.ite ?_ ?_)
   | (with_reducible refine LeO.bind ?_ (fun _=>?_))
   | exact ih0 _ _ _ _ _ _
   | exact ih1 _ _ _ _ _ _ _ _
   | exact ih2 _ _ _ _ _ _ _ _ _ _ _ _ _ _
   | exact impl_compareGEdges.mono _ _ _ _ _ _ _ _ _
   | exact LeO.none _
   | refine LeO.ite ?_ ?_
   | refine LeO.bind ?_ (fun _=>?_)
def impl_GenOk.T8:Bool × List (List Nat × List Nat):=(true,[([],[]),([0],[0]),([],[]),([2],[2]),([3],[3]),([4],[4]),([1,5,4],[1,5]),([6],[6]),([7,6],[7]),([8],[8]),([9,8],[8,9]),([10,8,8],[8,10]),([11],[11]),([12,11],[11,12]),([11],[11]),([14,11],[11,14]),([13,15,11],[11,13,15]),([16,11],[11,16]),([11],[11]),([17,18,11,11],[11,17,18]),([19,11],[11,19]),([11,20,8],[8,11,20]),([8,21],[8,21])])
def impl_GenOk.B8:List Nat:=[0,1,0,4,12,28,63,127,255,511,1023,2047,4095,8191,4095,20479,65535,131071,4095,524287,1048575,2097151,4194303]
theorem impl_GenOk.tab8:rtab .any (opsOf Try.f18 8)=impl_GenOk.T8:=by kernel_rfl
theorem impl_GenOk.bits8:waitsOk impl_GenOk.T8.2 impl_GenOk.B8=true:=by kernel_rfl
open Go.Proofs.Ytbfghpbmalpdbaa.Short2 in
set_option maxHeartbeats 8000000 in
set_option maxRecDepth 100000 in
theorem impl_GenOk.calls (k:Nat) (a0_0:Int) (a0_1:Int) (a0_2:Int) (a0_3:Int) (A0_4:Option Addr) (c0_4:Nat) (l0_4:List (S43)) (r:Bool) (w:World) (hr0_4:Kd.C k43 w A0_4 l0_4.length l0_4) (hc0_4:l0_4.length≤c0_4) (h:impl_GenOk.f k a0_0 a0_1 a0_2 a0_3 l0_4=some r) :
  Calls Try.prog 18 #[.agg #[.int .i64 a0_0,.int .i64 a0_1,.int .i64 a0_2,.int .i64 a0_3,.slice A0_4 l0_4.length c0_4]] w fun e w'=>e=.returned (.bool r)∧Below w.heap.size w w':=by
 have hu28:=Try.underlying28;have hu43:=Try.underlying43;have HR0_4:=Aside0.mk hr0_4;have HC0_4:=Aside0.mk hc0_4;clear hr0_4 hc0_4;have HB:=Aside0.mk (Below.refl w.heap.size w);have H:((impl_headOk.f a0_0 a0_1 a0_2).bind fun br=>(if br=true then ((impl_inRange.f a0_3 0 4).bind fun an=>(if an=true then (impl_GenOk.j0 k (decide ((l0_4.length:Int)>2000)) a0_0 a0_1 a0_2 a0_3 l0_4) else (impl_GenOk.j0 k true a0_0 a0_1 a0_2 a0_3 l0_4))) else (impl_GenOk.j0 k true a0_0 a0_1 a0_2 a0_3 l0_4)))=some r:=h;clear h;have HC2:=Aside0.mk H;clear H;go_enter Try.func18,Try.ntmps18;go_upto_region 1 with (first|((with_reducible refine gate_dst (N:=1) rfl ?_);(try (refine gate_guard (by rfl) ?_;dsimp only));refine bx_ 1 #[.int .i64 a0_0,.int .i64 a0_1,.int .i64 a0_2,.int .i64 a0_3,.slice A0_4 l0_4.length c0_4] 28 ?_;intro ad hg w3 hbox hb;have ab:=Aside0.mk (hbox);have dn:=xG HB hg;have dp:=xG HB hg;replace HB:=xS HB hb;clear hb hbox hg))
 (try simp only[Act.put,q3]);go_cut [24] (fun dj wc=>∃ (kq:Nat) (aI:Bool),dj=.bool aI∧Aside0 (impl_GenOk.j0 kq aI a0_0 a0_1 a0_2 a0_3 l0_4=some r)∧Aside0 (kq≤k)∧Aside0 (wc.heap[ad]?=some (.cells #[.int .i64 a0_0,.int .i64 a0_1,.int .i64 a0_2,.int .i64 a0_3,(.slice A0_4 l0_4.length c0_4)] 28 (0,0)))∧Aside0 (Below w.heap.size w wc))
 case first=>
  have H:=HC2.out;clear HC2;replace H:=bI H;obtain ⟨br,de,H⟩:=H;replace H:(if br=true then ((impl_inRange.f a0_3 0 4).bind fun an=>(if an=true then (impl_GenOk.j0 k (decide ((l0_4.length:Int)>2000)) a0_0 a0_1 a0_2 a0_3 l0_4) else (impl_GenOk.j0 k true a0_0 a0_1 a0_2 a0_3 l0_4))) else (impl_GenOk.j0 k true a0_0 a0_1 a0_2 a0_3 l0_4))=some r:=H;have A4:=Aside0.mk de;clear de;by_cases c5:br=true
  ·subst c5;have H1:((impl_inRange.f a0_3 0 4).bind fun an=>(if an=true then (impl_GenOk.j0 k (decide ((l0_4.length:Int)>2000)) a0_0 a0_1 a0_2 a0_3 l0_4) else (impl_GenOk.j0 k true a0_0 a0_1 a0_2 a0_3 l0_4)))=some r:=by rw[if_pos rfl]at H;exact H
   clear H;have H:=H1;clear H1;replace H:=bI H;obtain ⟨an,df,H⟩:=H;replace H:(if an=true then (impl_GenOk.j0 k (decide ((l0_4.length:Int)>2000)) a0_0 a0_1 a0_2 a0_3 l0_4) else (impl_GenOk.j0 k true a0_0 a0_1 a0_2 a0_3 l0_4))=some r:=H;have A6:=Aside0.mk df;clear df;by_cases c7:an=true
   ·subst c7;have H1:(impl_GenOk.j0 k (decide ((l0_4.length:Int)>2000)) a0_0 a0_1 a0_2 a0_3 l0_4)=some r:=by rw[if_pos rfl]at H;exact H
    clear H;have H:=H1;clear H1;have H':=Aside0.mk H;clear H;obtain ⟨aJ,aK,aL,aM,aN,aO,aP,aQ,aR,aS⟩:=cz5 ab;go_wp2_with (first|((with_reducible refine gate_callee (f:=31) rfl ?_);refine gl_ (some 11) Try.func31 #[.int .i64 a0_0,.int .i64 a0_1,.int .i64 a0_2] ?_;(with_reducible refine (impl_headOk.calls a0_0 a0_1 a0_2 true _ A4.out).mono ?_);rintro e w' ⟨rfl,⟨nd,rfl⟩⟩;refine ⟨_,rfl,?_⟩)|(go_at_call 32;(with_reducible refine (impl_inRange.calls a0_3 0 4 true _ A6.out).mono ?_);rintro e w' ⟨rfl,⟨nd,rfl⟩⟩));go_meet
    case rel=>exact ⟨_,(decide ((l0_4.length:Int)>2000)),vv,H',⟨by first|omega|exact Nat.le_refl _⟩,⟨zB ab.out⟩,⟨zS HB.out⟩⟩
   replace c7:=Bool.eq_false_iff.mpr c7;subst c7;have H1:(impl_GenOk.j0 k true a0_0 a0_1 a0_2 a0_3 l0_4)=some r:=by rw[if_neg (show ¬ (false=true) by decide)]at H;exact H
   clear H;have H:=H1;clear H1;have H':=Aside0.mk H;clear H;obtain ⟨aT,aU,aV,aW,aX,aY,aZ,ba,bb,bc⟩:=cz5 ab;go_wp2_with (first|((with_reducible refine gate_callee (f:=31) rfl ?_);refine gl_ (some 11) Try.func31 #[.int .i64 a0_0,.int .i64 a0_1,.int .i64 a0_2] ?_;(with_reducible refine (impl_headOk.calls a0_0 a0_1 a0_2 true _ A4.out).mono ?_);rintro e w' ⟨rfl,⟨nd,rfl⟩⟩;refine ⟨_,rfl,?_⟩)|(go_at_call 32;(with_reducible refine (impl_inRange.calls a0_3 0 4 false _ A6.out).mono ?_);rintro e w' ⟨rfl,⟨nd,rfl⟩⟩));go_meet
   case rel=>exact ⟨_,(true),vv,H',⟨by first|omega|exact Nat.le_refl _⟩,⟨zB ab.out⟩,⟨zS HB.out⟩⟩
  replace c5:=Bool.eq_false_iff.mpr c5;subst c5;have H1:(impl_GenOk.j0 k true a0_0 a0_1 a0_2 a0_3 l0_4)=some r:=by rw[if_neg (show ¬ (false=true) by decide)]at H;exact H
  clear H;have H:=H1;clear H1;have H':=Aside0.mk H;clear H;obtain ⟨aq,ar,au,av,aw,ax,ay,az,aA,aB⟩:=cz5 ab;go_wp2_with (first|((with_reducible refine gate_callee (f:=31) rfl ?_);refine gl_ (some 11) Try.func31 #[.int .i64 a0_0,.int .i64 a0_1,.int .i64 a0_2] ?_;(with_reducible refine (impl_headOk.calls a0_0 a0_1 a0_2 false _ A4.out).mono ?_);rintro e w' ⟨rfl,⟨nd,rfl⟩⟩;refine ⟨_,rfl,?_⟩));go_meet
  case rel=>exact ⟨_,(true),vv,H',⟨by first|omega|exact Nat.le_refl _⟩,⟨zB ab.out⟩,⟨zS HB.out⟩⟩
 case rest=>
  clear HC2;try clear c1
  try clear p2
  try clear c3
  try clear c5
  try clear c7
  try clear aq ar au av aw
  try clear aJ aK aL aM aN
  try clear aT aU aV aW aX
  try clear ax ay az aA aB
  try clear aO aP aQ aR aS
  try clear aY aZ ba bb bc
  obtain ⟨kq,aI,rfl,HA,HJ1,ab,HB⟩:=hcut
  cases kq with
  | zero=>exact absurd HA.out (by simp[impl_GenOk.j0])
  | succ kj1=>
   have H:=HA.out;clear HA;simp only[impl_GenOk.j0]at H;by_cases be:aI=true
   ·subst be;have H1:(some false)=some r:=by rw[if_pos rfl]at H;exact H
    clear H;have H:=H1;clear H1;obtain rfl:=Option.some.inj H;go_wp2;go_ret;exact ⟨vw,zS HB.out⟩
   replace be:=Bool.eq_false_iff.mpr be;subst be;have H1:(impl_GenOk.l0 kj1 l0_4 (l0_4.length:Int) 0 a0_0 a0_1 a0_2 a0_3 l0_4)=some r:=by rw[if_neg (show ¬ (false=true) by decide)]at H;exact H
   clear H;have H:=H1;clear H1;have H':=Aside0.mk H;clear H;obtain ⟨bf,bg,bh,bi,bj,bk,bl,bm,bn,bo⟩:=cz5 ab;go_wp2;go_loopg [28] kj1 (fun kq dk w'=>∃ (aa:Int),dk=.int .i64 aa∧Aside0 (impl_GenOk.l0 kq l0_4 (l0_4.length:Int) aa a0_0 a0_1 a0_2 a0_3 l0_4=some r)∧Aside0 (kq≤kj1)∧Aside0 (w'.heap[ad]?=some (.cells #[.int .i64 a0_0,.int .i64 a0_1,.int .i64 a0_2,.int .i64 a0_3,(.slice A0_4 l0_4.length c0_4)] 28 (0,0)))∧Aside0 (Below w.heap.size w w'))
   case atStart=>exact ⟨(0),vv,H',⟨Nat.le_refl _⟩,⟨zB ab.out⟩,⟨zS HB.out⟩⟩
   case round=>
    clear H';try clear c1
    try clear p2
    try clear c3
    try clear c5
    try clear c7
    try clear be
    try clear aq ar au av aw
    try clear bf bg bh bi bj
    try clear aJ aK aL aM aN
    try clear aT aU aV aW aX
    try clear ax ay az aA aB
    try clear bk bl bm bn bo
    try clear aO aP aQ aR aS
    try clear aY aZ ba bb bc
    try clear p2
    obtain ⟨aa,rfl,HA,HK2,ab,HB⟩:=hrel
    cases gk with
    | zero=>exact absurd HA.out (by simp[impl_GenOk.l0])
    | succ k2=>
     have H:=HA.out;clear HA;simp only[impl_GenOk.l0]at H;by_cases bd:aa<(l0_4.length:Int)
     ·rw[if_pos bd]at H;have bA:decide (aa<(l0_4.length:Int))=true:=decide_eq_true bd;clear bd;by_cases bt:0≤aa
      ·rw[if_pos bt]at H;have da:decide (0≤aa)=true:=decide_eq_true bt;clear bt;by_cases bu:aa<(l0_4.length:Int)
       ·rw[if_pos bu]at H;have db:decide (aa<(l0_4.length:Int))=true:=decide_eq_true bu;clear bu;have HC16:=Aside0.mk H;clear H;have bs:0≤(aa:Int):=oD;have q251:aa<(l0_4.length:Int):=oD;obtain ⟨ad251,e251,aC,aD,aE,aF⟩:=at_T43 HR0_4.out aa bs q251
        cases e251
        replace aC:=ct_ HB aC;replace aD:=ct_ HB aD;replace aE:=ct_ HB aE;replace aF:=ct_ HB aF;replace bs:=eq_true bs;replace q251:=eq_true q251;go_upto_region 6 with (first|((with_reducible refine gate_dst (N:=4) rfl ?_);(try (refine gate_guard (by rfl) ?_;dsimp only));refine bx_ 4 #[.int .i64 0,.int .i64 0,.int .i64 0,.int .i64 0] 43 ?_;intro ae hg dD hbox hb;have ac:=Aside0.mk (hbox);have dq:=xG HB hg;have dr:=xG HB hg;replace HB:=xS HB hb;have dg:=xN ab hg;have am:=xM ab hg;replace ab:=xB ab hb;clear hb hbox hg;obtain ⟨dt,du⟩:=nn am;obtain ⟨bF,bG,bH,bJ,bK,bL,bM,bN⟩:=cz4 ac))
        (try simp only[Act.put,q3]);go_cut [57] (fun dl wc=>∃ (kq:Nat) (ap:Bool),dl=.bool ap∧Aside0 (impl_GenOk.j2 kq aa l0_4 (l0_4.length:Int) aa ap a0_0 a0_1 a0_2 a0_3 l0_4 ((rd_T43 l0_4 aa).f0) ((rd_T43 l0_4 aa).f1) ((rd_T43 l0_4 aa).f2) ((rd_T43 l0_4 aa).f3)=some r)∧Aside0 (kq≤k2)∧Aside0 (wc.heap[ad]?=some (.cells #[.int .i64 a0_0,.int .i64 a0_1,.int .i64 a0_2,.int .i64 a0_3,(.slice (some ad251) l0_4.length c0_4)] 28 (0,0)))∧Aside0 (wc.heap[ae]?=some (.cells #[.int .i64 ((rd_T43 l0_4 aa).f0),.int .i64 ((rd_T43 l0_4 aa).f1),.int .i64 ((rd_T43 l0_4 aa).f2),.int .i64 ((rd_T43 l0_4 aa).f3)] 43 (0,0)))∧Aside0 (Below w.heap.size w wc))
        case first=>
         have H:=HC16.out;clear HC16;replace H:=bI H;obtain ⟨cR,cS,H⟩:=H;replace H:(if cR=true then ((impl_inRange.f ((rd_T43 l0_4 aa).f2) 0 (wrap64 (a0_1 - 1))).bind fun aG=>(if aG=true then ((impl_inRange.f ((rd_T43 l0_4 aa).f1) 0 (wrap64 (a0_0 - 1))).bind fun al=>(impl_GenOk.j2 k2 aa l0_4 (l0_4.length:Int) aa (!al) a0_0 a0_1 a0_2 a0_3 l0_4 ((rd_T43 l0_4 aa).f0) ((rd_T43 l0_4 aa).f1) ((rd_T43 l0_4 aa).f2) ((rd_T43 l0_4 aa).f3))) else (impl_GenOk.j2 k2 aa l0_4 (l0_4.length:Int) aa true a0_0 a0_1 a0_2 a0_3 l0_4 ((rd_T43 l0_4 aa).f0) ((rd_T43 l0_4 aa).f1) ((rd_T43 l0_4 aa).f2) ((rd_T43 l0_4 aa).f3)))) else (impl_GenOk.j2 k2 aa l0_4 (l0_4.length:Int) aa true a0_0 a0_1 a0_2 a0_3 l0_4 ((rd_T43 l0_4 aa).f0) ((rd_T43 l0_4 aa).f1) ((rd_T43 l0_4 aa).f2) ((rd_T43 l0_4 aa).f3)))=some r:=H;have cU:=Aside0.mk cS;clear cS;by_cases bv:cR=true
         ·subst bv;have H1:((impl_inRange.f ((rd_T43 l0_4 aa).f2) 0 (wrap64 (a0_1 - 1))).bind fun aG=>(if aG=true then ((impl_inRange.f ((rd_T43 l0_4 aa).f1) 0 (wrap64 (a0_0 - 1))).bind fun al=>(impl_GenOk.j2 k2 aa l0_4 (l0_4.length:Int) aa (!al) a0_0 a0_1 a0_2 a0_3 l0_4 ((rd_T43 l0_4 aa).f0) ((rd_T43 l0_4 aa).f1) ((rd_T43 l0_4 aa).f2) ((rd_T43 l0_4 aa).f3))) else (impl_GenOk.j2 k2 aa l0_4 (l0_4.length:Int) aa true a0_0 a0_1 a0_2 a0_3 l0_4 ((rd_T43 l0_4 aa).f0) ((rd_T43 l0_4 aa).f1) ((rd_T43 l0_4 aa).f2) ((rd_T43 l0_4 aa).f3))))=some r:=by rw[if_pos rfl]at H;exact H
          clear H;have H:=H1;clear H1;replace H:=bI H;obtain ⟨aG,cV,H⟩:=H;replace H:(if aG=true then ((impl_inRange.f ((rd_T43 l0_4 aa).f1) 0 (wrap64 (a0_0 - 1))).bind fun al=>(impl_GenOk.j2 k2 aa l0_4 (l0_4.length:Int) aa (!al) a0_0 a0_1 a0_2 a0_3 l0_4 ((rd_T43 l0_4 aa).f0) ((rd_T43 l0_4 aa).f1) ((rd_T43 l0_4 aa).f2) ((rd_T43 l0_4 aa).f3))) else (impl_GenOk.j2 k2 aa l0_4 (l0_4.length:Int) aa true a0_0 a0_1 a0_2 a0_3 l0_4 ((rd_T43 l0_4 aa).f0) ((rd_T43 l0_4 aa).f1) ((rd_T43 l0_4 aa).f2) ((rd_T43 l0_4 aa).f3)))=some r:=H;have dh:=Aside0.mk cV;clear cV;by_cases bw:aG=true
          ·subst bw;have H1:((impl_inRange.f ((rd_T43 l0_4 aa).f1) 0 (wrap64 (a0_0 - 1))).bind fun al=>(impl_GenOk.j2 k2 aa l0_4 (l0_4.length:Int) aa (!al) a0_0 a0_1 a0_2 a0_3 l0_4 ((rd_T43 l0_4 aa).f0) ((rd_T43 l0_4 aa).f1) ((rd_T43 l0_4 aa).f2) ((rd_T43 l0_4 aa).f3)))=some r:=by rw[if_pos rfl]at H;exact H
           clear H;have H:=H1;clear H1;replace H:=bI H;obtain ⟨al,cW,H⟩:=H;replace H:(impl_GenOk.j2 k2 aa l0_4 (l0_4.length:Int) aa (!al) a0_0 a0_1 a0_2 a0_3 l0_4 ((rd_T43 l0_4 aa).f0) ((rd_T43 l0_4 aa).f1) ((rd_T43 l0_4 aa).f2) ((rd_T43 l0_4 aa).f3))=some r:=H;have dm:=Aside0.mk cW;clear cW;have H':=Aside0.mk H;clear H;obtain ⟨dv,dw⟩:=nn am;obtain ⟨bO,bP,bQ,bR,bS,bT,bU,bV⟩:=cz4 ac;obtain ⟨bW,bX,bY,bZ,ca,cb,cc,cd,ce,cf⟩:=cz5 ab;go_wp2_with (first|((with_reducible refine gate_callee (f:=32) rfl ?_);refine gl_ (some 38) Try.func32 #[.int .i64 ((rd_T43 l0_4 aa).f0),.int .i64 0,.int .i64 (wrap64 (a0_1 - 1))] ?_;(with_reducible refine (impl_inRange.calls ((rd_T43 l0_4 aa).f0) 0 (wrap64 (a0_1 - 1)) true _ cU.out).mono ?_);rintro e w' ⟨rfl,⟨nd,rfl⟩⟩;refine ⟨_,rfl,?_⟩)|(go_at_call 32;(with_reducible refine (impl_inRange.calls ((rd_T43 l0_4 aa).f2) 0 (wrap64 (a0_1 - 1)) true _ dh.out).mono ?_);rintro e w' ⟨rfl,⟨nd,rfl⟩⟩)|(go_at_call 32;(with_reducible refine (impl_inRange.calls ((rd_T43 l0_4 aa).f1) 0 (wrap64 (a0_0 - 1)) al _ dm.out).mono ?_);rintro e w' ⟨rfl,⟨nd,rfl⟩⟩));go_meet
           case rel=>exact ⟨_,(!al),vv,H',⟨by have:=HJ1.out;have:=HK2.out;first|omega|exact Nat.le_refl _⟩,⟨zB ab.out⟩,⟨by (with_reducible repeat (first|refine blk_drewN ?_ _|refine blk_drew ?_|refine blk_alloc ?_ _));refine blk_put (cs:=#[.int .i64 ((rd_T43 l0_4 aa).f0),.int .i64 ((rd_T43 l0_4 aa).f1),.int .i64 ((rd_T43 l0_4 aa).f2),.int .i64 0]) ?_ 3 _ rfl;(with_reducible repeat (first|refine blk_drewN ?_ _|refine blk_drew ?_|refine blk_alloc ?_ _));refine blk_put (cs:=#[.int .i64 ((rd_T43 l0_4 aa).f0),.int .i64 ((rd_T43 l0_4 aa).f1),.int .i64 0,.int .i64 0]) ?_ 2 _ rfl;(with_reducible repeat (first|refine blk_drewN ?_ _|refine blk_drew ?_|refine blk_alloc ?_ _));refine blk_put (cs:=#[.int .i64 ((rd_T43 l0_4 aa).f0),.int .i64 0,.int .i64 0,.int .i64 0]) ?_ 1 _ rfl;(with_reducible repeat (first|refine blk_drewN ?_ _|refine blk_drew ?_|refine blk_alloc ?_ _));refine blk_put (cs:=#[.int .i64 0,.int .i64 0,.int .i64 0,.int .i64 0]) ?_ 0 _ rfl;(with_reducible repeat (first|refine blk_drewN ?_ _|refine blk_drew ?_|refine blk_alloc ?_ _));exact ac.out⟩,⟨zS HB.out⟩⟩
          replace bw:=Bool.eq_false_iff.mpr bw;subst bw;have H1:(impl_GenOk.j2 k2 aa l0_4 (l0_4.length:Int) aa true a0_0 a0_1 a0_2 a0_3 l0_4 ((rd_T43 l0_4 aa).f0) ((rd_T43 l0_4 aa).f1) ((rd_T43 l0_4 aa).f2) ((rd_T43 l0_4 aa).f3))=some r:=by rw[if_neg (show ¬ (false=true) by decide)]at H;exact H
          clear H;have H:=H1;clear H1;have H':=Aside0.mk H;clear H;obtain ⟨dx,dy⟩:=nn am;obtain ⟨cg,ch,ci,cj,ck,cl,cm,cn⟩:=cz4 ac;obtain ⟨co,cp,cq,cr,ct,cu,cv,cw,cx,cy⟩:=cz5 ab;go_wp2_with (first|((with_reducible refine gate_callee (f:=32) rfl ?_);refine gl_ (some 38) Try.func32 #[.int .i64 ((rd_T43 l0_4 aa).f0),.int .i64 0,.int .i64 (wrap64 (a0_1 - 1))] ?_;(with_reducible refine (impl_inRange.calls ((rd_T43 l0_4 aa).f0) 0 (wrap64 (a0_1 - 1)) true _ cU.out).mono ?_);rintro e w' ⟨rfl,⟨nd,rfl⟩⟩;refine ⟨_,rfl,?_⟩)|(go_at_call 32;(with_reducible refine (impl_inRange.calls ((rd_T43 l0_4 aa).f2) 0 (wrap64 (a0_1 - 1)) false _ dh.out).mono ?_);rintro e w' ⟨rfl,⟨nd,rfl⟩⟩));go_meet
          case rel=>exact ⟨_,(true),vv,H',⟨by have:=HJ1.out;have:=HK2.out;first|omega|exact Nat.le_refl _⟩,⟨zB ab.out⟩,⟨by (with_reducible repeat (first|refine blk_drewN ?_ _|refine blk_drew ?_|refine blk_alloc ?_ _));refine blk_put (cs:=#[.int .i64 ((rd_T43 l0_4 aa).f0),.int .i64 ((rd_T43 l0_4 aa).f1),.int .i64 ((rd_T43 l0_4 aa).f2),.int .i64 0]) ?_ 3 _ rfl;(with_reducible repeat (first|refine blk_drewN ?_ _|refine blk_drew ?_|refine blk_alloc ?_ _));refine blk_put (cs:=#[.int .i64 ((rd_T43 l0_4 aa).f0),.int .i64 ((rd_T43 l0_4 aa).f1),.int .i64 0,.int .i64 0]) ?_ 2 _ rfl;(with_reducible repeat (first|refine blk_drewN ?_ _|refine blk_drew ?_|refine blk_alloc ?_ _));refine blk_put (cs:=#[.int .i64 ((rd_T43 l0_4 aa).f0),.int .i64 0,.int .i64 0,.int .i64 0]) ?_ 1 _ rfl;(with_reducible repeat (first|refine blk_drewN ?_ _|refine blk_drew ?_|refine blk_alloc ?_ _));refine blk_put (cs:=#[.int .i64 0,.int .i64 0,.int .i64 0,.int .i64 0]) ?_ 0 _ rfl;(with_reducible repeat (first|refine blk_drewN ?_ _|refine blk_drew ?_|refine blk_alloc ?_ _));exact ac.out⟩,⟨zS HB.out⟩⟩
         replace bv:=Bool.eq_false_iff.mpr bv;subst bv;have H1:(impl_GenOk.j2 k2 aa l0_4 (l0_4.length:Int) aa true a0_0 a0_1 a0_2 a0_3 l0_4 ((rd_T43 l0_4 aa).f0) ((rd_T43 l0_4 aa).f1) ((rd_T43 l0_4 aa).f2) ((rd_T43 l0_4 aa).f3))=some r:=by rw[if_neg (show ¬ (false=true) by decide)]at H;exact H
         clear H;have H:=H1;clear H1;have H':=Aside0.mk H;clear H;obtain ⟨dz,dA⟩:=nn am;obtain ⟨cz,cA,cB,cC,cD,cE,cF,cG⟩:=cz4 ac;obtain ⟨cH,cI,cJ,cK,cL,cM,cN,cO,cP,cQ⟩:=cz5 ab;go_wp2_with (first|((with_reducible refine gate_callee (f:=32) rfl ?_);refine gl_ (some 38) Try.func32 #[.int .i64 ((rd_T43 l0_4 aa).f0),.int .i64 0,.int .i64 (wrap64 (a0_1 - 1))] ?_;(with_reducible refine (impl_inRange.calls ((rd_T43 l0_4 aa).f0) 0 (wrap64 (a0_1 - 1)) false _ cU.out).mono ?_);rintro e w' ⟨rfl,⟨nd,rfl⟩⟩;refine ⟨_,rfl,?_⟩));go_meet
         case rel=>exact ⟨_,(true),vv,H',⟨by have:=HJ1.out;have:=HK2.out;first|omega|exact Nat.le_refl _⟩,⟨zB ab.out⟩,⟨by (with_reducible repeat (first|refine blk_drewN ?_ _|refine blk_drew ?_|refine blk_alloc ?_ _));refine blk_put (cs:=#[.int .i64 ((rd_T43 l0_4 aa).f0),.int .i64 ((rd_T43 l0_4 aa).f1),.int .i64 ((rd_T43 l0_4 aa).f2),.int .i64 0]) ?_ 3 _ rfl;(with_reducible repeat (first|refine blk_drewN ?_ _|refine blk_drew ?_|refine blk_alloc ?_ _));refine blk_put (cs:=#[.int .i64 ((rd_T43 l0_4 aa).f0),.int .i64 ((rd_T43 l0_4 aa).f1),.int .i64 0,.int .i64 0]) ?_ 2 _ rfl;(with_reducible repeat (first|refine blk_drewN ?_ _|refine blk_drew ?_|refine blk_alloc ?_ _));refine blk_put (cs:=#[.int .i64 ((rd_T43 l0_4 aa).f0),.int .i64 0,.int .i64 0,.int .i64 0]) ?_ 1 _ rfl;(with_reducible repeat (first|refine blk_drewN ?_ _|refine blk_drew ?_|refine blk_alloc ?_ _));refine blk_put (cs:=#[.int .i64 0,.int .i64 0,.int .i64 0,.int .i64 0]) ?_ 0 _ rfl;(with_reducible repeat (first|refine blk_drewN ?_ _|refine blk_drew ?_|refine blk_alloc ?_ _));exact ac.out⟩,⟨zS HB.out⟩⟩
        case rest=>
         clear HC16;try clear c1
         try clear c2
         try clear p2
         try clear q2
         try clear hx2
         try clear c3
         try clear c5
         try clear p6
         try clear c7
         try clear be
         try clear bd
         try clear bA
         try clear bt
         try clear da
         try clear bu
         try clear db
         try clear dE
         try clear bv
         try clear bw
         try clear dF
         try clear dG
         try clear q25
         try clear hx25
         try clear dH
         try clear dI
         try clear dJ
         try clear aq ar au av aw
         try clear bf bg bh bi bj
         try clear bF bG bH bJ
         try clear bO bP bQ bR
         try clear bW bX bY bZ ca
         try clear cg ch ci cj
         try clear co cp cq cr ct
         try clear cz cA cB cC
         try clear cH cI cJ cK cL
         try clear aJ aK aL aM aN
         try clear aT aU aV aW aX
         try clear ax ay az aA aB
         try clear bk bl bm bn bo
         try clear bK bL bM bN
         try clear bS bT bU bV
         try clear cb cc cd ce cf
         try clear ck cl cm cn
         try clear cu cv cw cx cy
         try clear cD cE cF cG
         try clear cM cN cO cP cQ
         try clear aO aP aQ aR aS
         try clear aY aZ ba bb bc
         try clear aC
         try clear aD
         try clear aE
         try clear aF
         try clear p2
         try clear bs
         try clear q251
         obtain ⟨kq,ap,rfl,HA,HJ15,ab,ac,HB⟩:=hcut
         cases kq with
         | zero=>exact absurd HA.out (by simp[impl_GenOk.j2])
         | succ kj15=>
          have H:=HA.out;clear HA;simp only[impl_GenOk.j2]at H;by_cases bB:ap=true
          ·subst bB;have H1:(some false)=some r:=by rw[if_pos rfl]at H;exact H
           clear H;have H:=H1;clear H1;obtain rfl:=Option.some.inj H;go_wp2;go_ret;exact ⟨vw,zS HB.out⟩
          replace bB:=Bool.eq_false_iff.mpr bB;subst bB;have H1:((impl_only.f a0_3).bind fun ak=>((impl_inRange.f ((rd_T43 l0_4 aa).f3) 0 (wrap64 (ak - 1))).bind fun aH=>(if aH=true then (if aa>0 then (if 0≤(wrap64 (aa - 1)) then (if (wrap64 (aa - 1))<(l0_4.length:Int) then ((impl_compareGEdges.f kj15 ((rd_T43 l0_4 (wrap64 (aa - 1))).f0) ((rd_T43 l0_4 (wrap64 (aa - 1))).f1) ((rd_T43 l0_4 (wrap64 (aa - 1))).f2) ((rd_T43 l0_4 (wrap64 (aa - 1))).f3) ((rd_T43 l0_4 aa).f0) ((rd_T43 l0_4 aa).f1) ((rd_T43 l0_4 aa).f2) ((rd_T43 l0_4 aa).f3)).bind fun aj=>(if aj ≥ 0 then (some false) else (impl_GenOk.l0 kj15 l0_4 (l0_4.length:Int) (wrap64 (aa+1)) a0_0 a0_1 a0_2 a0_3 l0_4))) else (none)) else (none)) else (impl_GenOk.l0 kj15 l0_4 (l0_4.length:Int) (wrap64 (aa+1)) a0_0 a0_1 a0_2 a0_3 l0_4)) else (some false))))=some r:=by rw[if_neg (show ¬ (false=true) by decide)]at H;exact H
          clear H;have H:=H1;clear H1;replace H:=bI H;obtain ⟨ak,cX,H⟩:=H;replace H:((impl_inRange.f ((rd_T43 l0_4 aa).f3) 0 (wrap64 (ak - 1))).bind fun aH=>(if aH=true then (if aa>0 then (if 0≤(wrap64 (aa - 1)) then (if (wrap64 (aa - 1))<(l0_4.length:Int) then ((impl_compareGEdges.f kj15 ((rd_T43 l0_4 (wrap64 (aa - 1))).f0) ((rd_T43 l0_4 (wrap64 (aa - 1))).f1) ((rd_T43 l0_4 (wrap64 (aa - 1))).f2) ((rd_T43 l0_4 (wrap64 (aa - 1))).f3) ((rd_T43 l0_4 aa).f0) ((rd_T43 l0_4 aa).f1) ((rd_T43 l0_4 aa).f2) ((rd_T43 l0_4 aa).f3)).bind fun aj=>(if aj ≥ 0 then (some false) else (impl_GenOk.l0 kj15 l0_4 (l0_4.length:Int) (wrap64 (aa+1)) a0_0 a0_1 a0_2 a0_3 l0_4))) else (none)) else (none)) else (impl_GenOk.l0 kj15 l0_4 (l0_4.length:Int) (wrap64 (aa+1)) a0_0 a0_1 a0_2 a0_3 l0_4)) else (some false)))=some r:=H;have bx:=Aside0.mk cX;clear cX;replace H:=bI H;obtain ⟨aH,cY,H⟩:=H;replace H:(if aH=true then (if aa>0 then (if 0≤(wrap64 (aa - 1)) then (if (wrap64 (aa - 1))<(l0_4.length:Int) then ((impl_compareGEdges.f kj15 ((rd_T43 l0_4 (wrap64 (aa - 1))).f0) ((rd_T43 l0_4 (wrap64 (aa - 1))).f1) ((rd_T43 l0_4 (wrap64 (aa - 1))).f2) ((rd_T43 l0_4 (wrap64 (aa - 1))).f3) ((rd_T43 l0_4 aa).f0) ((rd_T43 l0_4 aa).f1) ((rd_T43 l0_4 aa).f2) ((rd_T43 l0_4 aa).f3)).bind fun aj=>(if aj ≥ 0 then (some false) else (impl_GenOk.l0 kj15 l0_4 (l0_4.length:Int) (wrap64 (aa+1)) a0_0 a0_1 a0_2 a0_3 l0_4))) else (none)) else (none)) else (impl_GenOk.l0 kj15 l0_4 (l0_4.length:Int) (wrap64 (aa+1)) a0_0 a0_1 a0_2 a0_3 l0_4)) else (some false))=some r:=H;have bz:=Aside0.mk cY;clear cY;by_cases bC:aH=true
          ·subst bC;have H1:(if aa>0 then (if 0≤(wrap64 (aa - 1)) then (if (wrap64 (aa - 1))<(l0_4.length:Int) then ((impl_compareGEdges.f kj15 ((rd_T43 l0_4 (wrap64 (aa - 1))).f0) ((rd_T43 l0_4 (wrap64 (aa - 1))).f1) ((rd_T43 l0_4 (wrap64 (aa - 1))).f2) ((rd_T43 l0_4 (wrap64 (aa - 1))).f3) ((rd_T43 l0_4 aa).f0) ((rd_T43 l0_4 aa).f1) ((rd_T43 l0_4 aa).f2) ((rd_T43 l0_4 aa).f3)).bind fun aj=>(if aj ≥ 0 then (some false) else (impl_GenOk.l0 kj15 l0_4 (l0_4.length:Int) (wrap64 (aa+1)) a0_0 a0_1 a0_2 a0_3 l0_4))) else (none)) else (none)) else (impl_GenOk.l0 kj15 l0_4 (l0_4.length:Int) (wrap64 (aa+1)) a0_0 a0_1 a0_2 a0_3 l0_4))=some r:=by rw[if_pos rfl]at H;exact H
           clear H;have H:=H1;clear H1;by_cases bp:aa>0
           ·rw[if_pos bp]at H;have dc:decide (0<aa)=true:=decide_eq_true bp;clear bp;obtain ⟨ji39,hji39⟩:∃ j_:Int,(wrap64 (aa - 1))=j_:=⟨_,rfl⟩;replace H:(if 0≤(ji39) then (if (ji39)<(l0_4.length:Int) then ((impl_compareGEdges.f kj15 ((rd_T43 l0_4 (ji39)).f0) ((rd_T43 l0_4 (ji39)).f1) ((rd_T43 l0_4 (ji39)).f2) ((rd_T43 l0_4 (ji39)).f3) ((rd_T43 l0_4 aa).f0) ((rd_T43 l0_4 aa).f1) ((rd_T43 l0_4 aa).f2) ((rd_T43 l0_4 aa).f3)).bind fun aj=>(if aj ≥ 0 then (some false) else (impl_GenOk.l0 kj15 l0_4 (l0_4.length:Int) (wrap64 (aa+1)) a0_0 a0_1 a0_2 a0_3 l0_4))) else (none)) else (none))=some r:=by first|(rw[hji39]at H;exact H)|(simp only[hji39]at H ⊢;exact H)
            (try rw[hji39]at bx);(try rw[hji39]at bz);have hji39w:(IntKind.i64.wrap (aa - 1))=ji39:=(i64_w _).trans hji39;by_cases bD:0≤(ji39)
            ·rw[if_pos bD]at H;have dB:decide (0≤(ji39))=true:=decide_eq_true bD;clear bD;by_cases bE:(ji39)<(l0_4.length:Int)
             ·rw[if_pos bE]at H;have dC:decide ((ji39)<(l0_4.length:Int))=true:=decide_eq_true bE;clear bE;replace H:=bI H;obtain ⟨aj,cZ,H⟩:=H;replace H:(if aj ≥ 0 then (some false) else (impl_GenOk.l0 kj15 l0_4 (l0_4.length:Int) (wrap64 (aa+1)) a0_0 a0_1 a0_2 a0_3 l0_4))=some r:=H;have di:=Aside0.mk cZ;clear cZ;by_cases bq:aj ≥ 0
              ·rw[if_pos bq]at H;have dd:decide (0≤aj)=true:=decide_eq_true bq;clear bq;obtain rfl:=Option.some.inj H;try go_wp2
               replace ab:=Aside0.mk (blk_drew ab.out);replace ac:=Aside0.mk (blk_drew ac.out);replace HB:=Aside0.mk (below_drew1 HB.out);have ao:0≤((ji39):Int):=oD;have q258:(ji39)<(l0_4.length:Int):=oD;obtain ⟨ad258,e258,af,ag,ah,ai⟩:=at_T43 HR0_4.out (ji39) ao q258;have hw258_3:=ai;have hw258_2:=ah;have hw258_1:=ag;have hw258_0:=af;obtain rfl:ad251=ad258:=(by injection e258);replace af:=ct_ HB af;replace ag:=ct_ HB ag;replace ah:=ct_ HB ah;replace ai:=ct_ HB ai;replace ao:=eq_true ao;replace q258:=eq_true q258;refine start_ (n:=23) (S:=fun w'=>w'.cell? ⟨ae,0,none⟩=some (.int .i64 ((rd_T43 l0_4 aa).f0))∧w'.cell? ⟨ae,1,none⟩=some (.int .i64 ((rd_T43 l0_4 aa).f1))∧w'.cell? ⟨ae,2,none⟩=some (.int .i64 ((rd_T43 l0_4 aa).f2))∧w'.cell? ⟨ae,3,none⟩=some (.int .i64 ((rd_T43 l0_4 aa).f3))∧w'.cell? ⟨ad,0,none⟩=some (.int .i64 a0_0)∧w'.cell? ⟨ad,1,none⟩=some (.int .i64 a0_1)∧w'.cell? ⟨ad,2,none⟩=some (.int .i64 a0_2)∧w'.cell? ⟨ad,3,none⟩=some (.int .i64 a0_3)∧w'.cell? ⟨ad,4,none⟩=some (.slice (some ad251) l0_4.length c0_4)∧w'.cell? (ad251.add (((ji39)).toNat * 4))=some (.int .i64 ((rd_T43 l0_4 (ji39)).f0))∧w'.cell? ⟨(ad251.add (((ji39)).toNat * 4)).block,(ad251.add (((ji39)).toNat * 4)).off+1,none⟩=some (.int .i64 ((rd_T43 l0_4 (ji39)).f1))∧w'.cell? ⟨(ad251.add (((ji39)).toNat * 4)).block,(ad251.add (((ji39)).toNat * 4)).off+2,none⟩=some (.int .i64 ((rd_T43 l0_4 (ji39)).f2))∧w'.cell? ⟨(ad251.add (((ji39)).toNat * 4)).block,(ad251.add (((ji39)).toNat * 4)).off+3,none⟩=some (.int .i64 ((rd_T43 l0_4 (ji39)).f3))) (ds:=[]) bl0 (by kernel_rfl) rfl rfl ⟨b1 ac 0,b1 ac 1,b1 ac 2,b1 ac 3,b1 ab 0,b1 ab 1,b1 ab 2,b1 ab 3,b1 ab 4,(ct_ HB hw258_0),(ct_ HB hw258_1),(ct_ HB hw258_2),(ct_ HB hw258_3)⟩ (fun hHeld=>?_);refine with_tabW impl_GenOk.tab8 impl_GenOk.bits8 (fun HT_ HW_=>?_);generalize wc.drew=dK at ab ac HB af ag ah ai hHeld ⊢;refine pv_ 0 (some 58) bl1 HT_ ?_
               refine pv_ 2 (some 60) bl2 HT_ ?_
               refine tk_ 1 (some 59) bl3 HT_ HW_ hHeld ?_
               refine tk_ 3 (some 61) bl4 HT_ HW_ hHeld ?_
               refine on_ 4 (some 62) bl5 HT_ (fun K hK=>?_);refine gs_ Try.func21 #[.int .i64 a0_3] ?_
               with_reducible refine (impl_only.calls a0_3 ak _ bx.out).mono ?_
               rintro e w' ⟨rfl,⟨nd,rfl⟩⟩;refine ⟨_,rfl,?_⟩;refine hK.out _ _ ⟨b1 ac 0,b1 ac 1,b1 ac 2,b1 ac 3,b1 ab 0,b1 ab 1,b1 ab 2,b1 ab 3,b1 ab 4,(ct_ HB hw258_0),(ct_ HB hw258_1),(ct_ HB hw258_2),(ct_ HB hw258_3)⟩ (fun hHeld=>?_);clear hK K;refine nr_ (some 62) ?_
               refine pv_ 5 (some 63) bl6 HT_ ?_
               refine on_ 6 (some 64) bl7 HT_ (fun K hK=>?_);refine gs_ Try.func32 #[.int .i64 ((rd_T43 l0_4 aa).f3),.int .i64 0,.int .i64 (wrap64 (ak - 1))] ?_
               with_reducible refine (impl_inRange.calls ((rd_T43 l0_4 aa).f3) 0 (wrap64 (ak - 1)) true _ bz.out).mono ?_
               rintro e w' ⟨rfl,⟨nd,rfl⟩⟩;refine ⟨_,rfl,?_⟩;refine hK.out _ _ ⟨b1 ac 0,b1 ac 1,b1 ac 2,b1 ac 3,b1 ab 0,b1 ab 1,b1 ab 2,b1 ab 3,b1 ab 4,(ct_ HB hw258_0),(ct_ HB hw258_1),(ct_ HB hw258_2),(ct_ HB hw258_3)⟩ (fun hHeld=>?_);clear hK K;refine nr_ (some 64) ?_
               refine pv_ 7 (some 65) bl8 HT_ ?_
               refine pv_ 8 (some 66) bl9 HT_ ?_
               refine pv_ 9 (some 67) bl10 HT_ ?_
               refine pv_ 10 (some 68) bl11 HT_ ?_
               refine pv_ 11 (some 69) bl12 HT_ ?_
               refine pv_ 12 (some 70) bl13 HT_ ?_
               refine pv_ 14 (some 72) bl14 HT_ ?_
               refine pv_ 15 (some 73) bl15 HT_ ?_
               refine tk_ 13 (some 71) bl16 HT_ HW_ hHeld ?_
               refine pv_ 16 (some 74) bl17 HT_ ?_
               refine tk_ 17 (some 75) bl18 HT_ HW_ hHeld ?_
               refine tk_ 18 (some 76) bl19 HT_ HW_ hHeld ?_
               refine on_ 19 (some 77) bl20 HT_ (fun K hK=>?_);refine goes_ Try.func33 (by kernel_rfl) rfl #[.agg #[.int .i64 ((rd_T43 l0_4 (ji39)).f0),.int .i64 ((rd_T43 l0_4 (ji39)).f1),.int .i64 ((rd_T43 l0_4 (ji39)).f2),.int .i64 ((rd_T43 l0_4 (ji39)).f3)],.agg #[.int .i64 ((rd_T43 l0_4 aa).f0),.int .i64 ((rd_T43 l0_4 aa).f1),.int .i64 ((rd_T43 l0_4 aa).f2),.int .i64 ((rd_T43 l0_4 aa).f3)]] (by rfl) rfl rfl (by (try simp only[m3]);first|done|(simp only[hji39];rfl)|rfl|(simp only[d2];rfl)) ?_
               with_reducible refine (impl_compareGEdges.calls kj15 ((rd_T43 l0_4 (ji39)).f0) ((rd_T43 l0_4 (ji39)).f1) ((rd_T43 l0_4 (ji39)).f2) ((rd_T43 l0_4 (ji39)).f3) ((rd_T43 l0_4 aa).f0) ((rd_T43 l0_4 aa).f1) ((rd_T43 l0_4 aa).f2) ((rd_T43 l0_4 aa).f3) aj _ di.out).mono ?_
               rintro e dL ⟨rfl,hb⟩;refine ⟨_,rfl,?_⟩;replace ab:=xB ab hb;replace ac:=xB ac hb;replace HB:=xS HB hb;(try clear hb);(try clear hb2);(try clear hk);(try clear hi);refine hK.out _ _ ⟨b1 ac 0,b1 ac 1,b1 ac 2,b1 ac 3,b1 ab 0,b1 ab 1,b1 ab 2,b1 ab 3,b1 ab 4,(ct_ HB hw258_0),(ct_ HB hw258_1),(ct_ HB hw258_2),(ct_ HB hw258_3)⟩ (fun hHeld=>?_);clear hK K;refine nr_ (some 77) ?_
               refine pv_ 20 (some 78) bl21 HT_ ?_
               refine pv_ 21 (some 79) bl22 HT_ ?_
               refine pv_ 22 (some 80) bl23 HT_ ?_
               refine done_ (done_of HT_.out (by kernel_rfl)) ?_
               try go_wp2
               go_ret;exact ⟨by first|rfl|(simp[errW_none,errW_some] <;> rfl)|(simp only[← hji39];first|rfl|(simp[errW_none,errW_some] <;> rfl))|(simp[*,errW_none,errW_some] <;> rfl),zS HB.out⟩
              rw[if_neg bq]at H;have dd:decide (0≤aj)=false:=decide_eq_false bq;clear bq;have H':=Aside0.mk H;clear H;try go_wp2
              replace ab:=Aside0.mk (blk_drew ab.out);replace ac:=Aside0.mk (blk_drew ac.out);replace HB:=Aside0.mk (below_drew1 HB.out);have ao:0≤((ji39):Int):=oD;have q258:(ji39)<(l0_4.length:Int):=oD;obtain ⟨ad258,e258,af,ag,ah,ai⟩:=at_T43 HR0_4.out (ji39) ao q258;have hw258_3:=ai;have hw258_2:=ah;have hw258_1:=ag;have hw258_0:=af;obtain rfl:ad251=ad258:=(by injection e258);replace af:=ct_ HB af;replace ag:=ct_ HB ag;replace ah:=ct_ HB ah;replace ai:=ct_ HB ai;replace ao:=eq_true ao;replace q258:=eq_true q258;refine start_ (n:=23) (S:=fun w'=>w'.cell? ⟨ae,0,none⟩=some (.int .i64 ((rd_T43 l0_4 aa).f0))∧w'.cell? ⟨ae,1,none⟩=some (.int .i64 ((rd_T43 l0_4 aa).f1))∧w'.cell? ⟨ae,2,none⟩=some (.int .i64 ((rd_T43 l0_4 aa).f2))∧w'.cell? ⟨ae,3,none⟩=some (.int .i64 ((rd_T43 l0_4 aa).f3))∧w'.cell? ⟨ad,0,none⟩=some (.int .i64 a0_0)∧w'.cell? ⟨ad,1,none⟩=some (.int .i64 a0_1)∧w'.cell? ⟨ad,2,none⟩=some (.int .i64 a0_2)∧w'.cell? ⟨ad,3,none⟩=some (.int .i64 a0_3)∧w'.cell? ⟨ad,4,none⟩=some (.slice (some ad251) l0_4.length c0_4)∧w'.cell? (ad251.add (((ji39)).toNat * 4))=some (.int .i64 ((rd_T43 l0_4 (ji39)).f0))∧w'.cell? ⟨(ad251.add (((ji39)).toNat * 4)).block,(ad251.add (((ji39)).toNat * 4)).off+1,none⟩=some (.int .i64 ((rd_T43 l0_4 (ji39)).f1))∧w'.cell? ⟨(ad251.add (((ji39)).toNat * 4)).block,(ad251.add (((ji39)).toNat * 4)).off+2,none⟩=some (.int .i64 ((rd_T43 l0_4 (ji39)).f2))∧w'.cell? ⟨(ad251.add (((ji39)).toNat * 4)).block,(ad251.add (((ji39)).toNat * 4)).off+3,none⟩=some (.int .i64 ((rd_T43 l0_4 (ji39)).f3))) (ds:=[]) bl0 (by kernel_rfl) rfl rfl ⟨b1 ac 0,b1 ac 1,b1 ac 2,b1 ac 3,b1 ab 0,b1 ab 1,b1 ab 2,b1 ab 3,b1 ab 4,(ct_ HB hw258_0),(ct_ HB hw258_1),(ct_ HB hw258_2),(ct_ HB hw258_3)⟩ (fun hHeld=>?_);refine with_tabW impl_GenOk.tab8 impl_GenOk.bits8 (fun HT_ HW_=>?_);generalize wc.drew=dM at ab ac HB af ag ah ai hHeld ⊢;refine pv_ 0 (some 58) bl1 HT_ ?_
              refine pv_ 2 (some 60) bl2 HT_ ?_
              refine tk_ 1 (some 59) bl3 HT_ HW_ hHeld ?_
              refine tk_ 3 (some 61) bl4 HT_ HW_ hHeld ?_
              refine on_ 4 (some 62) bl5 HT_ (fun K hK=>?_);refine gs_ Try.func21 #[.int .i64 a0_3] ?_
              with_reducible refine (impl_only.calls a0_3 ak _ bx.out).mono ?_
              rintro e w' ⟨rfl,⟨nd,rfl⟩⟩;refine ⟨_,rfl,?_⟩;refine hK.out _ _ ⟨b1 ac 0,b1 ac 1,b1 ac 2,b1 ac 3,b1 ab 0,b1 ab 1,b1 ab 2,b1 ab 3,b1 ab 4,(ct_ HB hw258_0),(ct_ HB hw258_1),(ct_ HB hw258_2),(ct_ HB hw258_3)⟩ (fun hHeld=>?_);clear hK K;refine nr_ (some 62) ?_
              refine pv_ 5 (some 63) bl6 HT_ ?_
              refine on_ 6 (some 64) bl7 HT_ (fun K hK=>?_);refine gs_ Try.func32 #[.int .i64 ((rd_T43 l0_4 aa).f3),.int .i64 0,.int .i64 (wrap64 (ak - 1))] ?_
              with_reducible refine (impl_inRange.calls ((rd_T43 l0_4 aa).f3) 0 (wrap64 (ak - 1)) true _ bz.out).mono ?_
              rintro e w' ⟨rfl,⟨nd,rfl⟩⟩;refine ⟨_,rfl,?_⟩;refine hK.out _ _ ⟨b1 ac 0,b1 ac 1,b1 ac 2,b1 ac 3,b1 ab 0,b1 ab 1,b1 ab 2,b1 ab 3,b1 ab 4,(ct_ HB hw258_0),(ct_ HB hw258_1),(ct_ HB hw258_2),(ct_ HB hw258_3)⟩ (fun hHeld=>?_);clear hK K;refine nr_ (some 64) ?_
              refine pv_ 7 (some 65) bl8 HT_ ?_
              refine pv_ 8 (some 66) bl9 HT_ ?_
              refine pv_ 9 (some 67) bl10 HT_ ?_
              refine pv_ 10 (some 68) bl11 HT_ ?_
              refine pv_ 11 (some 69) bl12 HT_ ?_
              refine pv_ 12 (some 70) bl13 HT_ ?_
              refine pv_ 14 (some 72) bl14 HT_ ?_
              refine pv_ 15 (some 73) bl15 HT_ ?_
              refine tk_ 13 (some 71) bl16 HT_ HW_ hHeld ?_
              refine pv_ 16 (some 74) bl17 HT_ ?_
              refine tk_ 17 (some 75) bl18 HT_ HW_ hHeld ?_
              refine tk_ 18 (some 76) bl19 HT_ HW_ hHeld ?_
              refine on_ 19 (some 77) bl20 HT_ (fun K hK=>?_);refine goes_ Try.func33 (by kernel_rfl) rfl #[.agg #[.int .i64 ((rd_T43 l0_4 (ji39)).f0),.int .i64 ((rd_T43 l0_4 (ji39)).f1),.int .i64 ((rd_T43 l0_4 (ji39)).f2),.int .i64 ((rd_T43 l0_4 (ji39)).f3)],.agg #[.int .i64 ((rd_T43 l0_4 aa).f0),.int .i64 ((rd_T43 l0_4 aa).f1),.int .i64 ((rd_T43 l0_4 aa).f2),.int .i64 ((rd_T43 l0_4 aa).f3)]] (by rfl) rfl rfl (by (try simp only[m3]);first|done|(simp only[hji39];rfl)|rfl|(simp only[d2];rfl)) ?_
              with_reducible refine (impl_compareGEdges.calls kj15 ((rd_T43 l0_4 (ji39)).f0) ((rd_T43 l0_4 (ji39)).f1) ((rd_T43 l0_4 (ji39)).f2) ((rd_T43 l0_4 (ji39)).f3) ((rd_T43 l0_4 aa).f0) ((rd_T43 l0_4 aa).f1) ((rd_T43 l0_4 aa).f2) ((rd_T43 l0_4 aa).f3) aj _ di.out).mono ?_
              rintro e dN ⟨rfl,hb⟩;refine ⟨_,rfl,?_⟩;replace ab:=xB ab hb;replace ac:=xB ac hb;replace HB:=xS HB hb;(try clear hb);(try clear hb2);(try clear hk);(try clear hi);refine hK.out _ _ ⟨b1 ac 0,b1 ac 1,b1 ac 2,b1 ac 3,b1 ab 0,b1 ab 1,b1 ab 2,b1 ab 3,b1 ab 4,(ct_ HB hw258_0),(ct_ HB hw258_1),(ct_ HB hw258_2),(ct_ HB hw258_3)⟩ (fun hHeld=>?_);clear hK K;refine nr_ (some 77) ?_
              refine pv_ 20 (some 78) bl21 HT_ ?_
              refine pv_ 21 (some 79) bl22 HT_ ?_
              refine pv_ 22 (some 80) bl23 HT_ ?_
              refine done_ (done_of HT_.out (by kernel_rfl)) ?_
              try go_wp2
              (first|go_roundg kj15|((try simp only[← hji39]);go_roundg kj15))
              case measure=>have:=HJ1.out;have:=HK2.out;have:=HJ15.out;omega
              case rel=>exact ⟨(wrap64 (aa+1)),vv,(by first|exact H' | (have h_:=H';(try simp only[← hji39]at h_);(try simp only[← hji39]);exact h_)),⟨by have:=HJ1.out;have:=HK2.out;have:=HJ15.out;omega⟩,⟨zB ab.out⟩,⟨zS HB.out⟩⟩
             rw[if_neg bE]at H;exact absurd H (by simp)
            rw[if_neg bD]at H;exact absurd H (by simp)
           rw[if_neg bp]at H;have dc:decide (0<aa)=false:=decide_eq_false bp;clear bp;have H':=Aside0.mk H;clear H;try go_wp2
           replace ab:=Aside0.mk (blk_drew ab.out);replace ac:=Aside0.mk (blk_drew ac.out);replace HB:=Aside0.mk (below_drew1 HB.out);refine start_ (n:=23) (S:=fun w'=>w'.cell? ⟨ae,0,none⟩=some (.int .i64 ((rd_T43 l0_4 aa).f0))∧w'.cell? ⟨ae,1,none⟩=some (.int .i64 ((rd_T43 l0_4 aa).f1))∧w'.cell? ⟨ae,2,none⟩=some (.int .i64 ((rd_T43 l0_4 aa).f2))∧w'.cell? ⟨ae,3,none⟩=some (.int .i64 ((rd_T43 l0_4 aa).f3))∧w'.cell? ⟨ad,0,none⟩=some (.int .i64 a0_0)∧w'.cell? ⟨ad,1,none⟩=some (.int .i64 a0_1)∧w'.cell? ⟨ad,2,none⟩=some (.int .i64 a0_2)∧w'.cell? ⟨ad,3,none⟩=some (.int .i64 a0_3)∧w'.cell? ⟨ad,4,none⟩=some (.slice (some ad251) l0_4.length c0_4)) (ds:=[]) bl0 (by kernel_rfl) rfl rfl ⟨b1 ac 0,b1 ac 1,b1 ac 2,b1 ac 3,b1 ab 0,b1 ab 1,b1 ab 2,b1 ab 3,b1 ab 4⟩ (fun hHeld=>?_);refine with_tabW impl_GenOk.tab8 impl_GenOk.bits8 (fun HT_ HW_=>?_);generalize wc.drew=dO at ab ac HB hHeld ⊢;refine pv_ 0 (some 58) bl1 HT_ ?_
           refine pv_ 2 (some 60) bl2 HT_ ?_
           refine tk_ 1 (some 59) bl3 HT_ HW_ hHeld ?_
           refine tk_ 3 (some 61) bl4 HT_ HW_ hHeld ?_
           refine on_ 4 (some 62) bl5 HT_ (fun K hK=>?_);refine gs_ Try.func21 #[.int .i64 a0_3] ?_
           with_reducible refine (impl_only.calls a0_3 ak _ bx.out).mono ?_
           rintro e w' ⟨rfl,⟨nd,rfl⟩⟩;refine ⟨_,rfl,?_⟩;refine hK.out _ _ ⟨b1 ac 0,b1 ac 1,b1 ac 2,b1 ac 3,b1 ab 0,b1 ab 1,b1 ab 2,b1 ab 3,b1 ab 4⟩ (fun hHeld=>?_);clear hK K;refine nr_ (some 62) ?_
           refine pv_ 5 (some 63) bl6 HT_ ?_
           refine on_ 6 (some 64) bl7 HT_ (fun K hK=>?_);refine gs_ Try.func32 #[.int .i64 ((rd_T43 l0_4 aa).f3),.int .i64 0,.int .i64 (wrap64 (ak - 1))] ?_
           with_reducible refine (impl_inRange.calls ((rd_T43 l0_4 aa).f3) 0 (wrap64 (ak - 1)) true _ bz.out).mono ?_
           rintro e w' ⟨rfl,⟨nd,rfl⟩⟩;refine ⟨_,rfl,?_⟩;refine hK.out _ _ ⟨b1 ac 0,b1 ac 1,b1 ac 2,b1 ac 3,b1 ab 0,b1 ab 1,b1 ab 2,b1 ab 3,b1 ab 4⟩ (fun hHeld=>?_);clear hK K;refine nr_ (some 64) ?_
           refine pv_ 7 (some 65) bl8 HT_ ?_
           refine pv_ 8 (some 66) bl9 HT_ ?_
           refine pv_ 9 (some 67) bl10 HT_ ?_
           refine pv_ 10 (some 68) bl11 HT_ ?_
           refine pv_ 11 (some 69) bl12 HT_ ?_
           refine pn_ 12 (some 70) bl13 HT_ ?_
           refine pn_ 13 (some 71) bl24 HT_ ?_
           refine pn_ 14 (some 72) bl25 HT_ ?_
           refine pn_ 15 (some 73) bl16 HT_ ?_
           refine pn_ 16 (some 74) bl17 HT_ ?_
           refine pn_ 17 (some 75) bl18 HT_ ?_
           refine pn_ 18 (some 76) bl19 HT_ ?_
           refine pn_ 19 (some 77) bl20 HT_ ?_
           refine pn_ 20 (some 78) bl21 HT_ ?_
           refine pv_ 21 (some 79) bl22 HT_ ?_
           refine pv_ 22 (some 80) bl23 HT_ ?_
           refine done_ (done_of HT_.out (by kernel_rfl)) ?_
           try go_wp2
           go_roundg kj15
           case measure=>have:=HJ1.out;have:=HK2.out;have:=HJ15.out;omega
           case rel=>exact ⟨(wrap64 (aa+1)),vv,H',⟨by have:=HJ1.out;have:=HK2.out;have:=HJ15.out;omega⟩,⟨zB ab.out⟩,⟨zS HB.out⟩⟩
          replace bC:=Bool.eq_false_iff.mpr bC;subst bC;have H1:(some false)=some r:=by rw[if_neg (show ¬ (false=true) by decide)]at H;exact H
          clear H;have H:=H1;clear H1;obtain rfl:=Option.some.inj H;try go_wp2
          replace ab:=Aside0.mk (blk_drew ab.out);replace ac:=Aside0.mk (blk_drew ac.out);replace HB:=Aside0.mk (below_drew1 HB.out);refine start_ (n:=23) (S:=fun w'=>w'.cell? ⟨ae,0,none⟩=some (.int .i64 ((rd_T43 l0_4 aa).f0))∧w'.cell? ⟨ae,1,none⟩=some (.int .i64 ((rd_T43 l0_4 aa).f1))∧w'.cell? ⟨ae,2,none⟩=some (.int .i64 ((rd_T43 l0_4 aa).f2))∧w'.cell? ⟨ae,3,none⟩=some (.int .i64 ((rd_T43 l0_4 aa).f3))∧w'.cell? ⟨ad,0,none⟩=some (.int .i64 a0_0)∧w'.cell? ⟨ad,1,none⟩=some (.int .i64 a0_1)∧w'.cell? ⟨ad,2,none⟩=some (.int .i64 a0_2)∧w'.cell? ⟨ad,3,none⟩=some (.int .i64 a0_3)∧w'.cell? ⟨ad,4,none⟩=some (.slice (some ad251) l0_4.length c0_4)) (ds:=[]) bl0 (by kernel_rfl) rfl rfl ⟨b1 ac 0,b1 ac 1,b1 ac 2,b1 ac 3,b1 ab 0,b1 ab 1,b1 ab 2,b1 ab 3,b1 ab 4⟩ (fun hHeld=>?_);refine with_tabW impl_GenOk.tab8 impl_GenOk.bits8 (fun HT_ HW_=>?_);generalize wc.drew=dP at ab ac HB hHeld ⊢;refine pv_ 0 (some 58) bl1 HT_ ?_
          refine pv_ 2 (some 60) bl2 HT_ ?_
          refine tk_ 1 (some 59) bl3 HT_ HW_ hHeld ?_
          refine tk_ 3 (some 61) bl4 HT_ HW_ hHeld ?_
          refine on_ 4 (some 62) bl5 HT_ (fun K hK=>?_);refine gs_ Try.func21 #[.int .i64 a0_3] ?_
          with_reducible refine (impl_only.calls a0_3 ak _ bx.out).mono ?_
          rintro e w' ⟨rfl,⟨nd,rfl⟩⟩;refine ⟨_,rfl,?_⟩;refine hK.out _ _ ⟨b1 ac 0,b1 ac 1,b1 ac 2,b1 ac 3,b1 ab 0,b1 ab 1,b1 ab 2,b1 ab 3,b1 ab 4⟩ (fun hHeld=>?_);clear hK K;refine nr_ (some 62) ?_
          refine pv_ 5 (some 63) bl6 HT_ ?_
          refine on_ 6 (some 64) bl7 HT_ (fun K hK=>?_);refine gs_ Try.func32 #[.int .i64 ((rd_T43 l0_4 aa).f3),.int .i64 0,.int .i64 (wrap64 (ak - 1))] ?_
          with_reducible refine (impl_inRange.calls ((rd_T43 l0_4 aa).f3) 0 (wrap64 (ak - 1)) false _ bz.out).mono ?_
          rintro e w' ⟨rfl,⟨nd,rfl⟩⟩;refine ⟨_,rfl,?_⟩;refine hK.out _ _ ⟨b1 ac 0,b1 ac 1,b1 ac 2,b1 ac 3,b1 ab 0,b1 ab 1,b1 ab 2,b1 ab 3,b1 ab 4⟩ (fun hHeld=>?_);clear hK K;refine nr_ (some 64) ?_
          refine pv_ 7 (some 65) bl8 HT_ ?_
          refine pv_ 8 (some 66) bl9 HT_ ?_
          refine pn_ 9 (some 67) bl10 HT_ ?_
          refine pn_ 10 (some 68) bl11 HT_ ?_
          refine pn_ 11 (some 69) bl12 HT_ ?_
          refine pn_ 12 (some 70) bl13 HT_ ?_
          refine pn_ 13 (some 71) bl24 HT_ ?_
          refine pn_ 14 (some 72) bl25 HT_ ?_
          refine pn_ 15 (some 73) bl16 HT_ ?_
          refine pn_ 16 (some 74) bl17 HT_ ?_
          refine pn_ 17 (some 75) bl18 HT_ ?_
          refine pn_ 18 (some 76) bl19 HT_ ?_
          refine pn_ 19 (some 77) bl20 HT_ ?_
          refine pn_ 20 (some 78) bl21 HT_ ?_
          refine pn_ 21 (some 79) bl22 HT_ ?_
          refine pv_ 22 (some 80) bl23 HT_ ?_
          refine done_ (done_of HT_.out (by kernel_rfl)) ?_
          try go_wp2
          go_ret;exact ⟨vw,zS HB.out⟩
       rw[if_neg bu]at H;exact absurd H (by simp)
      rw[if_neg bt]at H;exact absurd H (by simp)
     rw[if_neg bd]at H;have bA:decide (aa<(l0_4.length:Int))=false:=decide_eq_false bd;clear bd;obtain rfl:=Option.some.inj H;go_wp2;go_ret;exact ⟨vw,zS HB.out⟩
def impl_has.f (a0:Int) (a1:Int):Option (Bool):=if 0≤(IntKind.u64.wrap (a1)) then (some ((Go.bits .and .i64 (shr .i64 a0 (IntKind.u64.wrap (a1))) 1) == 1)) else (none)
set_option maxHeartbeats 8000000 in
set_option maxRecDepth 100000 in
theorem impl_has.calls (a0:Int) (a1:Int) (r:Bool) (w:World) (h:impl_has.f a0 a1=some r) :
    Calls Try.prog 20 #[.int .i64 a0,.int .i64 a1] w fun e w'=>e=.returned (.bool r)∧Drawn0 w w':=by
  have H:(if 0≤(IntKind.u64.wrap (a1)) then (some ((Go.bits .and .i64 (shr .i64 a0 (IntKind.u64.wrap (a1))) 1) == 1)) else (none))=some r:=h;clear h;obtain ⟨ji3,hji3⟩:∃ j_:Int,(IntKind.u64.wrap (a1))=j_:=⟨_,rfl⟩;replace H:(if 0≤(ji3) then (some ((Go.bits .and .i64 (shr .i64 a0 (ji3)) 1) == 1)) else (none))=some r:=by first|(rw[hji3]at H;exact H)|(simp only[hji3]at H ⊢;exact H)
  by_cases c4:0≤(ji3)
  · rw[if_pos c4]at H;have aa:=eq_true c4;have ab:decide (0≤(ji3))=true:=decide_eq_true c4;clear c4;obtain ⟨ji5,hji5⟩:∃ j_:Int,(shr .i64 a0 (ji3))=j_:=⟨_,rfl⟩;replace H:(some ((Go.bits .and .i64 (ji5) 1) == 1))=some r:=by first|(rw[hji5]at H;exact H)|(simp only[hji5]at H ⊢;exact H)
    have hji5_:(a0 / 2 ^ min (ji3).toNat 64)=ji5:=hji5;have hji5z:(ji3)≤64→(a0 / 2 ^ (ji3).toNat)=ji5:=shr_small hji5;obtain rfl:=Option.some.inj H;go_enter Try.func20,Try.ntmps20;go_wp2;go_ret;exact ⟨by first|rfl|(simp;done)|(simp only[← hji3,← hji5] <;> (first|rfl|simp))|(simp[*];done),by repeat (first|exact Drawn0.refl _|apply Drawn0.step)⟩
  rw[if_neg c4]at H;exact absurd H (by simp)
def impl_SetList.l0:Nat→Int→List Int→Int→Option (List Int)
 | 0,_,_,_=>none
 | k+1,x0,x3,x8=>if x8<31 then ((impl_has.f x0 x8).bind fun t261=>(if t261=true then (if x3.length<17592186044416 then (impl_SetList.l0 k x0 (x3 ++ [x8]) (wrap64 (x8+1))) else (none)) else (impl_SetList.l0 k x0 x3 (wrap64 (x8+1))))) else (some x3)
def impl_SetList.f (k:Nat) (a0:Int):Option (List Int):=(impl_SetOk.f a0).bind fun t260=>(if t260=true then (impl_SetList.l0 k a0 ([]:List Int) 0) else (some ([]:List Int)))
theorem impl_SetList.mono_l:∀ k,(∀ y0 y1 y2,LeO (impl_SetList.l0 k y0 y1 y2) (impl_SetList.l0 (k+1) y0 y1 y2))
 | 0=>fun _ _ _ r h=>by simp[impl_SetList.l0]at h
 | k+1=>by
  have ih0:=impl_SetList.mono_l k
  ·intro y0 y1 y2;unfold impl_SetList.l0;repeat' first
   | (with_reducible exact ih0 _ _ _)
   | (with_reducible exact LeO.refl _)
   | (with_reducible exact LeO.none _)
   | (with_reducible refine LeO.ite ?_ ?_)
   | (with_reducible refine LeO.bind ?_ (fun _=>?_))
   | exact ih0 _ _ _
   | exact LeO.none _
   | refine LeO.ite ?_ ?_
   | refine LeO.bind ?_ (fun _=>?_)
theorem impl_SetList.mono:∀ a0 k,LeO (impl_SetList.f k a0) (impl_SetList.f (k+1) a0):=by
 intro a0 k;have ih0:=impl_SetList.mono_l k;unfold impl_SetList.f;repeat' first
   | (with_reducible exact ih0 _ _ _)
   | (with_reducible exact LeO.refl _)
   | (with_reducible exact LeO.none _)
   | (with_reducible refine LeO.ite ?_ ?_)
   | (with_reducible refine LeO.bind ?_ (fun _=>?_))
   | exact ih0 _ _ _
   | exact LeO.none _
   | refine LeO.ite ?_ ?_
   | refine LeO.bind ?_ (fun _=>?_)
open Go.Proofs.Ytbfghpbmalpdbaa.Short2 in
set_option maxHeartbeats 8000000 in
set_option maxRecDepth 100000 in
theorem impl_SetList.calls (k:Nat) (a0:Int) (r:List Int) (w:World) (h:impl_SetList.f k a0=some r) :
  Calls Try.prog 35 #[.int .i64 a0] w fun e w'=>∃ v0_:Value,e=.returned (v0_)∧Kd.R (Kd.int .i64) 3 w' w.heap.size (fun _=>True) v0_ r∧Below w.heap.size w w':=by
 have HB:=Aside0.mk (Below.refl w.heap.size w);have H:((impl_SetOk.f a0).bind fun ab=>(if ab=true then (impl_SetList.l0 k a0 ([]:List Int) 0) else (some ([]:List Int))))=some r:=h;clear h;replace H:=bI H;obtain ⟨ab,ah,H⟩:=H;replace H:(if ab=true then (impl_SetList.l0 k a0 ([]:List Int) 0) else (some ([]:List Int)))=some r:=H;have A2:=Aside0.mk ah;clear ah;by_cases c3:ab=true
 ·subst c3;have H1:(impl_SetList.l0 k a0 ([]:List Int) 0)=some r:=by rw[if_pos rfl]at H;exact H
  clear H;have H:=H1;clear H1;have H':=Aside0.mk H;clear H;go_enter Try.func35,Try.ntmps35;go_wp2_with (first|((with_reducible refine gate_callee (f:=45) rfl ?_);refine gl_ (some 6) Try.func45 #[.int .i64 a0] ?_;(with_reducible refine (impl_SetOk.calls a0 true _ A2.out).mono ?_);rintro e w' ⟨rfl,⟨nd,rfl⟩⟩;refine ⟨_,rfl,?_⟩));go_loopg [3,8] k (fun kq v3 v8 w'=>∃ (x3_1:List Int) (x8_1:Int),v8=.int .i64 x8_1∧Aside0 (impl_SetList.l0 kq a0 x3_1 x8_1=some r)∧Aside0 (kq≤k)∧Aside0 (Kd.R (Kd.int .i64) 3 w' w.heap.size (fun _=>True) v3 x3_1)∧Aside0 (Below w.heap.size w w'))
  case atStart=>exact ⟨(([]:List Int)),(0),vv,H',⟨Nat.le_refl _⟩,⟨by first|exact Kd.R_nil _ _ _ _ _|exact Kd.N_nil _ _ _ _ _|exact Kd.V_nil _ _ _ _ _|exact Kd.Q_nil _ _ _ _ _|exact Kd.S_nil _ _ _ _ _⟩,⟨zS HB.out⟩⟩
  case round=>
   clear H';try clear p2
   try clear c3
   obtain ⟨x3_1,x8_1,rfl,HA,HK1,ac,HB⟩:=hrel
   cases gk with
   | zero=>exact absurd HA.out (by simp[impl_SetList.l0])
   | succ k1=>
    have H:=HA.out;clear HA;simp only[impl_SetList.l0]at H;by_cases c4:x8_1<31
    ·rw[if_pos c4]at H;have al:decide (x8_1<31)=true:=decide_eq_true c4;clear c4;replace H:=bI H;obtain ⟨ad,ai,H⟩:=H;replace H:(if ad=true then (if x3_1.length<17592186044416 then (impl_SetList.l0 k1 a0 (x3_1 ++ [x8_1]) (wrap64 (x8_1+1))) else (none)) else (impl_SetList.l0 k1 a0 x3_1 (wrap64 (x8_1+1))))=some r:=H;have A5:=Aside0.mk ai;clear ai;by_cases c6:ad=true
     ·subst c6;have H1:(if x3_1.length<17592186044416 then (impl_SetList.l0 k1 a0 (x3_1 ++ [x8_1]) (wrap64 (x8_1+1))) else (none))=some r:=by rw[if_pos rfl]at H;exact H
      clear H;have H:=H1;clear H1;by_cases c7:x3_1.length<17592186044416
      ·rw[if_pos c7]at H;have LMc7:=Aside0.mk c7;clear c7;obtain ⟨ae,aa⟩:∃ y_:List Int,y_=(x3_1 ++ [x8_1]):=⟨_,rfl⟩;replace H:(impl_SetList.l0 k1 a0 ae (wrap64 (x8_1+1)))=some r:=by first|(rw[aa];with_reducible exact H)|(have H2_:=(Option.bind_some _ _).symm.trans H;rw[aa];with_reducible exact H2_)|(have H2_:=(Option.bind_some _ _).symm.trans H;with_reducible exact H2_)|with_reducible exact H|(rw[aa];exact H)|exact H
       have af:=Aside0.mk aa;clear aa;have H':=Aside0.mk H;clear H;go_wp2_with (first|((with_reducible refine gate_callee (f:=20) rfl ?_);refine gl_ (some 13) Try.func20 #[.int .i64 a0,.int .i64 x8_1] ?_;(with_reducible refine (impl_has.calls a0 x8_1 true _ A5.out).mono ?_);rintro e w' ⟨rfl,⟨nd,rfl⟩⟩;refine ⟨_,rfl,?_⟩)|((with_reducible refine gate_builtin (b:=.append) (xs:=#[.tmp 14,.tmp 16]) rfl ?_);at_builtin;refine Kd.R_append (Kd.int .i64) (w0:=w) w.heap.size rfl (.tmp 14) (.tmp 16) 37 3 (.int .i64 0) 8 rfl Try.underlying37 info3 rfl (by decide) (by omega) u3 x3_1 x8_1 [.int .i64 x8_1] (fun _=>True) (fun _=>False) rfl rfl ?aP (fun _ hk=>hk.elim) ?aF ?aO ?aB ?aS ?aL ?_;(case aP=>exact rfl);(case aB=>exact (zS HB.out));(case aF=>exact (fun _ _=>trivial));(case aO=>exact (zR ac.out));(case aS=>exact (below_size (zS HB.out)));(case aL=>have:=LMc7.out;omega);intro am w8 ho hb hg hat;rw[← af.out]at ho;have aj:=Aside0.mk (hb);have ak:=Aside0.mk (ho);clear HB;clear ac;have HB:=aj;have ag:=ak;clear aj ak;clear ho hb hg hat));go_roundg k1
       case measure=>have:=HK1.out;omega
       case rel=>exact ⟨(ae),(wrap64 (x8_1+1)),vv,H',⟨by have:=HK1.out;omega⟩,⟨zR ag.out⟩,⟨zS HB.out⟩⟩
      rw[if_neg c7]at H;exact absurd H (by simp)
     replace c6:=Bool.eq_false_iff.mpr c6;subst c6;have H1:(impl_SetList.l0 k1 a0 x3_1 (wrap64 (x8_1+1)))=some r:=by rw[if_neg (show ¬ (false=true) by decide)]at H;exact H
     clear H;have H:=H1;clear H1;have H':=Aside0.mk H;clear H;go_wp2_with (first|((with_reducible refine gate_callee (f:=20) rfl ?_);refine gl_ (some 13) Try.func20 #[.int .i64 a0,.int .i64 x8_1] ?_;(with_reducible refine (impl_has.calls a0 x8_1 false _ A5.out).mono ?_);rintro e w' ⟨rfl,⟨nd,rfl⟩⟩;refine ⟨_,rfl,?_⟩));go_roundg k1
     case measure=>have:=HK1.out;omega
     case rel=>exact ⟨(x3_1),(wrap64 (x8_1+1)),vv,H',⟨by have:=HK1.out;omega⟩,⟨zR ac.out⟩,⟨zS HB.out⟩⟩
    rw[if_neg c4]at H;have al:decide (x8_1<31)=false:=decide_eq_false c4;clear c4;obtain rfl:=Option.some.inj H;go_wp2;go_ret;exact ⟨_,vw,by (with_reducible repeat (first|apply Kd.R_alloc|apply Kd.R_drewN|apply Kd.R_drew));exact ac.out,zS HB.out⟩
 replace c3:=Bool.eq_false_iff.mpr c3;subst c3;have H1:(some ([]:List Int))=some r:=by rw[if_neg (show ¬ (false=true) by decide)]at H;exact H
 clear H;have H:=H1;clear H1;obtain rfl:=Option.some.inj H;go_enter Try.func35,Try.ntmps35;go_wp2_with (first|((with_reducible refine gate_callee (f:=45) rfl ?_);refine gl_ (some 6) Try.func45 #[.int .i64 a0] ?_;(with_reducible refine (impl_SetOk.calls a0 false _ A2.out).mono ?_);rintro e w' ⟨rfl,⟨nd,rfl⟩⟩;refine ⟨_,rfl,?_⟩));go_ret;exact ⟨_,vw,by first|exact Kd.R_nil _ _ _ _ _|exact Kd.N_nil _ _ _ _ _|exact Kd.V_nil _ _ _ _ _|exact Kd.Q_nil _ _ _ _ _|exact Kd.S_nil _ _ _ _ _,zS HB.out⟩
section
open Go.Proofs.Ytbfghpbmalpdbaa.Short2.T
abbrev impl_meets_2.bl0:Array Bool:=#[f,f,f,f,f,f,f,f,f,f,f,f,f]
abbrev impl_meets_2.bl1:Array Bool:=#[t,f,f,f,f,f,f,f,f,f,f,f,f]
abbrev impl_meets_2.bl2:Array Bool:=#[t,f,t,f,f,f,f,f,f,f,f,f,f]
abbrev impl_meets_2.bl3:Array Bool:=#[t,f,t,f,f,t,f,f,f,f,f,f,f]
abbrev impl_meets_2.bl4:Array Bool:=#[t,f,t,f,f,t,f,t,f,f,f,f,f]
abbrev impl_meets_2.bl5:Array Bool:=#[t,t,t,f,f,t,f,t,f,f,f,f,f]
abbrev impl_meets_2.bl6:Array Bool:=#[t,t,t,t,f,t,f,t,f,f,f,f,f]
abbrev impl_meets_2.bl7:Array Bool:=#[t,t,t,t,f,t,t,t,f,f,f,f,f]
abbrev impl_meets_2.bl8:Array Bool:=#[t,t,t,t,f,t,t,t,t,f,f,f,f]
abbrev impl_meets_2.bl9:Array Bool:=#[t,t,t,t,t,t,t,t,t,f,f,f,f]
abbrev impl_meets_2.bl10:Array Bool:=#[t,t,t,t,t,t,t,t,t,t,f,f,f]
abbrev impl_meets_2.bl11:Array Bool:=#[t,t,t,t,t,t,t,t,t,t,t,f,f]
abbrev impl_meets_2.bl12:Array Bool:=#[t,t,t,t,t,t,t,t,t,t,t,t,f]
abbrev impl_meets_2.bl13:Array Bool:=#[t,t,t,t,t,t,t,t,t,t,t,t,t]
end
def impl_meets_2.f (k:Nat) (a0_0:Int) (a0_1:Int) (a1_0:Int) (a1_1:Int):Option (Int):=(cmp_Compare_int.f a0_0 a1_0).bind fun t267=>((cmp_Compare_int.f a0_1 a1_1).bind fun t268=>((cmp_Or_int.f k (([t267,t268]:List Int))).bind fun t272=>(some t272)))
theorem impl_meets_2.mono:∀ a0 a1 a2 a3 k,LeO (impl_meets_2.f k a0 a1 a2 a3) (impl_meets_2.f (k+1) a0 a1 a2 a3):=by
 intro a0 a1 a2 a3 k;unfold impl_meets_2.f;repeat' first
   | (with_reducible exact cmp_Or_int.mono _ _)
   | (with_reducible exact LeO.refl _)
   | (with_reducible exact LeO.none _)
   | (with_reducible refine LeO.ite ?_ ?_)
   | (with_reducible refine LeO.bind ?_ (fun _=>?_))
   | exact cmp_Or_int.mono _ _
   | exact LeO.none _
   | refine LeO.ite ?_ ?_
   | refine LeO.bind ?_ (fun _=>?_)
def impl_meets_2.T1:Bool × List (List Nat × List Nat):=(true,[([],[]),([0],[0]),([],[]),([2],[2]),([1,3],[1,3]),([],[]),([5],[5]),([],[]),([7],[7]),([6,8,4],[6,8]),([4,9],[4,9]),([10,9],[10]),([11,11,0,1,2,3,4,5,6,7,8,9,10,11],[11])])
def impl_meets_2.B1:List Nat:=[0,1,0,4,15,0,32,0,128,511,1023,2047,4095]
theorem impl_meets_2.tab1:rtab .any (opsOf Try.f37 1)=impl_meets_2.T1:=by kernel_rfl
theorem impl_meets_2.bits1:waitsOk impl_meets_2.T1.2 impl_meets_2.B1=true:=by kernel_rfl
open Go.Proofs.Ytbfghpbmalpdbaa.Short2 in
set_option maxHeartbeats 8000000 in
set_option maxRecDepth 100000 in
theorem impl_meets_2.calls (k:Nat) (a0_0:Int) (a0_1:Int) (a1_0:Int) (a1_1:Int) (r:Int) (w:World) (h:impl_meets_2.f k a0_0 a0_1 a1_0 a1_1=some r) :
  Calls Try.prog 37 #[.agg #[.int .i64 a0_0,.int .i64 a0_1],.agg #[.int .i64 a1_0,.int .i64 a1_1]] w fun e w'=>e=.returned (.int .i64 r)∧Below w.heap.size w w':=by
 have hu49:=Try.underlying49;have HB:=Aside0.mk (Below.refl w.heap.size w);have H:((cmp_Compare_int.f a0_0 a1_0).bind fun ad=>((cmp_Compare_int.f a0_1 a1_1).bind fun ac=>((cmp_Or_int.f k (([ad,ac]:List Int))).bind fun ae=>(some ae))))=some r:=h;clear h;replace H:=bI H;obtain ⟨ad,am,H⟩:=H;replace H:((cmp_Compare_int.f a0_1 a1_1).bind fun ac=>((cmp_Or_int.f k (([ad,ac]:List Int))).bind fun ae=>(some ae)))=some r:=H;have A3:=Aside0.mk am;clear am;replace H:=bI H;obtain ⟨ac,an,H⟩:=H;replace H:((cmp_Or_int.f k (([ad,ac]:List Int))).bind fun ae=>(some ae))=some r:=H;have A4:=Aside0.mk an;clear an;obtain ⟨ah,af⟩:∃ y_:List Int,y_=(([ad,ac]:List Int)):=⟨_,rfl⟩;replace H:((cmp_Or_int.f k ah).bind fun ae=>(some ae))=some r:=by first|(rw[af];with_reducible exact H)|(have H2_:=(Option.bind_some _ _).symm.trans H;rw[af];with_reducible exact H2_)|(have H2_:=(Option.bind_some _ _).symm.trans H;with_reducible exact H2_)|with_reducible exact H|(rw[af];exact H)|exact H
 have ai:=Aside0.mk af;clear af;replace H:=bI H;obtain ⟨ae,ao,H⟩:=H;replace H:(some ae)=some r:=H;have A5:=Aside0.mk ao;clear ao;obtain rfl:=Option.some.inj H;go_enter Try.func37,Try.ntmps37;try go_wp2_with (first|((with_reducible refine gate_dst (N:=2) rfl ?_);refine bx_ 2 #[.int .i64 a0_0,.int .i64 a0_1] 49 ?_;intro aj hg w6 hbox hb;have aa:=Aside0.mk (hbox);have av:=xG HB hg;have aw:=xG HB hg;replace HB:=xS HB hb;clear hb hbox hg)|((with_reducible refine gate_dst (N:=3) rfl ?_);refine bx_ 3 #[.int .i64 a1_0,.int .i64 a1_1] 49 ?_;intro ak hg w7 hbox hb;have ab:=Aside0.mk (hbox);have ax:=xG HB hg;have ay:=xG HB hg;replace HB:=xS HB hb;have ap:=xN aa hg;have aq:=xM aa hg;replace aa:=xB aa hb;clear hb hbox hg))
 replace aa:=Aside0.mk (blk_drew aa.out);replace ab:=Aside0.mk (blk_drew ab.out);replace HB:=Aside0.mk (below_drew1 HB.out);refine start_ (n:=13) (S:=fun w'=>w'.cell? ⟨aj,0,none⟩=some (.int .i64 a0_0)∧w'.cell? ⟨aj,1,none⟩=some (.int .i64 a0_1)∧w'.cell? ⟨ak,0,none⟩=some (.int .i64 a1_0)∧w'.cell? ⟨ak,1,none⟩=some (.int .i64 a1_1)) (ds:=[]) bl0 (by kernel_rfl) rfl rfl ⟨b1 aa 0,b1 aa 1,b1 ab 0,b1 ab 1⟩ (fun hHeld=>?_);refine with_tabW impl_meets_2.tab1 impl_meets_2.bits1 (fun HT_ HW_=>?_);generalize w7.drew=w8 at aa ab HB hHeld ⊢;refine pv_ 0 (some 5) bl1 HT_ ?_
 refine pv_ 2 (some 7) bl2 HT_ ?_
 refine pv_ 5 (some 10) bl3 HT_ ?_
 refine pv_ 7 (some 12) bl4 HT_ ?_
 refine tk_ 1 (some 6) bl5 HT_ HW_ hHeld ?_
 refine tk_ 3 (some 8) bl6 HT_ HW_ hHeld ?_
 refine tk_ 6 (some 11) bl7 HT_ HW_ hHeld ?_
 refine tk_ 8 (some 13) bl8 HT_ HW_ hHeld ?_
 refine on_ 4 (some 9) bl9 HT_ (fun K hK=>?_);refine gs_ Try.func39 #[.int .i64 a0_0,.int .i64 a1_0] ?_
 with_reducible refine (cmp_Compare_int.calls a0_0 a1_0 ad _ A3.out).mono ?_
 rintro e w' ⟨rfl,⟨nd,rfl⟩⟩;refine ⟨_,rfl,?_⟩;refine hK.out _ _ ⟨b1 aa 0,b1 aa 1,b1 ab 0,b1 ab 1⟩ (fun hHeld=>?_);clear hK K;refine nr_ (some 9) ?_
 refine on_ 9 (some 14) bl10 HT_ (fun K hK=>?_);refine gs_ Try.func39 #[.int .i64 a0_1,.int .i64 a1_1] ?_
 with_reducible refine (cmp_Compare_int.calls a0_1 a1_1 ac _ A4.out).mono ?_
 rintro e w' ⟨rfl,⟨nd,rfl⟩⟩;refine ⟨_,rfl,?_⟩;refine hK.out _ _ ⟨b1 aa 0,b1 aa 1,b1 ab 0,b1 ab 1⟩ (fun hHeld=>?_);clear hK K;refine nr_ (some 14) ?_
 refine on_ 10 (some 15) bl11 HT_ (fun K hK=>?_);refine rl_ (Kd.int .i64) 3 15 ([ad,ac]:List Int) [.int .i64 ad,.int .i64 ac] (Reps.one (show Kd.M (Kd.int .i64) _ _ _ ad [.int .i64 ad] from rfl) (Reps.one (show Kd.M (Kd.int .i64) _ _ _ ac [.int .i64 ac] from rfl) (Reps.none _ _))) ?_
 intro az w9 ho10 hb hg_ hnew_;clear hg_ hnew_;(first|rw[← ai.out]at ho10|(simp only[Int.reduceToNat]at ho10;rw[← ai.out]at ho10));have ag:=rW0 ho10 HB;replace aa:=xB aa hb;replace ab:=xB ab hb;replace HB:=xS HB hb;clear hb ho10;obtain ⟨ar,au,al⟩:=Kd.R_slice ag.out;(first|subst al|(injection al with f1_ f2_ f3_;have f4_:=f1_.symm;have f5_:=f3_.symm;clear f1_ f2_ f3_;subst f4_;subst f5_));refine hK.out _ _ ⟨b1 aa 0,b1 aa 1,b1 ab 0,b1 ab 1⟩ (fun hHeld=>?_);clear hK K;refine nr_ (some 15) ?_
 refine on_ 11 (some 16) bl12 HT_ (fun K hK=>?_);refine gs_ Try.func38 #[.slice ar ah.length au] ?_
 with_reducible refine (cmp_Or_int.calls k _ _ ah ae _ ?side1 ?side2 A5.out).mono ?_
 (case side1=>exact sC ag);(case side2=>exact sL ag);rintro e w' ⟨rfl,⟨nd,rfl⟩⟩;refine ⟨_,rfl,?_⟩;refine hK.out _ _ ⟨b1 aa 0,b1 aa 1,b1 ab 0,b1 ab 1⟩ (fun hHeld=>?_);clear hK K;refine nr_ (some 16) ?_
 refine pv_ 12 (some 4) bl13 HT_ ?_
 refine done_ (done_of HT_.out (by kernel_rfl)) ?_
 try go_wp2
 go_ret;exact ⟨vw,zS HB.out⟩
end Go.Proofs.Ytbfghpbmalpdbaa.MFnExactGenMeet
