import Derived.Test.YtbfghpbmalpdbaaMFnExactGenMeetx0
import Derived.Test.YtbfghpbmalpdbaaMFnExactGenMeetx7
import Derived.Test.YtbfghpbmalpdbaaMFnExactGenMeetx8
import Derived.Test.YtbfghpbmalpdbaaMFnExactGenMeetx10
import Derived.Test.YtbfghpbmalpdbaaMFnExactGenMeetx11
namespace Go.Proofs.Ytbfghpbmalpdbaa.MFnExactGenMeet
open Go.RowKit Go.Proofs.YtbfghpbmalpdbaaW.PrintWords Go.Proofs.YtbfghpbmalpdbaaW.PrintLast Go.Proofs.YtbfghpbmalpdbaaW.PrintMore Go.Proofs.Ytbfghpbmalpdbaa.Short6
attribute [local go_sem] max2_int min2_int max_two min_two max_three min_three max_four min_four
set_option linter.unusedVariables false
set_option linter.unusedSimpArgs false
mutual
def impl_GenMeet.j0:Nat→Bool→Int→Int→Int→Int→List (S43)→Int→Int→Int→Int→List (S43)→Option (Int × Int × Int × Int × (List (S43)) × Bool)
 | 0,_,_,_,_,_,_,_,_,_,_,_=>none
 | k+1,x32,x274000,x274001,x274002,x274003,x274004,x275000,x275001,x275002,x275003,x275004=>if x32=true then (some (0,0,0,0,([]:List (S43)),false)) else ((impl_meets.f k x274000 x274001 x274002 x274003 x274004 x275000 x275001 x275002 x275003 x275004).bind fun t278=>(if (t278.length:Int)>31 then (some (0,0,0,0,([]:List (S43)),false)) else (impl_GenMeet.l0 k t278 t278 (t278.length:Int) 0 x274000 x274001 x274002 x274003 x274004 x275000 x275001 x275002 x275003 x275004 x274000 (t278.length:Int) 0 (wrap64 (x274003+x275003)))))
def impl_GenMeet.l0:Nat→List (S49)→List (S49)→Int→Int→Int→Int→Int→Int→List (S43)→Int→Int→Int→Int→List (S43)→Int→Int→Int→Int→Option (Int × Int × Int × Int × (List (S43)) × Bool)
 | 0,_,_,_,_,_,_,_,_,_,_,_,_,_,_,_,_,_,_=>none
 | k+1,x6,x51,x52,x53,x274000,x274001,x274002,x274003,x274004,x275000,x275001,x275002,x275003,x275004,x282000,x282001,x282002,x282003=>if x53<x52 then (if 0≤x53 then (if x53<(x51.length:Int) then ((impl_has.f x274002 ((rd_T49 x51 x53).f0)).bind fun t284=>(if t284=true then ((impl_has.f x275002 ((rd_T49 x51 x53).f1)).bind fun t285=>(if t285=true then ((impl_only.f x53).bind fun t286=>(impl_GenMeet.l0 k x6 x51 x52 (wrap64 (x53+1)) x274000 x274001 x274002 x274003 x274004 x275000 x275001 x275002 x275003 x275004 x282000 x282001 (Go.bits .or .i64 x282002 t286) x282003)) else (impl_GenMeet.l0 k x6 x51 x52 (wrap64 (x53+1)) x274000 x274001 x274002 x274003 x274004 x275000 x275001 x275002 x275003 x275004 x282000 x282001 x282002 x282003))) else (impl_GenMeet.l0 k x6 x51 x52 (wrap64 (x53+1)) x274000 x274001 x274002 x274003 x274004 x275000 x275001 x275002 x275003 x275004 x282000 x282001 x282002 x282003))) else (none)) else (none)) else ((impl_metEdges.f x274000 x274001 x274002 x274003 x274004 x275000 x275001 x275002 x275003 x275004 x6).bind fun t287=>((impl_GenOk.f k x282000 x282001 x282002 x282003 t287).bind fun t290=>(if t290=true then (some (x282000,x282001,x282002,x282003,t287,true)) else (some (0,0,0,0,([]:List (S43)),false)))))
end
def impl_GenMeet.f (k:Nat) (a0_0:Int) (a0_1:Int) (a0_2:Int) (a0_3:Int) (l0_4:List (S43)) (a1_0:Int) (a1_1:Int) (a1_2:Int) (a1_3:Int) (l1_4:List (S43)):Option (Int × Int × Int × Int × (List (S43)) × Bool):=if a0_0=a1_0 then ((impl_GenOk.f k a0_0 a0_1 a0_2 a0_3 l0_4).bind fun t276=>(if t276=true then ((impl_GenOk.f k a1_0 a1_1 a1_2 a1_3 l1_4).bind fun t277=>(if t277=true then (impl_GenMeet.j0 k (decide ((wrap64 (a0_3+a1_3))>4)) a0_0 a0_1 a0_2 a0_3 l0_4 a1_0 a1_1 a1_2 a1_3 l1_4) else (impl_GenMeet.j0 k true a0_0 a0_1 a0_2 a0_3 l0_4 a1_0 a1_1 a1_2 a1_3 l1_4))) else (impl_GenMeet.j0 k true a0_0 a0_1 a0_2 a0_3 l0_4 a1_0 a1_1 a1_2 a1_3 l1_4))) else (impl_GenMeet.j0 k true a0_0 a0_1 a0_2 a0_3 l0_4 a1_0 a1_1 a1_2 a1_3 l1_4)
theorem impl_GenMeet.mono_l:∀ k,(∀ y0 y1 y2 y3 y4 y5 y6 y7 y8 y9 y10,LeO (impl_GenMeet.j0 k y0 y1 y2 y3 y4 y5 y6 y7 y8 y9 y10) (impl_GenMeet.j0 (k+1) y0 y1 y2 y3 y4 y5 y6 y7 y8 y9 y10))∧(∀ y0 y1 y2 y3 y4 y5 y6 y7 y8 y9 y10 y11 y12 y13 y14 y15 y16 y17,LeO (impl_GenMeet.l0 k y0 y1 y2 y3 y4 y5 y6 y7 y8 y9 y10 y11 y12 y13 y14 y15 y16 y17) (impl_GenMeet.l0 (k+1) y0 y1 y2 y3 y4 y5 y6 y7 y8 y9 y10 y11 y12 y13 y14 y15 y16 y17))
 | 0=>⟨fun _ _ _ _ _ _ _ _ _ _ _ r h=>by simp[impl_GenMeet.j0]at h,fun _ _ _ _ _ _ _ _ _ _ _ _ _ _ _ _ _ _ r h=>by simp[impl_GenMeet.l0]at h⟩
 | k+1=>by
  obtain ⟨ih0,ih1⟩:=impl_GenMeet.mono_l k;refine ⟨?_,?_⟩
  ·intro y0 y1 y2 y3 y4 y5 y6 y7 y8 y9 y10;unfold impl_GenMeet.j0;repeat' first
   | (with_reducible exact ih0 _ _ _ _ _ _ _ _ _ _ _)
   | (with_reducible exact ih1 _ _ _ _ _ _ _ _ _ _ _ _ _ _ _ _ _ _)
   | (with_reducible exact impl_GenOk.mono _ _ _ _ _ _)
   | (with_reducible exact impl_meets.mono _ _ _ _ _ _ _ _ _ _ _)
   | (with_reducible exact LeO.refl _)
   | (with_reducible exact LeO.none _)
   | (with_reducible refine LeO.ite ?_ ?_)
   | (with_reducible refine LeO.bind ?_ (fun _=>?_))
   | exact ih0 _ _ _ _ _ _ _ _ _ _ _
   | exact ih1 _ _ _ _ _ _ _ _ _ _ _ _ _ _ _ _ _ _
   | exact impl_GenOk.mono _ _ _ _ _ _
   | exact impl_meets.mono _ _ _ _ _ _ _ _ _ _ _
   | exact LeO.none _
   | refine LeO.ite ?_ ?_
   | refine LeO.bind ?_ (fun _=>?_)
  intro y0 y1 y2 y3 y4 y5 y6 y7 y8 y9 y10 y11 y12 y13 y14 y15 y16 y17;unfold impl_GenMeet.l0;repeat' first
  | (with_reducible exact ih0 _ _ _ _ _ _ _ _ _ _ _)
  | (with_reducible exact ih1 _ _ _ _ _ _ _ _ _ _ _ _ _ _ _ _ _ _)
  | (with_reducible exact impl_GenOk.mono _ _ _ _ _ _)
  | (with_reducible exact impl_meets.mono _ _ _ _ _ _ _ _ _ _ _)
  | (with_reducible exact LeO.refl _)
  | (with_reducible exact LeO.none _)
  | (with_reducible refine LeO.ite ?_ ?_)
  | (with_reducible refine LeO.bind ?_ (fun _=>?_))
  | exact ih0 _ _ _ _ _ _ _ _ _ _ _
  | exact ih1 _ _ _ _ _ _ _ _ _ _ _ _ _ _ _ _ _ _
  | exact impl_GenOk.mono _ _ _ _ _ _
  | exact impl_meets.mono _ _ _ _ _ _ _ _ _ _ _
  | exact LeO.none _
  | refine LeO.ite ?_ ?_
  | refine LeO.bind ?_ (fun _=>?_)
theorem impl_GenMeet.mono:∀ a0 a1 a2 a3 a4 a5 a6 a7 a8 a9 k,LeO (impl_GenMeet.f k a0 a1 a2 a3 a4 a5 a6 a7 a8 a9) (impl_GenMeet.f (k+1) a0 a1 a2 a3 a4 a5 a6 a7 a8 a9):=by
 intro a0 a1 a2 a3 a4 a5 a6 a7 a8 a9 k;obtain ⟨ih0,ih1⟩:=impl_GenMeet.mono_l k;unfold impl_GenMeet.f;repeat' first
   | (with_reducible exact ih0 _ _ _ _ _ _ _ _ _ _ _)
   | (with_reducible exact ih1 _ _ _ _ _ _ _ _ _ _ _ _ _ _ _ _ _ _)
   | (with_reducible exact impl_GenOk.mono _ _ _ _ _ _)
   | (with_reducible exact impl_meets.mono _ _ _ _ _ _ _ _ _ _ _)
   | (with_reducible exact LeO.refl _)
   | (with_reducible exact LeO.none _)
   | (with_reducible refine LeO.ite ?_ ?_)
   | (with_reducible refine LeO.bind ?_ (fun _=>?_))
   | exact ih0 _ _ _ _ _ _ _ _ _ _ _
   | exact ih1 _ _ _ _ _ _ _ _ _ _ _ _ _ _ _ _ _ _
   | exact impl_GenOk.mono _ _ _ _ _ _
   | exact impl_meets.mono _ _ _ _ _ _ _ _ _ _ _
   | exact LeO.none _
   | refine LeO.ite ?_ ?_
   | refine LeO.bind ?_ (fun _=>?_)
open Go.Proofs.Ytbfghpbmalpdbaa.Short2 in
set_option maxHeartbeats 8000000 in
set_option maxRecDepth 100000 in
theorem impl_GenMeet.calls (k:Nat) (a0_0:Int) (a0_1:Int) (a0_2:Int) (a0_3:Int) (A0_4:Option Addr) (c0_4:Nat) (l0_4:List (S43)) (a1_0:Int) (a1_1:Int) (a1_2:Int) (a1_3:Int) (A1_4:Option Addr) (c1_4:Nat) (l1_4:List (S43)) (r1:Int) (r2:Int) (r3:Int) (r4:Int) (r5:List (S43)) (r6:Bool) (w:World) (hr0_4:Kd.C k43 w A0_4 l0_4.length l0_4) (hc0_4:l0_4.length≤c0_4) (hr1_4:Kd.C k43 w A1_4 l1_4.length l1_4) (hc1_4:l1_4.length≤c1_4) (h:impl_GenMeet.f k a0_0 a0_1 a0_2 a0_3 l0_4 a1_0 a1_1 a1_2 a1_3 l1_4=some (r1,r2,r3,r4,r5,r6)) :
  Calls Try.prog 7 #[.agg #[.int .i64 a0_0,.int .i64 a0_1,.int .i64 a0_2,.int .i64 a0_3,.slice A0_4 l0_4.length c0_4],.agg #[.int .i64 a1_0,.int .i64 a1_1,.int .i64 a1_2,.int .i64 a1_3,.slice A1_4 l1_4.length c1_4]] w fun e w'=>∃ v4_:Value,e=.returned (.tuple #[.agg #[.int .i64 r1,.int .i64 r2,.int .i64 r3,.int .i64 r4,v4_],.bool r6])∧Kd.R k43 43 w' w.heap.size (fun _=>True) v4_ r5∧Below w.heap.size w w':=by
 have hu28:=Try.underlying28;have hu49:=Try.underlying49;have HR0_4:=Aside0.mk hr0_4;have HC0_4:=Aside0.mk hc0_4;clear hr0_4 hc0_4;have HR1_4:=Aside0.mk hr1_4;have HC1_4:=Aside0.mk hc1_4;clear hr1_4 hc1_4;have HB:=Aside0.mk (Below.refl w.heap.size w);have H:(if a0_0=a1_0 then ((impl_GenOk.f k a0_0 a0_1 a0_2 a0_3 l0_4).bind fun dB=>(if dB=true then ((impl_GenOk.f k a1_0 a1_1 a1_2 a1_3 l1_4).bind fun aE=>(if aE=true then (impl_GenMeet.j0 k (decide ((wrap64 (a0_3+a1_3))>4)) a0_0 a0_1 a0_2 a0_3 l0_4 a1_0 a1_1 a1_2 a1_3 l1_4) else (impl_GenMeet.j0 k true a0_0 a0_1 a0_2 a0_3 l0_4 a1_0 a1_1 a1_2 a1_3 l1_4))) else (impl_GenMeet.j0 k true a0_0 a0_1 a0_2 a0_3 l0_4 a1_0 a1_1 a1_2 a1_3 l1_4))) else (impl_GenMeet.j0 k true a0_0 a0_1 a0_2 a0_3 l0_4 a1_0 a1_1 a1_2 a1_3 l1_4))=some (r1,r2,r3,r4,r5,r6):=h;clear h;have HC3:=Aside0.mk H;clear H;go_enter Try.func7,Try.ntmps7;go_upto_region 1 with (first|((with_reducible refine gate_dst (N:=2) rfl ?_);refine bx_ 2 #[.int .i64 a0_0,.int .i64 a0_1,.int .i64 a0_2,.int .i64 a0_3,.slice A0_4 l0_4.length c0_4] 28 ?_;intro dC hg w4 hbox hb;have ac:=Aside0.mk (hbox);have kG:=xG HB hg;have kH:=xG HB hg;replace HB:=xS HB hb;clear hb hbox hg)|((with_reducible refine gate_dst (N:=3) rfl ?_);refine bx_ 3 #[.int .i64 a1_0,.int .i64 a1_1,.int .i64 a1_2,.int .i64 a1_3,.slice A1_4 l1_4.length c1_4] 28 ?_;intro dD hg w5 hbox hb;have ad:=Aside0.mk (hbox);have kI:=xG HB hg;have kJ:=xG HB hg;replace HB:=xS HB hb;have ak:=xN ac hg;have fX:=xM ac hg;replace ac:=xB ac hb;clear hb hbox hg)|((with_reducible refine gate_dst (N:=4) rfl ?_);refine bx_ 4 #[.int .i64 0,.int .i64 0,.int .i64 0,.int .i64 0,.slice none 0 0] 28 ?_;intro aB hg w6 hbox hb;have ae:=Aside0.mk (hbox);have kK:=xG HB hg;have kL:=xG HB hg;replace HB:=xS HB hb;have al:=xN ac hg;have dI:=xM ac hg;replace ac:=xB ac hb;have am:=xN ad hg;have dJ:=xM ad hg;replace ad:=xB ad hb;clear hb hbox hg))
 (try simp only[Act.put,q3]);go_cut [32] (fun jv wc=>∃ (kq:Nat) (aQ:Bool),jv=.bool aQ∧Aside0 (impl_GenMeet.j0 kq aQ a0_0 a0_1 a0_2 a0_3 l0_4 a1_0 a1_1 a1_2 a1_3 l1_4=some (r1,r2,r3,r4,r5,r6))∧Aside0 (kq≤k)∧Aside0 (wc.heap[dC]?=some (.cells #[.int .i64 a0_0,.int .i64 a0_1,.int .i64 a0_2,.int .i64 a0_3,(.slice A0_4 l0_4.length c0_4)] 28 (0,0)))∧Aside0 (wc.heap[dD]?=some (.cells #[.int .i64 a1_0,.int .i64 a1_1,.int .i64 a1_2,.int .i64 a1_3,(.slice A1_4 l1_4.length c1_4)] 28 (0,0)))∧Aside0 (wc.heap[aB]?=some (.cells #[.int .i64 0,.int .i64 0,.int .i64 0,.int .i64 0,(.slice none 0 0)] 28 (0,0)))∧Aside0 (Below w.heap.size w wc))
 case first=>
  have H:=HC3.out;clear HC3;by_cases c7:a0_0=a1_0
  ·rw[if_pos c7]at H;have aG:(a0_0 == a1_0)=true:=beq_iff_eq.mpr c7;have dM:(a0_0 != a1_0)=false:=bne_eq_false_iff_eq.mpr c7;clear c7;(first|rw[aG]|(simp only[i64_w,i32_w];rw[aG])|skip);replace H:=bI H;obtain ⟨dB,fY,H⟩:=H;replace H:(if dB=true then ((impl_GenOk.f k a1_0 a1_1 a1_2 a1_3 l1_4).bind fun aE=>(if aE=true then (impl_GenMeet.j0 k (decide ((wrap64 (a0_3+a1_3))>4)) a0_0 a0_1 a0_2 a0_3 l0_4 a1_0 a1_1 a1_2 a1_3 l1_4) else (impl_GenMeet.j0 k true a0_0 a0_1 a0_2 a0_3 l0_4 a1_0 a1_1 a1_2 a1_3 l1_4))) else (impl_GenMeet.j0 k true a0_0 a0_1 a0_2 a0_3 l0_4 a1_0 a1_1 a1_2 a1_3 l1_4))=some (r1,r2,r3,r4,r5,r6):=H;have A8:=Aside0.mk fY;clear fY;by_cases c9:dB=true
   ·subst c9;have H1:((impl_GenOk.f k a1_0 a1_1 a1_2 a1_3 l1_4).bind fun aE=>(if aE=true then (impl_GenMeet.j0 k (decide ((wrap64 (a0_3+a1_3))>4)) a0_0 a0_1 a0_2 a0_3 l0_4 a1_0 a1_1 a1_2 a1_3 l1_4) else (impl_GenMeet.j0 k true a0_0 a0_1 a0_2 a0_3 l0_4 a1_0 a1_1 a1_2 a1_3 l1_4)))=some (r1,r2,r3,r4,r5,r6):=by rw[if_pos rfl]at H;exact H
    clear H;have H:=H1;clear H1;replace H:=bI H;obtain ⟨aE,fL,H⟩:=H;replace H:(if aE=true then (impl_GenMeet.j0 k (decide ((wrap64 (a0_3+a1_3))>4)) a0_0 a0_1 a0_2 a0_3 l0_4 a1_0 a1_1 a1_2 a1_3 l1_4) else (impl_GenMeet.j0 k true a0_0 a0_1 a0_2 a0_3 l0_4 a1_0 a1_1 a1_2 a1_3 l1_4))=some (r1,r2,r3,r4,r5,r6):=H;have fZ:=Aside0.mk fL;clear fL;by_cases aT:aE=true
    ·subst aT;have H1:(impl_GenMeet.j0 k (decide ((wrap64 (a0_3+a1_3))>4)) a0_0 a0_1 a0_2 a0_3 l0_4 a1_0 a1_1 a1_2 a1_3 l1_4)=some (r1,r2,r3,r4,r5,r6):=by rw[if_pos rfl]at H;exact H
     clear H;have H:=H1;clear H1;have H':=Aside0.mk H;clear H;obtain ⟨kM,kN⟩:=nn ak;obtain ⟨kO,kP⟩:=nn al;obtain ⟨aU,aV,aW,aX,aY,aZ,ba,bb,bc,bd⟩:=cz5 ac;obtain ⟨kQ,kR⟩:=nn am;obtain ⟨be,bf,bg,bh,bi,bj,bk,bl,bm,bn⟩:=cz5 ad;go_wp2_with (first|(go_at_call 18;(with_reducible refine (impl_GenOk.calls k a0_0 a0_1 a0_2 a0_3 _ _ l0_4 true _ ?side1 ?side2 A8.out).mono ?_);(case side1=>exact zC (Kd.C_below HR0_4.out HB.out));(case side2=>exact HC0_4.out);rintro e mw ⟨rfl,hb⟩;replace ac:=xB ac hb;replace ad:=xB ad hb;replace ae:=xB ae hb;replace HB:=xS HB hb;(try clear hb);(try clear hb2);(try clear hk);(try clear hi);obtain ⟨bo,bp,bq,br,bs,bt,bu,bv,bw,bx⟩:=cz5 ad)|(go_at_call 18;(with_reducible refine (impl_GenOk.calls k a1_0 a1_1 a1_2 a1_3 _ _ l1_4 true _ ?side1 ?side2 fZ.out).mono ?_);(case side1=>exact zC (Kd.C_below HR1_4.out HB.out));(case side2=>exact HC1_4.out);rintro e mx ⟨rfl,hb⟩;replace ac:=xB ac hb;replace ad:=xB ad hb;replace ae:=xB ae hb;replace HB:=xS HB hb;(try clear hb);(try clear hb2);(try clear hk);(try clear hi);obtain ⟨bz,bA,bB,bC,bD,bE,bF,bG,bH,bJ⟩:=cz5 ac;obtain ⟨bK,bL,bM,bN,bO,bP,bQ,bR,bS,bT⟩:=cz5 ad));go_meet
     case rel=>exact ⟨_,(decide ((wrap64 (a0_3+a1_3))>4)),vv,H',⟨by first|omega|exact Nat.le_refl _⟩,⟨zB ac.out⟩,⟨zB ad.out⟩,⟨zB ae.out⟩,⟨zS HB.out⟩⟩
    replace aT:=Bool.eq_false_iff.mpr aT;subst aT;have H1:(impl_GenMeet.j0 k true a0_0 a0_1 a0_2 a0_3 l0_4 a1_0 a1_1 a1_2 a1_3 l1_4)=some (r1,r2,r3,r4,r5,r6):=by rw[if_neg (show ¬ (false=true) by decide)]at H;exact H
    clear H;have H:=H1;clear H1;have H':=Aside0.mk H;clear H;obtain ⟨kS,kT⟩:=nn ak;obtain ⟨kU,kV⟩:=nn al;obtain ⟨bU,bV,bW,bX,bY,bZ,ca,cb,cc,cd⟩:=cz5 ac;obtain ⟨kW,kX⟩:=nn am;obtain ⟨ce,cf,cg,ch,ci,cj,ck,cl,cm,cn⟩:=cz5 ad;go_wp2_with (first|(go_at_call 18;(with_reducible refine (impl_GenOk.calls k a0_0 a0_1 a0_2 a0_3 _ _ l0_4 true _ ?side1 ?side2 A8.out).mono ?_);(case side1=>exact zC (Kd.C_below HR0_4.out HB.out));(case side2=>exact HC0_4.out);rintro e my ⟨rfl,hb⟩;replace ac:=xB ac hb;replace ad:=xB ad hb;replace ae:=xB ae hb;replace HB:=xS HB hb;(try clear hb);(try clear hb2);(try clear hk);(try clear hi);obtain ⟨co,cp,cq,cr,ct,cu,cv,cw,cx,cy⟩:=cz5 ad)|(go_at_call 18;(with_reducible refine (impl_GenOk.calls k a1_0 a1_1 a1_2 a1_3 _ _ l1_4 false _ ?side1 ?side2 fZ.out).mono ?_);(case side1=>exact zC (Kd.C_below HR1_4.out HB.out));(case side2=>exact HC1_4.out);rintro e mz ⟨rfl,hb⟩;replace ac:=xB ac hb;replace ad:=xB ad hb;replace ae:=xB ae hb;replace HB:=xS HB hb;(try clear hb);(try clear hb2);(try clear hk);(try clear hi)));go_meet
    case rel=>exact ⟨_,(true),vv,H',⟨by first|omega|exact Nat.le_refl _⟩,⟨zB ac.out⟩,⟨zB ad.out⟩,⟨zB ae.out⟩,⟨zS HB.out⟩⟩
   replace c9:=Bool.eq_false_iff.mpr c9;subst c9;have H1:(impl_GenMeet.j0 k true a0_0 a0_1 a0_2 a0_3 l0_4 a1_0 a1_1 a1_2 a1_3 l1_4)=some (r1,r2,r3,r4,r5,r6):=by rw[if_neg (show ¬ (false=true) by decide)]at H;exact H
   clear H;have H:=H1;clear H1;have H':=Aside0.mk H;clear H;obtain ⟨kY,kZ⟩:=nn ak;obtain ⟨la,lb⟩:=nn al;obtain ⟨cz,cA,cB,cC,cD,cE,cF,cG,cH,cI⟩:=cz5 ac;obtain ⟨lc,ld⟩:=nn am;obtain ⟨cJ,cK,cL,cM,cN,cO,cP,cQ,cR,cS⟩:=cz5 ad;go_wp2_with (first|(go_at_call 18;(with_reducible refine (impl_GenOk.calls k a0_0 a0_1 a0_2 a0_3 _ _ l0_4 false _ ?side1 ?side2 A8.out).mono ?_);(case side1=>exact zC (Kd.C_below HR0_4.out HB.out));(case side2=>exact HC0_4.out);rintro e mA ⟨rfl,hb⟩;replace ac:=xB ac hb;replace ad:=xB ad hb;replace ae:=xB ae hb;replace HB:=xS HB hb;(try clear hb);(try clear hb2);(try clear hk);(try clear hi)));go_meet
   case rel=>exact ⟨_,(true),vv,H',⟨by first|omega|exact Nat.le_refl _⟩,⟨zB ac.out⟩,⟨zB ad.out⟩,⟨zB ae.out⟩,⟨zS HB.out⟩⟩
  rw[if_neg c7]at H;have aG:(a0_0 == a1_0)=false:=beq_eq_false_iff_ne.mpr c7;have dM:(a0_0 != a1_0)=true:=bne_iff_ne.mpr c7;(first|rw[aG]|(simp only[i64_w,i32_w];rw[aG])|skip);have H':=Aside0.mk H;clear H;obtain ⟨le,lf⟩:=nn ak;obtain ⟨lg,lh⟩:=nn al;obtain ⟨cU,cV,cW,cX,cY,cZ,da,db,dc,dd⟩:=cz5 ac;obtain ⟨li,lj⟩:=nn am;obtain ⟨de,df,dg,dh,di,dj,dk,dl,dm,dn⟩:=cz5 ad;go_wp2;go_meet
  case rel=>exact ⟨_,(true),vv,H',⟨by first|omega|exact Nat.le_refl _⟩,⟨zB ac.out⟩,⟨zB ad.out⟩,⟨zB ae.out⟩,⟨zS HB.out⟩⟩
 case rest=>
  clear HC3;try clear c1
  try clear c2
  try clear p2
  try clear c3
  try clear p6
  try clear c7
  try clear aG
  try clear dM
  try clear c9
  try clear aT
  try clear jw
  try clear jx
  try clear jy
  try clear jz
  try clear jA
  try clear jB
  try clear jC
  try clear jD
  try clear jE
  try clear jF
  try clear jG
  try clear jH
  try clear aU aV aW aX aY
  try clear be bf bg bh bi
  try clear bo bp bq br bs
  try clear bz bA bB bC bD
  try clear bK bL bM bN bO
  try clear bU bV bW bX bY
  try clear ce cf cg ch ci
  try clear co cp cq cr ct
  try clear cz cA cB cC cD
  try clear cJ cK cL cM cN
  try clear cU cV cW cX cY
  try clear de df dg dh di
  try clear aZ ba bb bc bd
  try clear bj bk bl bm bn
  try clear bt bu bv bw bx
  try clear bE bF bG bH bJ
  try clear bP bQ bR bS bT
  try clear bZ ca cb cc cd
  try clear cj ck cl cm cn
  try clear cu cv cw cx cy
  try clear cE cF cG cH cI
  try clear cO cP cQ cR cS
  try clear cZ da db dc dd
  try clear dj dk dl dm dn
  obtain ⟨kq,aQ,rfl,HA,HJ2,ac,ad,ae,HB⟩:=hcut
  cases kq with
  | zero=>exact absurd HA.out (by simp[impl_GenMeet.j0])
  | succ kj2=>
   have H:=HA.out;clear HA;simp only[impl_GenMeet.j0]at H;by_cases dK:aQ=true
   ·subst dK;have H1:(some (0,0,0,0,([]:List (S43)),false))=some (r1,r2,r3,r4,r5,r6):=by rw[if_pos rfl]at H;exact H
    clear H;have H:=H1;clear H1;simp only[Option.some.injEq,Prod.mk.injEq]at H;obtain ⟨rfl,rfl,rfl,rfl,rfl,rfl⟩:=H;obtain ⟨lk,ll⟩:=nn dI;obtain ⟨lm,ln⟩:=nn dJ;obtain ⟨dZ,ea,eb,ec,ed,ee,ef,eg,eh,ei⟩:=cz5 ae;go_wp2;refine bodyPost_ret (results_ct rfl _ _ aB 28 #[.int .i64 0,.int .i64 0,.int .i64 0,.int .i64 0,.slice none 0 0] (0,0) _ rfl (xP5 ae.out) Try.underlying28 rfl (by kernel_rfl)) rfl ?_;exact ⟨_,vw,by first|exact Kd.R_nil _ _ _ _ _|exact Kd.N_nil _ _ _ _ _|exact Kd.V_nil _ _ _ _ _|exact Kd.Q_nil _ _ _ _ _|exact Kd.S_nil _ _ _ _ _,zS HB.out⟩
   replace dK:=Bool.eq_false_iff.mpr dK;subst dK;have H1:((impl_meets.f kj2 a0_0 a0_1 a0_2 a0_3 l0_4 a1_0 a1_1 a1_2 a1_3 l1_4).bind fun aa=>(if (aa.length:Int)>31 then (some (0,0,0,0,([]:List (S43)),false)) else (impl_GenMeet.l0 kj2 aa aa (aa.length:Int) 0 a0_0 a0_1 a0_2 a0_3 l0_4 a1_0 a1_1 a1_2 a1_3 l1_4 a0_0 (aa.length:Int) 0 (wrap64 (a0_3+a1_3)))))=some (r1,r2,r3,r4,r5,r6):=by rw[if_neg (show ¬ (false=true) by decide)]at H;exact H
   clear H;have H:=H1;clear H1;replace H:=bI H;obtain ⟨aa,fM,H⟩:=H;replace H:(if (aa.length:Int)>31 then (some (0,0,0,0,([]:List (S43)),false)) else (impl_GenMeet.l0 kj2 aa aa (aa.length:Int) 0 a0_0 a0_1 a0_2 a0_3 l0_4 a1_0 a1_1 a1_2 a1_3 l1_4 a0_0 (aa.length:Int) 0 (wrap64 (a0_3+a1_3))))=some (r1,r2,r3,r4,r5,r6):=H;have ga:=Aside0.mk fM;clear fM;by_cases aS:(aa.length:Int)>31
   ·rw[if_pos aS]at H;have dN:decide (31<(aa.length:Int))=true:=decide_eq_true aS;have dO:decide (31<aa.length)=true:=decide_eq_true (by omega);clear aS;simp only[Option.some.injEq,Prod.mk.injEq]at H;obtain ⟨rfl,rfl,rfl,rfl,rfl,rfl⟩:=H;obtain ⟨lo,lp⟩:=nn ak;obtain ⟨lq,lr⟩:=nn al;obtain ⟨ej,ek,el,em,en,eo,ep,eq,er,es⟩:=cz5 ac;obtain ⟨ls,lt⟩:=nn am;obtain ⟨et,eu,ev,ew,ex,ey,ez,eA,eB,eC⟩:=cz5 ad;go_wp2_with (first|((with_reducible refine gate_callee (f:=19) rfl ?_);refine gl_ (some 36) Try.func19 #[.agg #[.int .i64 a0_0,.int .i64 a0_1,.int .i64 a0_2,.int .i64 a0_3,.slice A0_4 l0_4.length c0_4],.agg #[.int .i64 a1_0,.int .i64 a1_1,.int .i64 a1_2,.int .i64 a1_3,.slice A1_4 l1_4.length c1_4]] ?_;(with_reducible refine (impl_meets.calls kj2 a0_0 a0_1 a0_2 a0_3 _ _ l0_4 a1_0 a1_1 a1_2 a1_3 _ _ l1_4 aa _ ?side1 ?side2 ?side3 ?side4 ga.out).mono ?_);(case side1=>exact zC (Kd.C_below HR0_4.out HB.out));(case side2=>exact HC0_4.out);(case side3=>exact zC (Kd.C_below HR1_4.out HB.out));(case side4=>exact HC1_4.out);rintro e mB ⟨gc,rfl,ho0,hb⟩;refine ⟨_,rfl,?_⟩;have aD:=rW0 ho0 HB;replace ac:=xB ac hb;replace ad:=xB ad hb;replace ae:=xB ae hb;replace HB:=xS HB hb;(try clear hb);(try clear hb2);(try clear hk);(try clear hi);(try clear ho0);obtain ⟨mo,mp,gd⟩:=Kd.R_slice aD.out;subst gd;obtain ⟨eD,eE,eF,eG,eH,eI,eJ,eK,eL,eM⟩:=cz5 ae));refine bodyPost_ret (results_ct rfl _ _ aB 28 #[.int .i64 0,.int .i64 0,.int .i64 0,.int .i64 0,.slice none 0 0] (0,0) _ rfl (xP5 ae.out) Try.underlying28 rfl (by kernel_rfl)) rfl ?_;exact ⟨_,vw,by first|exact Kd.R_nil _ _ _ _ _|exact Kd.N_nil _ _ _ _ _|exact Kd.V_nil _ _ _ _ _|exact Kd.Q_nil _ _ _ _ _|exact Kd.S_nil _ _ _ _ _,zS HB.out⟩
   rw[if_neg aS]at H;have dN:decide (31<(aa.length:Int))=false:=decide_eq_false aS;have dO:decide (31<aa.length)=false:=decide_eq_false (by omega);clear aS;have H':=Aside0.mk H;clear H;obtain ⟨lu,lv⟩:=nn ak;obtain ⟨lw,lx⟩:=nn al;obtain ⟨eN,eO,eP,eQ,eR,eS,eT,eU,eV,eW⟩:=cz5 ac;obtain ⟨ly,lz⟩:=nn am;obtain ⟨eX,eY,eZ,fa,fb,fc,fd,fe,ff,fg⟩:=cz5 ad;go_wp2_with (first|((with_reducible refine gate_callee (f:=19) rfl ?_);refine gl_ (some 36) Try.func19 #[.agg #[.int .i64 a0_0,.int .i64 a0_1,.int .i64 a0_2,.int .i64 a0_3,.slice A0_4 l0_4.length c0_4],.agg #[.int .i64 a1_0,.int .i64 a1_1,.int .i64 a1_2,.int .i64 a1_3,.slice A1_4 l1_4.length c1_4]] ?_;(with_reducible refine (impl_meets.calls kj2 a0_0 a0_1 a0_2 a0_3 _ _ l0_4 a1_0 a1_1 a1_2 a1_3 _ _ l1_4 aa _ ?side1 ?side2 ?side3 ?side4 ga.out).mono ?_);(case side1=>exact zC (Kd.C_below HR0_4.out HB.out));(case side2=>exact HC0_4.out);(case side3=>exact zC (Kd.C_below HR1_4.out HB.out));(case side4=>exact HC1_4.out);rintro e mC ⟨gc,rfl,ho0,hb⟩;refine ⟨_,rfl,?_⟩;have aD:=rW0 ho0 HB;replace ac:=xB ac hb;replace ad:=xB ad hb;replace ae:=xB ae hb;replace HB:=xS HB hb;(try clear hb);(try clear hb2);(try clear hk);(try clear hi);(try clear ho0);obtain ⟨dE,aJ,ge⟩:=Kd.R_slice aD.out;subst ge;obtain ⟨fh,fi,fj,fk,fl,fm,fn,fo,fp,fq⟩:=cz5 ac;obtain ⟨fr,fs,ft,fu,fv,fw,fx,fy,fz,fA⟩:=cz5 ad)|((with_reducible refine gate_dst (N:=7) rfl ?_);refine bx_ 7 #[.int .i64 0,.int .i64 0,.int .i64 0,.int .i64 0,.slice none 0 0] 28 ?_;intro ap hg mD hbox hb;replace aD:=xR aD hb;have af:=Aside0.mk (hbox);have lA:=xG HB hg;have lB:=xG HB hg;replace HB:=xS HB hb;have ar:=xN ac hg;have aL:=xM ac hg;replace ac:=xB ac hb;have av:=xN ad hg;have aM:=xM ad hg;replace ad:=xB ad hb;have dL:=xN ae hg;have aC:=xM ae hg;replace ae:=xB ae hb;clear hb hbox hg;obtain ⟨lC,lD⟩:=nn aL;obtain ⟨lE,lF⟩:=nn aM;obtain ⟨lG,lH⟩:=nn aC;obtain ⟨fB,fC,fD,fE,fF,fG,fH,fI,fJ,fK⟩:=cz5 af));go_loopg [53] kj2 (fun kq jI w'=>∃ (ab:Int) (ag:Int),jI=.int .i64 ab∧Aside0 (impl_GenMeet.l0 kq aa aa (aa.length:Int) ab a0_0 a0_1 a0_2 a0_3 l0_4 a1_0 a1_1 a1_2 a1_3 l1_4 a0_0 (aa.length:Int) ag (wrap64 (a0_3+a1_3))=some (r1,r2,r3,r4,r5,r6))∧Aside0 (kq≤kj2)∧Aside0 (Kd.R k49 49 w' w.heap.size (fun _=>True) (.slice dE aa.length aJ) aa)∧Aside0 (Kd.R k49 49 w' w.heap.size (fun _=>True) (.slice dE aa.length aJ) aa)∧Aside0 (w'.heap[dC]?=some (.cells #[.int .i64 a0_0,.int .i64 a0_1,.int .i64 a0_2,.int .i64 a0_3,(.slice A0_4 l0_4.length c0_4)] 28 (0,0)))∧Aside0 (w'.heap[dD]?=some (.cells #[.int .i64 a1_0,.int .i64 a1_1,.int .i64 a1_2,.int .i64 a1_3,(.slice A1_4 l1_4.length c1_4)] 28 (0,0)))∧Aside0 (w'.heap[aB]?=some (.cells #[.int .i64 0,.int .i64 0,.int .i64 0,.int .i64 0,(.slice none 0 0)] 28 (0,0)))∧Aside0 (w'.heap[ap]?=some (.cells #[.int .i64 a0_0,.int .i64 (aa.length:Int),.int .i64 ag,.int .i64 (wrap64 (a0_3+a1_3)),(.slice none 0 0)] 28 (0,0)))∧Aside0 (Below w.heap.size w w'))
   case atStart=>exact ⟨(0),(0),vv,H',⟨Nat.le_refl _⟩,⟨by (with_reducible repeat (first|apply Kd.R_alloc|apply Kd.R_drewN|apply Kd.R_drew));exact Kd.R_mono (Kd.R_far (p:=⟨ap,4,none⟩) (yF4 aD af) (fun _ hk=>hk.2) (.slice none 0 0)) (fun _ hk=>trivial)⟩,⟨by (with_reducible repeat (first|apply Kd.R_alloc|apply Kd.R_drewN|apply Kd.R_drew));exact Kd.R_mono (Kd.R_far (p:=⟨ap,4,none⟩) (yF4 aD af) (fun _ hk=>hk.2) (.slice none 0 0)) (fun _ hk=>trivial)⟩,⟨zB ac.out⟩,⟨zB ad.out⟩,⟨zB ae.out⟩,⟨by (with_reducible repeat (first|refine blk_drewN ?_ _|refine blk_drew ?_|refine blk_alloc ?_ _));refine blk_put (cs:=#[.int .i64 a0_0,.int .i64 (aa.length:Int),.int .i64 0,.int .i64 (wrap64 (a0_3+a1_3)),.slice none 0 0]) ?_ 4 _ rfl;(with_reducible repeat (first|refine blk_drewN ?_ _|refine blk_drew ?_|refine blk_alloc ?_ _));refine blk_put (cs:=#[.int .i64 a0_0,.int .i64 (aa.length:Int),.int .i64 0,.int .i64 0,.slice none 0 0]) ?_ 3 _ rfl;(with_reducible repeat (first|refine blk_drewN ?_ _|refine blk_drew ?_|refine blk_alloc ?_ _));refine blk_put (cs:=#[.int .i64 a0_0,.int .i64 (aa.length:Int),.int .i64 0,.int .i64 0,.slice none 0 0]) ?_ 2 _ rfl;(with_reducible repeat (first|refine blk_drewN ?_ _|refine blk_drew ?_|refine blk_alloc ?_ _));refine blk_put (cs:=#[.int .i64 a0_0,.int .i64 0,.int .i64 0,.int .i64 0,.slice none 0 0]) ?_ 1 _ rfl;(with_reducible repeat (first|refine blk_drewN ?_ _|refine blk_drew ?_|refine blk_alloc ?_ _));refine blk_put (cs:=#[.int .i64 0,.int .i64 0,.int .i64 0,.int .i64 0,.slice none 0 0]) ?_ 0 _ rfl;(with_reducible repeat (first|refine blk_drewN ?_ _|refine blk_drew ?_|refine blk_alloc ?_ _));exact af.out⟩,⟨zS HB.out⟩⟩
   case round=>
    clear H';try clear c1
    try clear c2
    try clear p2
    try clear c3
    try clear c4
    try clear c5
    try clear c6
    try clear p6
    try clear c7
    try clear aG
    try clear dM
    try clear c9
    try clear aT
    try clear jw
    try clear jx
    try clear jy
    try clear mE
    try clear jz
    try clear jA
    try clear jB
    try clear jC
    try clear jD
    try clear jE
    try clear jF
    try clear jG
    try clear jH
    try clear dK
    try clear mF
    try clear mG
    try clear aS
    try clear dN
    try clear dO
    try clear mH
    try clear mI
    try clear mJ
    try clear mK
    try clear mL
    try clear mM
    try clear mN
    try clear mO
    try clear mP
    try clear mQ
    try clear aU aV aW aX aY
    try clear be bf bg bh bi
    try clear bo bp bq br bs
    try clear bz bA bB bC bD
    try clear bK bL bM bN bO
    try clear bU bV bW bX bY
    try clear ce cf cg ch ci
    try clear co cp cq cr ct
    try clear cz cA cB cC cD
    try clear cJ cK cL cM cN
    try clear cU cV cW cX cY
    try clear de df dg dh di
    try clear dZ ea eb ec ed
    try clear ej ek el em en
    try clear et eu ev ew ex
    try clear eD eE eF eG eH
    try clear eN eO eP eQ eR
    try clear eX eY eZ fa fb
    try clear fh fi fj fk fl
    try clear fr fs ft fu fv
    try clear fB fC fD fE fF
    try clear aZ ba bb bc bd
    try clear bj bk bl bm bn
    try clear bt bu bv bw bx
    try clear bE bF bG bH bJ
    try clear bP bQ bR bS bT
    try clear bZ ca cb cc cd
    try clear cj ck cl cm cn
    try clear cu cv cw cx cy
    try clear cE cF cG cH cI
    try clear cO cP cQ cR cS
    try clear cZ da db dc dd
    try clear dj dk dl dm dn
    try clear ee ef eg eh ei
    try clear eo ep eq er es
    try clear ey ez eA eB eC
    try clear eI eJ eK eL eM
    try clear eS eT eU eV eW
    try clear fc fd fe ff fg
    try clear fm fn fo fp fq
    try clear fw fx fy fz fA
    try clear fG fH fI fJ fK
    try clear p2
    try clear p6
    obtain ⟨ab,ag,rfl,HA,HK2,aj,ai,ac,ad,ae,af,HB⟩:=hrel
    cases gk with
    | zero=>exact absurd HA.out (by simp[impl_GenMeet.l0])
    | succ k2=>
     have H:=HA.out;clear HA;simp only[impl_GenMeet.l0]at H;by_cases dp:ab<(aa.length:Int)
     ·rw[if_pos dp]at H;have fU:decide (ab<(aa.length:Int))=true:=decide_eq_true dp;clear dp;by_cases dP:0≤ab
      ·rw[if_pos dP]at H;have lI:decide (0≤ab)=true:=decide_eq_true dP;clear dP;by_cases dQ:ab<(aa.length:Int)
       ·rw[if_pos dQ]at H;have lJ:decide (ab<(aa.length:Int))=true:=decide_eq_true dQ;clear dQ;replace H:=bI H;obtain ⟨fN,fO,H⟩:=H;replace H:(if fN=true then ((impl_has.f a1_2 ((rd_T49 aa ab).f1)).bind fun aK=>(if aK=true then ((impl_only.f ab).bind fun az=>(impl_GenMeet.l0 k2 aa aa (aa.length:Int) (wrap64 (ab+1)) a0_0 a0_1 a0_2 a0_3 l0_4 a1_0 a1_1 a1_2 a1_3 l1_4 a0_0 (aa.length:Int) (Go.bits .or .i64 ag az) (wrap64 (a0_3+a1_3)))) else (impl_GenMeet.l0 k2 aa aa (aa.length:Int) (wrap64 (ab+1)) a0_0 a0_1 a0_2 a0_3 l0_4 a1_0 a1_1 a1_2 a1_3 l1_4 a0_0 (aa.length:Int) ag (wrap64 (a0_3+a1_3))))) else (impl_GenMeet.l0 k2 aa aa (aa.length:Int) (wrap64 (ab+1)) a0_0 a0_1 a0_2 a0_3 l0_4 a1_0 a1_1 a1_2 a1_3 l1_4 a0_0 (aa.length:Int) ag (wrap64 (a0_3+a1_3))))=some (r1,r2,r3,r4,r5,r6):=H;have fP:=Aside0.mk fO;clear fO;by_cases dR:fN=true
        ·subst dR;have H1:((impl_has.f a1_2 ((rd_T49 aa ab).f1)).bind fun aK=>(if aK=true then ((impl_only.f ab).bind fun az=>(impl_GenMeet.l0 k2 aa aa (aa.length:Int) (wrap64 (ab+1)) a0_0 a0_1 a0_2 a0_3 l0_4 a1_0 a1_1 a1_2 a1_3 l1_4 a0_0 (aa.length:Int) (Go.bits .or .i64 ag az) (wrap64 (a0_3+a1_3)))) else (impl_GenMeet.l0 k2 aa aa (aa.length:Int) (wrap64 (ab+1)) a0_0 a0_1 a0_2 a0_3 l0_4 a1_0 a1_1 a1_2 a1_3 l1_4 a0_0 (aa.length:Int) ag (wrap64 (a0_3+a1_3)))))=some (r1,r2,r3,r4,r5,r6):=by rw[if_pos rfl]at H;exact H
         clear H;have H:=H1;clear H1;replace H:=bI H;obtain ⟨aK,fQ,H⟩:=H;replace H:(if aK=true then ((impl_only.f ab).bind fun az=>(impl_GenMeet.l0 k2 aa aa (aa.length:Int) (wrap64 (ab+1)) a0_0 a0_1 a0_2 a0_3 l0_4 a1_0 a1_1 a1_2 a1_3 l1_4 a0_0 (aa.length:Int) (Go.bits .or .i64 ag az) (wrap64 (a0_3+a1_3)))) else (impl_GenMeet.l0 k2 aa aa (aa.length:Int) (wrap64 (ab+1)) a0_0 a0_1 a0_2 a0_3 l0_4 a1_0 a1_1 a1_2 a1_3 l1_4 a0_0 (aa.length:Int) ag (wrap64 (a0_3+a1_3))))=some (r1,r2,r3,r4,r5,r6):=H;have gb:=Aside0.mk fQ;clear fQ;by_cases dS:aK=true
         ·subst dS;have H1:((impl_only.f ab).bind fun az=>(impl_GenMeet.l0 k2 aa aa (aa.length:Int) (wrap64 (ab+1)) a0_0 a0_1 a0_2 a0_3 l0_4 a1_0 a1_1 a1_2 a1_3 l1_4 a0_0 (aa.length:Int) (Go.bits .or .i64 ag az) (wrap64 (a0_3+a1_3))))=some (r1,r2,r3,r4,r5,r6):=by rw[if_pos rfl]at H;exact H
          clear H;have H:=H1;clear H1;replace H:=bI H;obtain ⟨az,fR,H⟩:=H;replace H:(impl_GenMeet.l0 k2 aa aa (aa.length:Int) (wrap64 (ab+1)) a0_0 a0_1 a0_2 a0_3 l0_4 a1_0 a1_1 a1_2 a1_3 l1_4 a0_0 (aa.length:Int) (Go.bits .or .i64 ag az) (wrap64 (a0_3+a1_3)))=some (r1,r2,r3,r4,r5,r6):=H;have jJ:=Aside0.mk fR;clear fR;have H':=Aside0.mk H;clear H;have aA:0≤(ab:Int):=oD;have q282:ab<(aa.length:Int):=oD;obtain ⟨ad282,e282,dq,dr⟩:=at_T49 (Kd.R_reads' ai.out).2.2 ab aA q282
          cases e282
          replace aA:=eq_true aA;replace q282:=eq_true q282;try go_wp2_with (first|((with_reducible refine gate_dst (N:=9) rfl ?_);refine bx_ 9 #[.int .i64 0,.int .i64 0] 49 ?_;intro ah hg aH hbox hb;replace aj:=Aside0.mk (Kd.R_below (Kd.R_elderB (zR aj.out) ah (Nat.le_of_eq hg.symm)) hb);replace ai:=Aside0.mk (Kd.R_below (Kd.R_elderB (zR ai.out) ah (Nat.le_of_eq hg.symm)) hb);have an:=Aside0.mk (hbox);have dT:=xG HB hg;have dU:=xG HB hg;replace HB:=xS HB hb;have aN:=xN ac hg;have aw:=xM ac hg;replace ac:=xB ac hb;have aO:=xN ad hg;have ax:=xM ad hg;replace ad:=xB ad hb;have aP:=xN ae hg;have ay:=xM ae hg;replace ae:=xB ae hb;have aF:=xN af hg;have au:=xM af hg;replace af:=xB af hb;clear hb hbox hg;obtain ⟨lK,lL⟩:=nn aw;obtain ⟨lM,lN⟩:=nn ax;obtain ⟨lO,lP⟩:=nn ay;obtain ⟨lQ,lR⟩:=nn au;obtain ⟨iL,iM,iN,iO⟩:=cz2 an;obtain ⟨lS,lT⟩:=nn ak;obtain ⟨lU,lV⟩:=nn al;obtain ⟨lW,lX⟩:=nn ar;obtain ⟨iP,iQ,iR,iS,iT,iU,iV,iW,iX,iY⟩:=cz5 ac)|((with_reducible refine gate_callee (f:=20) rfl ?_);refine gl_ (some 62) Try.func20 #[.int .i64 a0_2,.int .i64 ((rd_T49 aa ab).f0)] ?_;(with_reducible refine (impl_has.calls a0_2 ((rd_T49 aa ab).f0) true _ fP.out).mono ?_);rintro e w' ⟨rfl,⟨nd,rfl⟩⟩;refine ⟨_,rfl,?_⟩;obtain ⟨lY,lZ⟩:=nn am;obtain ⟨ma,mb⟩:=nn av;obtain ⟨iZ,ja,jb,jc,jd,je,jf,jg,jh,ji⟩:=cz5 ad)|(go_at_call 20;(with_reducible refine (impl_has.calls a1_2 ((rd_T49 aa ab).f1) true _ gb.out).mono ?_);rintro e w' ⟨rfl,⟨nd,rfl⟩⟩))
          have dt:Aside0 (Kd.R k49 49 ((aH.setCell ⟨ah,0,none⟩ (.int .i64 ((rd_T49 aa ab).f0))).setCell ⟨ah,1,none⟩ (.int .i64 ((rd_T49 aa ab).f1))) w.heap.size (fun k_=>k_≠ah) (.slice (some ad282) aa.length aJ) aa):=⟨by (with_reducible repeat (first|apply Kd.R_alloc|apply Kd.R_drewN|apply Kd.R_drew));exact Kd.R_mono (Kd.R_far (p:=⟨ah,1,none⟩) (Kd.R_far (p:=⟨ah,0,none⟩) (Kd.R_mono aj.out (fun k_ hk=>(⟨hk,hk.2⟩:_∧k_≠ah))) (fun _ hk=>hk.2) (.int .i64 ((rd_T49 aa ab).f0))) (fun _ hk=>hk.2) (.int .i64 ((rd_T49 aa ab).f1))) (fun _ hk=>hk.1.2)⟩;have du:Aside0 (Kd.R k49 49 ((aH.setCell ⟨ah,0,none⟩ (.int .i64 ((rd_T49 aa ab).f0))).setCell ⟨ah,1,none⟩ (.int .i64 ((rd_T49 aa ab).f1))) w.heap.size (fun k_=>k_≠ah) (.slice (some ad282) aa.length aJ) aa):=⟨by (with_reducible repeat (first|apply Kd.R_alloc|apply Kd.R_drewN|apply Kd.R_drew));exact Kd.R_mono (Kd.R_far (p:=⟨ah,1,none⟩) (Kd.R_far (p:=⟨ah,0,none⟩) (Kd.R_mono ai.out (fun k_ hk=>(⟨hk,hk.2⟩:_∧k_≠ah))) (fun _ hk=>hk.2) (.int .i64 ((rd_T49 aa ab).f0))) (fun _ hk=>hk.2) (.int .i64 ((rd_T49 aa ab).f1))) (fun _ hk=>hk.1.2)⟩;have dv:Aside0 (((aH.setCell ⟨ah,0,none⟩ (.int .i64 ((rd_T49 aa ab).f0))).setCell ⟨ah,1,none⟩ (.int .i64 ((rd_T49 aa ab).f1))).heap[dC]?=some (.cells #[.int .i64 a0_0,.int .i64 a0_1,.int .i64 a0_2,.int .i64 a0_3,.slice A0_4 l0_4.length c0_4] 28 (0,0))):=⟨zB ac.out⟩;have dw:Aside0 (((aH.setCell ⟨ah,0,none⟩ (.int .i64 ((rd_T49 aa ab).f0))).setCell ⟨ah,1,none⟩ (.int .i64 ((rd_T49 aa ab).f1))).heap[dD]?=some (.cells #[.int .i64 a1_0,.int .i64 a1_1,.int .i64 a1_2,.int .i64 a1_3,.slice A1_4 l1_4.length c1_4] 28 (0,0))):=⟨zB ad.out⟩;have dx:Aside0 (((aH.setCell ⟨ah,0,none⟩ (.int .i64 ((rd_T49 aa ab).f0))).setCell ⟨ah,1,none⟩ (.int .i64 ((rd_T49 aa ab).f1))).heap[aB]?=some (.cells #[.int .i64 0,.int .i64 0,.int .i64 0,.int .i64 0,.slice none 0 0] 28 (0,0))):=⟨zB ae.out⟩;have dy:Aside0 (((aH.setCell ⟨ah,0,none⟩ (.int .i64 ((rd_T49 aa ab).f0))).setCell ⟨ah,1,none⟩ (.int .i64 ((rd_T49 aa ab).f1))).heap[ap]?=some (.cells #[.int .i64 a0_0,.int .i64 (aa.length:Int),.int .i64 ag,.int .i64 (wrap64 (a0_3+a1_3)),.slice none 0 0] 28 (0,0))):=⟨zB af.out⟩;have dz:Aside0 (((aH.setCell ⟨ah,0,none⟩ (.int .i64 ((rd_T49 aa ab).f0))).setCell ⟨ah,1,none⟩ (.int .i64 ((rd_T49 aa ab).f1))).heap[ah]?=some (.cells #[.int .i64 ((rd_T49 aa ab).f0),.int .i64 ((rd_T49 aa ab).f1)] 49 (0,0))):=⟨by (with_reducible repeat (first|refine blk_drewN ?_ _|refine blk_drew ?_|refine blk_alloc ?_ _));refine blk_put (cs:=#[.int .i64 ((rd_T49 aa ab).f0),.int .i64 0]) ?_ 1 _ rfl;(with_reducible repeat (first|refine blk_drewN ?_ _|refine blk_drew ?_|refine blk_alloc ?_ _));refine blk_put (cs:=#[.int .i64 0,.int .i64 0]) ?_ 0 _ rfl;(with_reducible repeat (first|refine blk_drewN ?_ _|refine blk_drew ?_|refine blk_alloc ?_ _));exact an.out⟩;have dA:Aside0 (Below w.heap.size w ((aH.setCell ⟨ah,0,none⟩ (.int .i64 ((rd_T49 aa ab).f0))).setCell ⟨ah,1,none⟩ (.int .i64 ((rd_T49 aa ab).f1)))):=⟨zS HB.out⟩;(try clear aj);(try clear ai);(try clear ac)
          (try clear ad);(try clear ae);(try clear af);(try clear an);(try clear HB);generalize ((aH.setCell ⟨ah,0,none⟩ (.int .i64 ((rd_T49 aa ab).f0))).setCell ⟨ah,1,none⟩ (.int .i64 ((rd_T49 aa ab).f1)))=dV at dt du dv dw dx dy dz dA ⊢;have aj:=dt;have ai:=du;have ac:=dv;have ad:=dw;have ae:=dx;have af:=dy;have an:=dz;have HB:=dA;clear dt du dv dw dx dy dz dA;(try (rw[drewN_self dV];generalize hq_:World.drewN dV _=dV;have dt:=uR hq_ ai;have du:=uR hq_ aj;have dv:=uB hq_ ac;have dw:=uB hq_ ad;have dx:=uB hq_ ae;have dy:=uB hq_ af;have dz:=uB hq_ an;have dA:=uS hq_ HB;clear ai aj ac ad ae af an HB hq_;have ai:=dt;have aj:=du;have ac:=dv;have ad:=dw;have ae:=dx;have af:=dy;have an:=dz;have HB:=dA;clear dt du dv dw dx dy dz dA));replace aj:=Aside0.mk (Kd.R_drew aj.out);replace ai:=Aside0.mk (Kd.R_drew ai.out);replace ac:=Aside0.mk (blk_drew ac.out);replace ad:=Aside0.mk (blk_drew ad.out);replace ae:=Aside0.mk (blk_drew ae.out);replace af:=Aside0.mk (blk_drew af.out);replace an:=Aside0.mk (blk_drew an.out);replace HB:=Aside0.mk (below_drew1 HB.out);refine start_ (n:=7) (S:=fun w'=>w'.cell? ⟨ap,0,none⟩=some (.int .i64 a0_0)∧w'.cell? ⟨ap,1,none⟩=some (.int .i64 (aa.length:Int))∧w'.cell? ⟨ap,2,none⟩=some (.int .i64 ag)∧w'.cell? ⟨ap,3,none⟩=some (.int .i64 (wrap64 (a0_3+a1_3)))∧w'.cell? ⟨ap,4,none⟩=some (.slice none 0 0)) (ds:=[6]) #[false,false,false,false,false,false,false] (by kernel_rfl) rfl rfl ⟨b1 af 0,b1 af 1,b1 af 2,b1 af 3,b1 af 4⟩ (fun hHeld=>?_);generalize dV.drew=jK at aj ai ac ad ae af an HB hHeld ⊢;refine pure_ (i:=0) (N:=some 70) (v:=?_) (a':=?_) #[true,false,false,false,false,false,false] rfl rfl (by kernel_rfl) (fun _ _ _ h=>h) (Or.inl ⟨by rfl,?_⟩) ?_ ?_;rotate_left;(intro w';go_simp;with_reducible rfl);rotate_left;(simp only[Act.put,q5];rfl);refine pure_ (i:=2) (N:=some 72) (v:=?_) (a':=?_) #[true,false,true,false,false,false,false] rfl rfl (by kernel_rfl) (fun _ _ _ h=>h) (Or.inl ⟨by rfl,?_⟩) ?_ ?_;rotate_left;(intro w';go_simp;with_reducible rfl);rotate_left;(simp only[Act.put,q5];rfl);refine take_ (i:=1) (N:=some 71) (v:=?_) (a':=?_) #[true,true,true,false,false,false,false] rfl rfl (by kernel_rfl) (fun _ _ _ h=>h) (Or.inl ⟨by rfl,?_⟩) hHeld ?_ ?_;rotate_left
          ·rintro w' ⟨s0,s1,s2,s3,s4⟩;go_simp;with_reducible rfl
          rotate_left
          ·simp only[Act.put,q5];rfl
          refine one_ (i:=3) (N:=some 73) #[true,true,true,true,false,false,false] rfl rfl (by kernel_rfl) (by decide) (fun K hK=>?_);refine gs_ Try.func21 #[.int .i64 ab] ?_
          with_reducible refine (impl_only.calls ab az _ jJ.out).mono ?_
          rintro e w' ⟨rfl,⟨nd,rfl⟩⟩;refine ⟨_,rfl,?_⟩;refine hK.out _ _ ⟨b1 af 0,b1 af 1,b1 af 2,b1 af 3,b1 af 4⟩ (fun hHeld=>?_);clear hK K;refine nr_ (some 73) ?_
          refine pure_ (i:=4) (N:=some 74) (v:=?_) (a':=?_) #[true,true,true,true,true,false,false] rfl rfl (by kernel_rfl) (fun _ _ _ h=>h) (Or.inl ⟨by rfl,?_⟩) ?_ ?_;rotate_left;(intro w';go_simp;with_reducible rfl);rotate_left;(simp only[Act.put,q5];rfl);refine pure_ (i:=5) (N:=some 75) (v:=?_) (a':=?_) #[true,true,true,true,true,true,false] rfl rfl (by kernel_rfl) (fun _ _ _ h=>h) (Or.inl ⟨by rfl,?_⟩) ?_ ?_;rotate_left;(intro w';go_simp;with_reducible rfl);rotate_left;(simp only[Act.put,q5];rfl);refine last_ (i:=6) (N:=none) #[true,true,true,true,true,true,true] rfl rfl (by kernel_rfl) (by decide) (fun K hK=>?_);have mq:jK.cell? ⟨ap,2,none⟩=some (.int .i64 ag):=b1 af 2;have mc:=blk_frozen af.out 2;have jj:=ar.out;have jk:=av.out;have jl:=dL.out;have jm:=au.out;have jn:=aL.out;have jo:=aM.out;have jp:=aC.out;have jq:=aF.out;refine skip_ (w1:=?_) (by rfl) rfl ?_ ?_;rotate_left
          ·go_simp;rfl
          refine hK.out _ _ ?_;clear hK K;refine done_ (by kernel_rfl) ?_
          try go_wp2
          go_roundg k2
          case measure=>have:=HJ2.out;have:=HK2.out;omega
          case rel=>exact ⟨(wrap64 (ab+1)),(Go.bits .or .i64 ag az),vv,H',⟨by have:=HJ2.out;have:=HK2.out;omega⟩,⟨rM (Aside0.mk (yF1 aj af)) (fun _ hk=>trivial)⟩,⟨rM (Aside0.mk (yF1 ai af)) (fun _ hk=>trivial)⟩,⟨zB ac.out⟩,⟨zB ad.out⟩,⟨zB ae.out⟩,⟨by (with_reducible repeat (first|refine blk_drewN ?_ _|refine blk_drew ?_|refine blk_alloc ?_ _));refine blk_put (cs:=#[.int .i64 a0_0,.int .i64 (aa.length:Int),.int .i64 ag,.int .i64 (wrap64 (a0_3+a1_3)),.slice none 0 0]) ?_ 2 _ rfl;(with_reducible repeat (first|refine blk_drewN ?_ _|refine blk_drew ?_|refine blk_alloc ?_ _));exact af.out⟩,⟨zS HB.out⟩⟩
         replace dS:=Bool.eq_false_iff.mpr dS;subst dS;have H1:(impl_GenMeet.l0 k2 aa aa (aa.length:Int) (wrap64 (ab+1)) a0_0 a0_1 a0_2 a0_3 l0_4 a1_0 a1_1 a1_2 a1_3 l1_4 a0_0 (aa.length:Int) ag (wrap64 (a0_3+a1_3)))=some (r1,r2,r3,r4,r5,r6):=by rw[if_neg (show ¬ (false=true) by decide)]at H;exact H
         clear H;have H:=H1;clear H1;have H':=Aside0.mk H;clear H;have aA:0≤(ab:Int):=oD;have q282:ab<(aa.length:Int):=oD;obtain ⟨ad282,e282,dq,dr⟩:=at_T49 (Kd.R_reads' ai.out).2.2 ab aA q282
         cases e282
         replace aA:=eq_true aA;replace q282:=eq_true q282;go_wp2_with (first|((with_reducible refine gate_dst (N:=9) rfl ?_);refine bx_ 9 #[.int .i64 0,.int .i64 0] 49 ?_;intro ah hg mR hbox hb;replace aj:=Aside0.mk (Kd.R_below (Kd.R_elderB (zR aj.out) ah (Nat.le_of_eq hg.symm)) hb);replace ai:=Aside0.mk (Kd.R_below (Kd.R_elderB (zR ai.out) ah (Nat.le_of_eq hg.symm)) hb);have an:=Aside0.mk (hbox);have dT:=xG HB hg;have dU:=xG HB hg;replace HB:=xS HB hb;have aN:=xN ac hg;have aw:=xM ac hg;replace ac:=xB ac hb;have aO:=xN ad hg;have ax:=xM ad hg;replace ad:=xB ad hb;have aP:=xN ae hg;have ay:=xM ae hg;replace ae:=xB ae hb;have aF:=xN af hg;have au:=xM af hg;replace af:=xB af hb;clear hb hbox hg;obtain ⟨md,me⟩:=nn aw;obtain ⟨mf,mg⟩:=nn ax;obtain ⟨mh,mi⟩:=nn ay;obtain ⟨mj,ml⟩:=nn au;obtain ⟨jr,js,jt,ju⟩:=cz2 an;obtain ⟨mm,mn⟩:=nn ak;obtain ⟨jL,jM⟩:=nn al;obtain ⟨jN,jO⟩:=nn ar;obtain ⟨gf,gg,gh,gi,gj,gl,gm,gn,go,gp⟩:=cz5 ac)|((with_reducible refine gate_callee (f:=20) rfl ?_);refine gl_ (some 62) Try.func20 #[.int .i64 a0_2,.int .i64 ((rd_T49 aa ab).f0)] ?_;(with_reducible refine (impl_has.calls a0_2 ((rd_T49 aa ab).f0) true _ fP.out).mono ?_);rintro e w' ⟨rfl,⟨nd,rfl⟩⟩;refine ⟨_,rfl,?_⟩;obtain ⟨jP,jQ⟩:=nn am;obtain ⟨jR,jS⟩:=nn av;obtain ⟨gq,gr,gs,gt,gu,gv,gw,gx,gy,gz⟩:=cz5 ad)|(go_at_call 20;(with_reducible refine (impl_has.calls a1_2 ((rd_T49 aa ab).f1) false _ gb.out).mono ?_);rintro e w' ⟨rfl,⟨nd,rfl⟩⟩));go_roundg k2
         case measure=>have:=HJ2.out;have:=HK2.out;omega
         case rel=>exact ⟨(wrap64 (ab+1)),(ag),vv,H',⟨by have:=HJ2.out;have:=HK2.out;omega⟩,⟨by (with_reducible repeat (first|apply Kd.R_alloc|apply Kd.R_drewN|apply Kd.R_drew));exact Kd.R_mono (Kd.R_far (p:=⟨ah,1,none⟩) (Kd.R_far (p:=⟨ah,0,none⟩) (Kd.R_mono aj.out (fun k_ hk=>(⟨hk,hk.2⟩:_∧k_≠ah))) (fun _ hk=>hk.2) (.int .i64 ((rd_T49 aa ab).f0))) (fun _ hk=>hk.2) (.int .i64 ((rd_T49 aa ab).f1))) (fun _ hk=>trivial)⟩,⟨by (with_reducible repeat (first|apply Kd.R_alloc|apply Kd.R_drewN|apply Kd.R_drew));exact Kd.R_mono (Kd.R_far (p:=⟨ah,1,none⟩) (Kd.R_far (p:=⟨ah,0,none⟩) (Kd.R_mono ai.out (fun k_ hk=>(⟨hk,hk.2⟩:_∧k_≠ah))) (fun _ hk=>hk.2) (.int .i64 ((rd_T49 aa ab).f0))) (fun _ hk=>hk.2) (.int .i64 ((rd_T49 aa ab).f1))) (fun _ hk=>trivial)⟩,⟨zB ac.out⟩,⟨zB ad.out⟩,⟨zB ae.out⟩,⟨zB af.out⟩,⟨zS HB.out⟩⟩
        replace dR:=Bool.eq_false_iff.mpr dR;subst dR;have H1:(impl_GenMeet.l0 k2 aa aa (aa.length:Int) (wrap64 (ab+1)) a0_0 a0_1 a0_2 a0_3 l0_4 a1_0 a1_1 a1_2 a1_3 l1_4 a0_0 (aa.length:Int) ag (wrap64 (a0_3+a1_3)))=some (r1,r2,r3,r4,r5,r6):=by rw[if_neg (show ¬ (false=true) by decide)]at H;exact H
        clear H;have H:=H1;clear H1;have H':=Aside0.mk H;clear H;have aA:0≤(ab:Int):=oD;have q282:ab<(aa.length:Int):=oD;obtain ⟨ad282,e282,dq,dr⟩:=at_T49 (Kd.R_reads' ai.out).2.2 ab aA q282
        cases e282
        replace aA:=eq_true aA;replace q282:=eq_true q282;go_wp2_with (first|((with_reducible refine gate_dst (N:=9) rfl ?_);refine bx_ 9 #[.int .i64 0,.int .i64 0] 49 ?_;intro ah hg mr hbox hb;replace aj:=Aside0.mk (Kd.R_below (Kd.R_elderB (zR aj.out) ah (Nat.le_of_eq hg.symm)) hb);replace ai:=Aside0.mk (Kd.R_below (Kd.R_elderB (zR ai.out) ah (Nat.le_of_eq hg.symm)) hb);have an:=Aside0.mk (hbox);have dT:=xG HB hg;have dU:=xG HB hg;replace HB:=xS HB hb;have aN:=xN ac hg;have aw:=xM ac hg;replace ac:=xB ac hb;have aO:=xN ad hg;have ax:=xM ad hg;replace ad:=xB ad hb;have aP:=xN ae hg;have ay:=xM ae hg;replace ae:=xB ae hb;have aF:=xN af hg;have au:=xM af hg;replace af:=xB af hb;clear hb hbox hg;obtain ⟨jT,jU⟩:=nn aw;obtain ⟨jV,jW⟩:=nn ax;obtain ⟨jX,jY⟩:=nn ay;obtain ⟨jZ,ka⟩:=nn au;obtain ⟨gA,gB,gC,gD⟩:=cz2 an;obtain ⟨kb,kc⟩:=nn ak;obtain ⟨kd,ke⟩:=nn al;obtain ⟨kf,kg⟩:=nn ar;obtain ⟨gE,gF,gG,gH,gI,gJ,gK,gL,gM,gN⟩:=cz5 ac)|((with_reducible refine gate_callee (f:=20) rfl ?_);refine gl_ (some 62) Try.func20 #[.int .i64 a0_2,.int .i64 ((rd_T49 aa ab).f0)] ?_;(with_reducible refine (impl_has.calls a0_2 ((rd_T49 aa ab).f0) false _ fP.out).mono ?_);rintro e w' ⟨rfl,⟨nd,rfl⟩⟩;refine ⟨_,rfl,?_⟩));go_roundg k2
        case measure=>have:=HJ2.out;have:=HK2.out;omega
        case rel=>exact ⟨(wrap64 (ab+1)),(ag),vv,H',⟨by have:=HJ2.out;have:=HK2.out;omega⟩,⟨by (with_reducible repeat (first|apply Kd.R_alloc|apply Kd.R_drewN|apply Kd.R_drew));exact Kd.R_mono (Kd.R_far (p:=⟨ah,1,none⟩) (Kd.R_far (p:=⟨ah,0,none⟩) (Kd.R_mono aj.out (fun k_ hk=>(⟨hk,hk.2⟩:_∧k_≠ah))) (fun _ hk=>hk.2) (.int .i64 ((rd_T49 aa ab).f0))) (fun _ hk=>hk.2) (.int .i64 ((rd_T49 aa ab).f1))) (fun _ hk=>trivial)⟩,⟨by (with_reducible repeat (first|apply Kd.R_alloc|apply Kd.R_drewN|apply Kd.R_drew));exact Kd.R_mono (Kd.R_far (p:=⟨ah,1,none⟩) (Kd.R_far (p:=⟨ah,0,none⟩) (Kd.R_mono ai.out (fun k_ hk=>(⟨hk,hk.2⟩:_∧k_≠ah))) (fun _ hk=>hk.2) (.int .i64 ((rd_T49 aa ab).f0))) (fun _ hk=>hk.2) (.int .i64 ((rd_T49 aa ab).f1))) (fun _ hk=>trivial)⟩,⟨zB ac.out⟩,⟨zB ad.out⟩,⟨zB ae.out⟩,⟨zB af.out⟩,⟨zS HB.out⟩⟩
       rw[if_neg dQ]at H;exact absurd H (by simp)
      rw[if_neg dP]at H;exact absurd H (by simp)
     rw[if_neg dp]at H;have fU:decide (ab<(aa.length:Int))=false:=decide_eq_false dp;clear dp;replace H:=bI H;obtain ⟨ao,dW,H⟩:=H;replace H:((impl_GenOk.f k2 a0_0 (aa.length:Int) ag (wrap64 (a0_3+a1_3)) ao).bind fun dF=>(if dF=true then (some (a0_0,(aa.length:Int),ag,(wrap64 (a0_3+a1_3)),ao,true)) else (some (0,0,0,0,([]:List (S43)),false))))=some (r1,r2,r3,r4,r5,r6):=H;have fS:=Aside0.mk dW;clear dW;replace H:=bI H;obtain ⟨dF,dX,H⟩:=H;replace H:(if dF=true then (some (a0_0,(aa.length:Int),ag,(wrap64 (a0_3+a1_3)),ao,true)) else (some (0,0,0,0,([]:List (S43)),false)))=some (r1,r2,r3,r4,r5,r6):=H;have fT:=Aside0.mk dX;clear dX;by_cases dG:dF=true
     ·subst dG;have H1:(some (a0_0,(aa.length:Int),ag,(wrap64 (a0_3+a1_3)),ao,true))=some (r1,r2,r3,r4,r5,r6):=by rw[if_pos rfl]at H;exact H
      clear H;have H:=H1;clear H1;simp only[Option.some.injEq,Prod.mk.injEq]at H;obtain ⟨rfl,rfl,rfl,rfl,rfl,rfl⟩:=H;obtain ⟨kh,ki⟩:=nn ak;obtain ⟨kj,kk⟩:=nn al;obtain ⟨kl,km⟩:=nn ar;obtain ⟨gO,gP,gQ,gR,gS,gT,gU,gV,gW,gX⟩:=cz5 ac;obtain ⟨kn,ko⟩:=nn am;obtain ⟨kp,kr⟩:=nn av;obtain ⟨gY,gZ,ha,hc,hd,he,hf,hh,hj,hl⟩:=cz5 ad;go_wp2_with (first|((with_reducible refine gate_callee (f:=22) rfl ?_);refine gl_ (some 80) Try.func22 #[.agg #[.int .i64 a0_0,.int .i64 a0_1,.int .i64 a0_2,.int .i64 a0_3,.slice A0_4 l0_4.length c0_4],.agg #[.int .i64 a1_0,.int .i64 a1_1,.int .i64 a1_2,.int .i64 a1_3,.slice A1_4 l1_4.length c1_4],.slice dE aa.length aJ] ?_;(with_reducible refine (impl_metEdges.calls a0_0 a0_1 a0_2 a0_3 _ _ l0_4 a1_0 a1_1 a1_2 a1_3 _ _ l1_4 _ _ aa ao _ ?side1 ?side2 ?side3 ?side4 ?side5 ?side6 fS.out).mono ?_);(case side1=>exact zC (Kd.C_below HR0_4.out HB.out));(case side2=>exact HC0_4.out);(case side3=>exact zC (Kd.C_below HR1_4.out HB.out));(case side4=>exact HC1_4.out);(case side5=>exact sC aj);(case side6=>exact sL aj);rintro e ms ⟨hm,rfl,ho0,hb⟩;refine ⟨_,rfl,?_⟩;replace aj:=xR aj hb;replace ai:=xR ai hb;have aq:=rW0 ho0 HB;replace ac:=xB ac hb;replace ad:=xB ad hb;replace ae:=xB ae hb;replace af:=xB af hb;replace HB:=xS HB hb;(try clear hb);(try clear hb2);(try clear hk);(try clear hi);(try clear ho0);obtain ⟨aR,aI,fV⟩:=Kd.R_slice aq.out;subst fV;obtain ⟨ks,kt⟩:=nn aC;obtain ⟨hn,hp,hq,hr,hs,ht,hu,hv,hw,hx⟩:=cz5 af)|((with_reducible refine gate_callee (f:=18) rfl ?_);refine gl_ (some 83) Try.func18 #[.agg #[.int .i64 a0_0,.int .i64 (aa.length:Int),.int .i64 ag,.int .i64 (wrap64 (a0_3+a1_3)),.slice aR ao.length aI]] ?_;(with_reducible refine (impl_GenOk.calls k2 a0_0 (aa.length:Int) ag (wrap64 (a0_3+a1_3)) _ _ ao true _ ?side1 ?side2 fT.out).mono ?_);(case side1=>refine (Kd.R_reads' (e:=43) (base:=w.heap.size) (ok:=fun k_=>True) (n:=ao.length) (c:=aI) ?_).2.2;exact (zR (xF1 aq af)));(case side2=>exact sL aq);rintro e mt ⟨rfl,hb⟩;refine ⟨_,rfl,?_⟩;replace aj:=Aside0.mk (Kd.R_below (zR (xF1 aj af)) hb);replace ai:=Aside0.mk (Kd.R_below (zR (xF1 ai af)) hb);replace aq:=Aside0.mk (Kd.R_below (zR (xF1 aq af)) hb);replace ac:=xB ac hb;replace ad:=xB ad hb;replace ae:=xB ae hb;replace af:=Aside0.mk (blk_below (g:=ap) (o:=.cells #[.int .i64 a0_0,.int .i64 (aa.length:Int),.int .i64 ag,.int .i64 (wrap64 (a0_3+a1_3)),.slice aR ao.length aI] 28 (0,0)) (by (with_reducible repeat (first|refine blk_drewN ?_ _|refine blk_drew ?_|refine blk_alloc ?_ _));refine blk_put (cs:=#[.int .i64 a0_0,.int .i64 (aa.length:Int),.int .i64 ag,.int .i64 (wrap64 (a0_3+a1_3)),.slice none 0 0]) ?_ 4 _ rfl;(with_reducible repeat (first|refine blk_drewN ?_ _|refine blk_drew ?_|refine blk_alloc ?_ _));exact af.out) hb);replace HB:=xS HB hb;(try clear hb);(try clear hb2);(try clear hk);(try clear hi);obtain ⟨hy,hA,hB,hC,hD,hE,hF,hG,hH,hI⟩:=cz5 af;obtain ⟨hJ,hL,hM,hN,hO,hP,hQ,hR,hS,hT⟩:=cz5 ae));refine bodyPost_ret (results_ct rfl _ _ aB 28 #[.int .i64 a0_0,.int .i64 (aa.length:Int),.int .i64 ag,.int .i64 (wrap64 (a0_3+a1_3)),.slice aR ao.length aI] (0,0) _ rfl (xP5 ae.out) Try.underlying28 rfl (by kernel_rfl)) rfl ?_;exact ⟨_,vw,by (with_reducible repeat (first|apply Kd.R_alloc|apply Kd.R_drewN|apply Kd.R_drew));exact Kd.R_mono (Kd.R_far (p:=⟨aB,4,none⟩) (yF4 aq ae) (fun _ hk=>hk.2) (.slice aR ao.length aI)) (fun _ hk=>trivial),zS HB.out⟩
     replace dG:=Bool.eq_false_iff.mpr dG;subst dG;have H1:(some (0,0,0,0,([]:List (S43)),false))=some (r1,r2,r3,r4,r5,r6):=by rw[if_neg (show ¬ (false=true) by decide)]at H;exact H
     clear H;have H:=H1;clear H1;simp only[Option.some.injEq,Prod.mk.injEq]at H;obtain ⟨rfl,rfl,rfl,rfl,rfl,rfl⟩:=H;obtain ⟨ku,kv⟩:=nn ak;obtain ⟨kw,kx⟩:=nn al;obtain ⟨ky,kz⟩:=nn ar;obtain ⟨hU,hV,hW,hX,hY,hZ,ia,ib,ic,id⟩:=cz5 ac;obtain ⟨kA,kB⟩:=nn am;obtain ⟨kC,kD⟩:=nn av;obtain ⟨ie,ig,ih,ii,ij,ik,il,im,io,ip⟩:=cz5 ad;go_wp2_with (first|((with_reducible refine gate_callee (f:=22) rfl ?_);refine gl_ (some 80) Try.func22 #[.agg #[.int .i64 a0_0,.int .i64 a0_1,.int .i64 a0_2,.int .i64 a0_3,.slice A0_4 l0_4.length c0_4],.agg #[.int .i64 a1_0,.int .i64 a1_1,.int .i64 a1_2,.int .i64 a1_3,.slice A1_4 l1_4.length c1_4],.slice dE aa.length aJ] ?_;(with_reducible refine (impl_metEdges.calls a0_0 a0_1 a0_2 a0_3 _ _ l0_4 a1_0 a1_1 a1_2 a1_3 _ _ l1_4 _ _ aa ao _ ?side1 ?side2 ?side3 ?side4 ?side5 ?side6 fS.out).mono ?_);(case side1=>exact zC (Kd.C_below HR0_4.out HB.out));(case side2=>exact HC0_4.out);(case side3=>exact zC (Kd.C_below HR1_4.out HB.out));(case side4=>exact HC1_4.out);(case side5=>exact sC aj);(case side6=>exact sL aj);rintro e mu ⟨hm,rfl,ho0,hb⟩;refine ⟨_,rfl,?_⟩;replace aj:=xR aj hb;replace ai:=xR ai hb;have aq:=rW0 ho0 HB;replace ac:=xB ac hb;replace ad:=xB ad hb;replace ae:=xB ae hb;replace af:=xB af hb;replace HB:=xS HB hb;(try clear hb);(try clear hb2);(try clear hk);(try clear hi);(try clear ho0);obtain ⟨dY,dH,fW⟩:=Kd.R_slice aq.out;subst fW;obtain ⟨kE,kF⟩:=nn aC;obtain ⟨iq,ir,it,iu,iv,iw,ix,iy,iz,iA⟩:=cz5 af)|((with_reducible refine gate_callee (f:=18) rfl ?_);refine gl_ (some 83) Try.func18 #[.agg #[.int .i64 a0_0,.int .i64 (aa.length:Int),.int .i64 ag,.int .i64 (wrap64 (a0_3+a1_3)),.slice dY ao.length dH]] ?_;(with_reducible refine (impl_GenOk.calls k2 a0_0 (aa.length:Int) ag (wrap64 (a0_3+a1_3)) _ _ ao false _ ?side1 ?side2 fT.out).mono ?_);(case side1=>refine (Kd.R_reads' (e:=43) (base:=w.heap.size) (ok:=fun k_=>True) (n:=ao.length) (c:=dH) ?_).2.2;exact (zR (xF1 aq af)));(case side2=>exact sL aq);rintro e mv ⟨rfl,hb⟩;refine ⟨_,rfl,?_⟩;replace aj:=Aside0.mk (Kd.R_below (zR (xF1 aj af)) hb);replace ai:=Aside0.mk (Kd.R_below (zR (xF1 ai af)) hb);replace aq:=Aside0.mk (Kd.R_below (zR (xF1 aq af)) hb);replace ac:=xB ac hb;replace ad:=xB ad hb;replace ae:=xB ae hb;replace af:=Aside0.mk (blk_below (g:=ap) (o:=.cells #[.int .i64 a0_0,.int .i64 (aa.length:Int),.int .i64 ag,.int .i64 (wrap64 (a0_3+a1_3)),.slice dY ao.length dH] 28 (0,0)) (by (with_reducible repeat (first|refine blk_drewN ?_ _|refine blk_drew ?_|refine blk_alloc ?_ _));refine blk_put (cs:=#[.int .i64 a0_0,.int .i64 (aa.length:Int),.int .i64 ag,.int .i64 (wrap64 (a0_3+a1_3)),.slice none 0 0]) ?_ 4 _ rfl;(with_reducible repeat (first|refine blk_drewN ?_ _|refine blk_drew ?_|refine blk_alloc ?_ _));exact af.out) hb);replace HB:=xS HB hb;(try clear hb);(try clear hb2);(try clear hk);(try clear hi);obtain ⟨iB,iC,iD,iE,iF,iG,iH,iI,iJ,iK⟩:=cz5 ae));refine bodyPost_ret (results_ct rfl _ _ aB 28 #[.int .i64 0,.int .i64 0,.int .i64 0,.int .i64 0,.slice none 0 0] (0,0) _ rfl (xP5 ae.out) Try.underlying28 rfl (by kernel_rfl)) rfl ?_;exact ⟨_,vw,by first|exact Kd.R_nil _ _ _ _ _|exact Kd.N_nil _ _ _ _ _|exact Kd.V_nil _ _ _ _ _|exact Kd.Q_nil _ _ _ _ _|exact Kd.S_nil _ _ _ _ _,zS HB.out⟩
def laws_eqGEdge.f (a0_0:Int) (a0_1:Int) (a0_2:Int) (a0_3:Int) (a1_0:Int) (a1_1:Int) (a1_2:Int) (a1_3:Int):Option (Bool):=if a0_0=a1_0 then (if a0_1=a1_1 then (if a0_2=a1_2 then (if a0_3=a1_3 then (some true) else (some false)) else (some false)) else (some false)) else (some false)
open Go.Proofs.Ytbfghpbmalpdbaa.Short2 in
set_option maxHeartbeats 8000000 in
set_option maxRecDepth 100000 in
theorem laws_eqGEdge.calls (a0_0:Int) (a0_1:Int) (a0_2:Int) (a0_3:Int) (a1_0:Int) (a1_1:Int) (a1_2:Int) (a1_3:Int) (r:Bool) (w:World) (h:laws_eqGEdge.f a0_0 a0_1 a0_2 a0_3 a1_0 a1_1 a1_2 a1_3=some r) :
  Calls Try.prog 41 #[.agg #[.int .i64 a0_0,.int .i64 a0_1,.int .i64 a0_2,.int .i64 a0_3],.agg #[.int .i64 a1_0,.int .i64 a1_1,.int .i64 a1_2,.int .i64 a1_3]] w fun e w'=>e=.returned (.bool r)∧Below w.heap.size w w':=by
 have hu43:=Try.underlying43;have HB:=Aside0.mk (Below.refl w.heap.size w);have H:(if a0_0=a1_0 then (if a0_1=a1_1 then (if a0_2=a1_2 then (if a0_3=a1_3 then (some true) else (some false)) else (some false)) else (some false)) else (some false))=some r:=h;clear h;by_cases c3:a0_0=a1_0
 ·rw[if_pos c3]at H;have ak:(a0_0 == a1_0)=true:=beq_iff_eq.mpr c3;have al:(a0_0 != a1_0)=false:=bne_eq_false_iff_eq.mpr c3;clear c3;by_cases c4:a0_1=a1_1
  ·rw[if_pos c4]at H;have am:(a0_1 == a1_1)=true:=beq_iff_eq.mpr c4;have an:(a0_1 != a1_1)=false:=bne_eq_false_iff_eq.mpr c4;clear c4;by_cases c5:a0_2=a1_2
   ·rw[if_pos c5]at H;have ao:(a0_2 == a1_2)=true:=beq_iff_eq.mpr c5;have ap:(a0_2 != a1_2)=false:=bne_eq_false_iff_eq.mpr c5;clear c5;by_cases c6:a0_3=a1_3
    ·rw[if_pos c6]at H;have aq:(a0_3 == a1_3)=true:=beq_iff_eq.mpr c6;have ar:(a0_3 != a1_3)=false:=bne_eq_false_iff_eq.mpr c6;clear c6;obtain rfl:=Option.some.inj H;go_enter Try.func41,Try.ntmps41;go_wp2_with (first|((with_reducible refine gate_dst (N:=2) rfl ?_);refine bx_ 2 #[.int .i64 a0_0,.int .i64 a0_1,.int .i64 a0_2,.int .i64 a0_3] 43 ?_;intro ae hg w7 hbox hb;have aa:=Aside0.mk (hbox);have af:=xG HB hg;have ag:=xG HB hg;replace HB:=xS HB hb;clear hb hbox hg)|((with_reducible refine gate_dst (N:=3) rfl ?_);refine bx_ 3 #[.int .i64 a1_0,.int .i64 a1_1,.int .i64 a1_2,.int .i64 a1_3] 43 ?_;intro ah hg w8 hbox hb;have ac:=Aside0.mk (hbox);have ai:=xG HB hg;have aj:=xG HB hg;replace HB:=xS HB hb;have ab:=xN aa hg;have ad:=xM aa hg;replace aa:=xB aa hb;clear hb hbox hg;obtain ⟨cf,cg⟩:=nn ab;obtain ⟨au,av,aw,ax,ay,az,aA,aB⟩:=cz4 aa;obtain ⟨aC,aD,aE,aF,aG,aH,aI,aJ⟩:=cz4 ac));go_ret;exact ⟨vw,zS HB.out⟩
    rw[if_neg c6]at H;have aq:(a0_3 == a1_3)=false:=beq_eq_false_iff_ne.mpr c6;have ar:(a0_3 != a1_3)=true:=bne_iff_ne.mpr c6;obtain rfl:=Option.some.inj H;go_enter Try.func41,Try.ntmps41;go_wp2_with (first|((with_reducible refine gate_dst (N:=2) rfl ?_);refine bx_ 2 #[.int .i64 a0_0,.int .i64 a0_1,.int .i64 a0_2,.int .i64 a0_3] 43 ?_;intro ae hg ch hbox hb;have aa:=Aside0.mk (hbox);have af:=xG HB hg;have ag:=xG HB hg;replace HB:=xS HB hb;clear hb hbox hg)|((with_reducible refine gate_dst (N:=3) rfl ?_);refine bx_ 3 #[.int .i64 a1_0,.int .i64 a1_1,.int .i64 a1_2,.int .i64 a1_3] 43 ?_;intro ah hg ci hbox hb;have ac:=Aside0.mk (hbox);have ai:=xG HB hg;have aj:=xG HB hg;replace HB:=xS HB hb;have ab:=xN aa hg;have ad:=xM aa hg;replace aa:=xB aa hb;clear hb hbox hg;obtain ⟨bX,bY⟩:=nn ab;obtain ⟨aK,aL,aM,aN,aO,aP,aQ,aR⟩:=cz4 aa;obtain ⟨aS,aT,aU,aV,aW,aX,aY,aZ⟩:=cz4 ac));go_ret;exact ⟨vw,zS HB.out⟩
   rw[if_neg c5]at H;have ao:(a0_2 == a1_2)=false:=beq_eq_false_iff_ne.mpr c5;have ap:(a0_2 != a1_2)=true:=bne_iff_ne.mpr c5;obtain rfl:=Option.some.inj H;go_enter Try.func41,Try.ntmps41;go_wp2_with (first|((with_reducible refine gate_dst (N:=2) rfl ?_);refine bx_ 2 #[.int .i64 a0_0,.int .i64 a0_1,.int .i64 a0_2,.int .i64 a0_3] 43 ?_;intro ae hg cj hbox hb;have aa:=Aside0.mk (hbox);have af:=xG HB hg;have ag:=xG HB hg;replace HB:=xS HB hb;clear hb hbox hg)|((with_reducible refine gate_dst (N:=3) rfl ?_);refine bx_ 3 #[.int .i64 a1_0,.int .i64 a1_1,.int .i64 a1_2,.int .i64 a1_3] 43 ?_;intro ah hg ck hbox hb;have ac:=Aside0.mk (hbox);have ai:=xG HB hg;have aj:=xG HB hg;replace HB:=xS HB hb;have ab:=xN aa hg;have ad:=xM aa hg;replace aa:=xB aa hb;clear hb hbox hg;obtain ⟨bZ,ca⟩:=nn ab;obtain ⟨ba,bb,bc,bd,be,bf,bg,bh⟩:=cz4 aa;obtain ⟨bi,bj,bk,bl,bm,bn,bo,bp⟩:=cz4 ac));go_ret;exact ⟨vw,zS HB.out⟩
  rw[if_neg c4]at H;have am:(a0_1 == a1_1)=false:=beq_eq_false_iff_ne.mpr c4;have an:(a0_1 != a1_1)=true:=bne_iff_ne.mpr c4;obtain rfl:=Option.some.inj H;go_enter Try.func41,Try.ntmps41;go_wp2_with (first|((with_reducible refine gate_dst (N:=2) rfl ?_);refine bx_ 2 #[.int .i64 a0_0,.int .i64 a0_1,.int .i64 a0_2,.int .i64 a0_3] 43 ?_;intro ae hg cl hbox hb;have aa:=Aside0.mk (hbox);have af:=xG HB hg;have ag:=xG HB hg;replace HB:=xS HB hb;clear hb hbox hg)|((with_reducible refine gate_dst (N:=3) rfl ?_);refine bx_ 3 #[.int .i64 a1_0,.int .i64 a1_1,.int .i64 a1_2,.int .i64 a1_3] 43 ?_;intro ah hg cm hbox hb;have ac:=Aside0.mk (hbox);have ai:=xG HB hg;have aj:=xG HB hg;replace HB:=xS HB hb;have ab:=xN aa hg;have ad:=xM aa hg;replace aa:=xB aa hb;clear hb hbox hg;obtain ⟨cb,cc⟩:=nn ab;obtain ⟨bq,br,bs,bt,bu,bv,bw,bx⟩:=cz4 aa;obtain ⟨bz,bA,bB,bC,bD,bE,bF,bG⟩:=cz4 ac));go_ret;exact ⟨vw,zS HB.out⟩
 rw[if_neg c3]at H;have ak:(a0_0 == a1_0)=false:=beq_eq_false_iff_ne.mpr c3;have al:(a0_0 != a1_0)=true:=bne_iff_ne.mpr c3;obtain rfl:=Option.some.inj H;go_enter Try.func41,Try.ntmps41;go_wp2_with (first|((with_reducible refine gate_dst (N:=2) rfl ?_);refine bx_ 2 #[.int .i64 a0_0,.int .i64 a0_1,.int .i64 a0_2,.int .i64 a0_3] 43 ?_;intro ae hg cn hbox hb;have aa:=Aside0.mk (hbox);have af:=xG HB hg;have ag:=xG HB hg;replace HB:=xS HB hb;clear hb hbox hg)|((with_reducible refine gate_dst (N:=3) rfl ?_);refine bx_ 3 #[.int .i64 a1_0,.int .i64 a1_1,.int .i64 a1_2,.int .i64 a1_3] 43 ?_;intro ah hg co hbox hb;have ac:=Aside0.mk (hbox);have ai:=xG HB hg;have aj:=xG HB hg;replace HB:=xS HB hb;have ab:=xN aa hg;have ad:=xM aa hg;replace aa:=xB aa hb;clear hb hbox hg;obtain ⟨cd,ce⟩:=nn ab;obtain ⟨bH,bI,bJ,bK,bL,bM,bN,bO⟩:=cz4 aa;obtain ⟨bP,bQ,bR,bS,bT,bU,bV,bW⟩:=cz4 ac));go_ret;exact ⟨vw,zS HB.out⟩
section
open Go.Proofs.Ytbfghpbmalpdbaa.Short2.T
abbrev laws_eqGEdgeS.bl0:Array Bool:=#[f,f,f,f,f,f,f,f,f,f]
abbrev laws_eqGEdgeS.bl1:Array Bool:=#[t,f,f,f,f,f,f,f,f,f]
abbrev laws_eqGEdgeS.bl2:Array Bool:=#[t,t,f,f,f,f,f,f,f,f]
abbrev laws_eqGEdgeS.bl3:Array Bool:=#[t,t,t,f,f,f,f,f,f,f]
abbrev laws_eqGEdgeS.bl4:Array Bool:=#[t,t,t,f,t,f,f,f,f,f]
abbrev laws_eqGEdgeS.bl5:Array Bool:=#[t,t,t,f,t,t,f,f,f,f]
abbrev laws_eqGEdgeS.bl6:Array Bool:=#[t,t,t,f,t,t,t,f,f,f]
abbrev laws_eqGEdgeS.bl7:Array Bool:=#[t,t,t,t,t,t,t,f,f,f]
abbrev laws_eqGEdgeS.bl8:Array Bool:=#[t,t,t,t,t,t,t,t,f,f]
abbrev laws_eqGEdgeS.bl9:Array Bool:=#[t,t,t,t,t,t,t,t,t,f]
abbrev laws_eqGEdgeS.bl10:Array Bool:=#[t,t,t,t,t,t,t,t,t,t]
end
def laws_eqGEdgeS.l0:Nat→List (S43)→List (S43)→Int→Option (Bool)
 | 0,_,_,_=>none
 | k+1,x0,x1,x5=>if x5<(x0.length:Int) then (if 0≤x5 then (if x5<(x1.length:Int) then ((laws_eqGEdge.f ((rd_T43 x0 x5).f0) ((rd_T43 x0 x5).f1) ((rd_T43 x0 x5).f2) ((rd_T43 x0 x5).f3) ((rd_T43 x1 x5).f0) ((rd_T43 x1 x5).f1) ((rd_T43 x1 x5).f2) ((rd_T43 x1 x5).f3)).bind fun t295=>(if t295=true then (laws_eqGEdgeS.l0 k x0 x1 (wrap64 (x5+1))) else (some false))) else (none)) else (none)) else (some true)
def laws_eqGEdgeS.f (k:Nat) (l0:List (S43)) (l1:List (S43)):Option (Bool):=if (l0.length:Int)=(l1.length:Int) then (laws_eqGEdgeS.l0 k l0 l1 0) else (some false)
theorem laws_eqGEdgeS.mono_l:∀ k,(∀ y0 y1 y2,LeO (laws_eqGEdgeS.l0 k y0 y1 y2) (laws_eqGEdgeS.l0 (k+1) y0 y1 y2))
 | 0=>fun _ _ _ r h=>by simp[laws_eqGEdgeS.l0]at h
 | k+1=>by
  have ih0:=laws_eqGEdgeS.mono_l k
  ·intro y0 y1 y2;unfold laws_eqGEdgeS.l0;repeat' first
   | (with_reducible exact ih0 _ _ _)
   | (with_reducible exact LeO.refl _)
   | (with_reducible exact LeO.none _)
   | (with_reducible refine LeO.ite ?_ ?_)
   | (with_reducible refine LeO.bind ?_ (fun _=>?_))
   | exact ih0 _ _ _
   | exact LeO.none _
   | refine LeO.ite ?_ ?_
   | refine LeO.bind ?_ (fun _=>?_)
theorem laws_eqGEdgeS.mono:∀ a0 a1 k,LeO (laws_eqGEdgeS.f k a0 a1) (laws_eqGEdgeS.f (k+1) a0 a1):=by
 intro a0 a1 k;have ih0:=laws_eqGEdgeS.mono_l k;unfold laws_eqGEdgeS.f;repeat' first
   | (with_reducible exact ih0 _ _ _)
   | (with_reducible exact LeO.refl _)
   | (with_reducible exact LeO.none _)
   | (with_reducible refine LeO.ite ?_ ?_)
   | (with_reducible refine LeO.bind ?_ (fun _=>?_))
   | exact ih0 _ _ _
   | exact LeO.none _
   | refine LeO.ite ?_ ?_
   | refine LeO.bind ?_ (fun _=>?_)
def laws_eqGEdgeS.T6:Bool × List (List Nat × List Nat):=(true,[([],[]),([],[]),([0,1],[0,1]),([2],[2]),([],[]),([],[]),([4,5],[4,5]),([6],[6]),([3,7],[3,7]),([8],[8])])
def laws_eqGEdgeS.B6:List Nat:=[0,0,3,7,0,0,48,112,255,511]
theorem laws_eqGEdgeS.tab6:rtab .any (opsOf Try.f23 6)=laws_eqGEdgeS.T6:=by kernel_rfl
theorem laws_eqGEdgeS.bits6:waitsOk laws_eqGEdgeS.T6.2 laws_eqGEdgeS.B6=true:=by kernel_rfl
open Go.Proofs.Ytbfghpbmalpdbaa.Short2 in
set_option maxHeartbeats 8000000 in
set_option maxRecDepth 100000 in
theorem laws_eqGEdgeS.calls (k:Nat) (A0:Option Addr) (c0:Nat) (l0:List (S43)) (A1:Option Addr) (c1:Nat) (l1:List (S43)) (r:Bool) (w:World) (hr0:Kd.C k43 w A0 l0.length l0) (hc0:l0.length≤c0) (hr1:Kd.C k43 w A1 l1.length l1) (hc1:l1.length≤c1) (h:laws_eqGEdgeS.f k l0 l1=some r) :
  Calls Try.prog 23 #[.slice A0 l0.length c0,.slice A1 l1.length c1] w fun e w'=>e=.returned (.bool r)∧Below w.heap.size w w':=by
 have hu43:=Try.underlying43;have HR0:=Aside0.mk hr0;have HC0:=Aside0.mk hc0;clear hr0 hc0;have HR1:=Aside0.mk hr1;have HC1:=Aside0.mk hc1;clear hr1 hc1;have HB:=Aside0.mk (Below.refl w.heap.size w);have H:(if (l0.length:Int)=(l1.length:Int) then (laws_eqGEdgeS.l0 k l0 l1 0) else (some false))=some r:=h;clear h;by_cases c3:(l0.length:Int)=(l1.length:Int)
 ·rw[if_pos c3]at H;have ak:((l0.length:Int) == (l1.length:Int))=true:=beq_iff_eq.mpr c3;have al:((l0.length:Int) != (l1.length:Int))=false:=bne_eq_false_iff_eq.mpr c3;have am:(l0.length == l1.length)=true:=by first|simpa using c3|(simp at c3 ⊢;omega)
  clear c3;have H':=Aside0.mk H;clear H;go_enter Try.func23,Try.ntmps23;go_wp2;go_loopg [5] k (fun kq v5 w'=>∃ (x5_1:Int),v5=.int .i64 x5_1∧Aside0 (laws_eqGEdgeS.l0 kq l0 l1 x5_1=some r)∧Aside0 (kq≤k)∧Aside0 (Below w.heap.size w w'))
  case atStart=>exact ⟨(0),vv,H',⟨Nat.le_refl _⟩,⟨zS HB.out⟩⟩
  case round=>
   clear H';try clear c1
   try clear c2
   try clear p2
   try clear c3
   try clear ak
   try clear al
   try clear am
   obtain ⟨x5_1,rfl,HA,HK1,HB⟩:=hrel
   cases gk with
   | zero=>exact absurd HA.out (by simp[laws_eqGEdgeS.l0])
   | succ k1=>
    have H:=HA.out;clear HA;simp only[laws_eqGEdgeS.l0]at H;by_cases c4:x5_1<(l0.length:Int)
    ·rw[if_pos c4]at H;have ap:decide (x5_1<(l0.length:Int))=true:=decide_eq_true c4;clear c4;by_cases c5:0≤x5_1
     ·rw[if_pos c5]at H;have aq:decide (0≤x5_1)=true:=decide_eq_true c5;clear c5;by_cases c6:x5_1<(l1.length:Int)
      ·rw[if_pos c6]at H;have ar:decide (x5_1<(l1.length:Int))=true:=decide_eq_true c6;clear c6;replace H:=bI H;obtain ⟨an,ao,H⟩:=H;replace H:(if an=true then (laws_eqGEdgeS.l0 k1 l0 l1 (wrap64 (x5_1+1))) else (some false))=some r:=H;have A7:=Aside0.mk ao;clear ao;by_cases c8:an=true
       ·subst c8;have H1:(laws_eqGEdgeS.l0 k1 l0 l1 (wrap64 (x5_1+1)))=some r:=by rw[if_pos rfl]at H;exact H
        clear H;have H:=H1;clear H1;have H':=Aside0.mk H;clear H;try go_wp2
        replace HB:=Aside0.mk (below_drew1 HB.out);have ai:0≤(x5_1:Int):=oD;have q293:x5_1<(l0.length:Int):=oD;obtain ⟨ad293,e293,aa,ab,ac,ad⟩:=at_T43 HR0.out x5_1 ai q293;have hw293_3:=ad;have hw293_2:=ac;have hw293_1:=ab;have hw293_0:=aa
        cases e293
        replace aa:=ct_ HB aa;replace ab:=ct_ HB ab;replace ac:=ct_ HB ac;replace ad:=ct_ HB ad;replace ai:=eq_true ai;replace q293:=eq_true q293;have aj:0≤(x5_1:Int):=oD;have q294:x5_1<(l1.length:Int):=oD;obtain ⟨ad294,e294,ae,af,ag,ah⟩:=at_T43 HR1.out x5_1 aj q294;have hw294_3:=ah;have hw294_2:=ag;have hw294_1:=af;have hw294_0:=ae
        cases e294
        replace ae:=ct_ HB ae;replace af:=ct_ HB af;replace ag:=ct_ HB ag;replace ah:=ct_ HB ah;replace aj:=eq_true aj;replace q294:=eq_true q294;refine start_ (n:=10) (S:=fun w'=>w'.cell? (ad293.add ((x5_1).toNat * 4))=some (.int .i64 ((rd_T43 l0 x5_1).f0))∧w'.cell? ⟨(ad293.add ((x5_1).toNat * 4)).block,(ad293.add ((x5_1).toNat * 4)).off+1,none⟩=some (.int .i64 ((rd_T43 l0 x5_1).f1))∧w'.cell? ⟨(ad293.add ((x5_1).toNat * 4)).block,(ad293.add ((x5_1).toNat * 4)).off+2,none⟩=some (.int .i64 ((rd_T43 l0 x5_1).f2))∧w'.cell? ⟨(ad293.add ((x5_1).toNat * 4)).block,(ad293.add ((x5_1).toNat * 4)).off+3,none⟩=some (.int .i64 ((rd_T43 l0 x5_1).f3))∧w'.cell? (ad294.add ((x5_1).toNat * 4))=some (.int .i64 ((rd_T43 l1 x5_1).f0))∧w'.cell? ⟨(ad294.add ((x5_1).toNat * 4)).block,(ad294.add ((x5_1).toNat * 4)).off+1,none⟩=some (.int .i64 ((rd_T43 l1 x5_1).f1))∧w'.cell? ⟨(ad294.add ((x5_1).toNat * 4)).block,(ad294.add ((x5_1).toNat * 4)).off+2,none⟩=some (.int .i64 ((rd_T43 l1 x5_1).f2))∧w'.cell? ⟨(ad294.add ((x5_1).toNat * 4)).block,(ad294.add ((x5_1).toNat * 4)).off+3,none⟩=some (.int .i64 ((rd_T43 l1 x5_1).f3))) (ds:=[]) bl0 (by kernel_rfl) rfl rfl ⟨(ct_ HB hw293_0),(ct_ HB hw293_1),(ct_ HB hw293_2),(ct_ HB hw293_3),(ct_ HB hw294_0),(ct_ HB hw294_1),(ct_ HB hw294_2),(ct_ HB hw294_3)⟩ (fun hHeld=>?_);refine with_tabW laws_eqGEdgeS.tab6 laws_eqGEdgeS.bits6 (fun HT_ HW_=>?_);generalize wr.drew=w9 at HB aa ab ac ad ae af ag ah hHeld ⊢;refine pv_ 0 (some 17) bl1 HT_ ?_
        refine pv_ 1 (some 18) bl2 HT_ ?_
        refine pv_ 2 (some 19) bl3 HT_ ?_
        refine pv_ 4 (some 21) bl4 HT_ ?_
        refine pv_ 5 (some 22) bl5 HT_ ?_
        refine pv_ 6 (some 23) bl6 HT_ ?_
        refine tk_ 3 (some 20) bl7 HT_ HW_ hHeld ?_
        refine tk_ 7 (some 24) bl8 HT_ HW_ hHeld ?_
        refine on_ 8 (some 25) bl9 HT_ (fun K hK=>?_);refine gs_ Try.func41 #[.agg #[.int .i64 ((rd_T43 l0 x5_1).f0),.int .i64 ((rd_T43 l0 x5_1).f1),.int .i64 ((rd_T43 l0 x5_1).f2),.int .i64 ((rd_T43 l0 x5_1).f3)],.agg #[.int .i64 ((rd_T43 l1 x5_1).f0),.int .i64 ((rd_T43 l1 x5_1).f1),.int .i64 ((rd_T43 l1 x5_1).f2),.int .i64 ((rd_T43 l1 x5_1).f3)]] ?_
        with_reducible refine (laws_eqGEdge.calls ((rd_T43 l0 x5_1).f0) ((rd_T43 l0 x5_1).f1) ((rd_T43 l0 x5_1).f2) ((rd_T43 l0 x5_1).f3) ((rd_T43 l1 x5_1).f0) ((rd_T43 l1 x5_1).f1) ((rd_T43 l1 x5_1).f2) ((rd_T43 l1 x5_1).f3) true _ A7.out).mono ?_
        rintro e au ⟨rfl,hb⟩;refine ⟨_,rfl,?_⟩;replace HB:=xS HB hb;(try clear hb);(try clear hb2);(try clear hk);(try clear hi);refine hK.out _ _ ⟨(ct_ HB hw293_0),(ct_ HB hw293_1),(ct_ HB hw293_2),(ct_ HB hw293_3),(ct_ HB hw294_0),(ct_ HB hw294_1),(ct_ HB hw294_2),(ct_ HB hw294_3)⟩ (fun hHeld=>?_);clear hK K;refine nr_ (some 25) ?_
        refine pv_ 9 (some 26) bl10 HT_ ?_
        refine done_ (done_of HT_.out (by kernel_rfl)) ?_
        try go_wp2
        go_roundg k1
        case measure=>have:=HK1.out;omega
        case rel=>exact ⟨(wrap64 (x5_1+1)),vv,H',⟨by have:=HK1.out;omega⟩,⟨zS HB.out⟩⟩
       replace c8:=Bool.eq_false_iff.mpr c8;subst c8;have H1:(some false)=some r:=by rw[if_neg (show ¬ (false=true) by decide)]at H;exact H
       clear H;have H:=H1;clear H1;obtain rfl:=Option.some.inj H;try go_wp2
       replace HB:=Aside0.mk (below_drew1 HB.out);have ai:0≤(x5_1:Int):=oD;have q293:x5_1<(l0.length:Int):=oD;obtain ⟨ad293,e293,aa,ab,ac,ad⟩:=at_T43 HR0.out x5_1 ai q293;have hw293_3:=ad;have hw293_2:=ac;have hw293_1:=ab;have hw293_0:=aa
       cases e293
       replace aa:=ct_ HB aa;replace ab:=ct_ HB ab;replace ac:=ct_ HB ac;replace ad:=ct_ HB ad;replace ai:=eq_true ai;replace q293:=eq_true q293;have aj:0≤(x5_1:Int):=oD;have q294:x5_1<(l1.length:Int):=oD;obtain ⟨ad294,e294,ae,af,ag,ah⟩:=at_T43 HR1.out x5_1 aj q294;have hw294_3:=ah;have hw294_2:=ag;have hw294_1:=af;have hw294_0:=ae
       cases e294
       replace ae:=ct_ HB ae;replace af:=ct_ HB af;replace ag:=ct_ HB ag;replace ah:=ct_ HB ah;replace aj:=eq_true aj;replace q294:=eq_true q294;refine start_ (n:=10) (S:=fun w'=>w'.cell? (ad293.add ((x5_1).toNat * 4))=some (.int .i64 ((rd_T43 l0 x5_1).f0))∧w'.cell? ⟨(ad293.add ((x5_1).toNat * 4)).block,(ad293.add ((x5_1).toNat * 4)).off+1,none⟩=some (.int .i64 ((rd_T43 l0 x5_1).f1))∧w'.cell? ⟨(ad293.add ((x5_1).toNat * 4)).block,(ad293.add ((x5_1).toNat * 4)).off+2,none⟩=some (.int .i64 ((rd_T43 l0 x5_1).f2))∧w'.cell? ⟨(ad293.add ((x5_1).toNat * 4)).block,(ad293.add ((x5_1).toNat * 4)).off+3,none⟩=some (.int .i64 ((rd_T43 l0 x5_1).f3))∧w'.cell? (ad294.add ((x5_1).toNat * 4))=some (.int .i64 ((rd_T43 l1 x5_1).f0))∧w'.cell? ⟨(ad294.add ((x5_1).toNat * 4)).block,(ad294.add ((x5_1).toNat * 4)).off+1,none⟩=some (.int .i64 ((rd_T43 l1 x5_1).f1))∧w'.cell? ⟨(ad294.add ((x5_1).toNat * 4)).block,(ad294.add ((x5_1).toNat * 4)).off+2,none⟩=some (.int .i64 ((rd_T43 l1 x5_1).f2))∧w'.cell? ⟨(ad294.add ((x5_1).toNat * 4)).block,(ad294.add ((x5_1).toNat * 4)).off+3,none⟩=some (.int .i64 ((rd_T43 l1 x5_1).f3))) (ds:=[]) bl0 (by kernel_rfl) rfl rfl ⟨(ct_ HB hw293_0),(ct_ HB hw293_1),(ct_ HB hw293_2),(ct_ HB hw293_3),(ct_ HB hw294_0),(ct_ HB hw294_1),(ct_ HB hw294_2),(ct_ HB hw294_3)⟩ (fun hHeld=>?_);refine with_tabW laws_eqGEdgeS.tab6 laws_eqGEdgeS.bits6 (fun HT_ HW_=>?_);generalize wr.drew=av at HB aa ab ac ad ae af ag ah hHeld ⊢;refine pv_ 0 (some 17) bl1 HT_ ?_
       refine pv_ 1 (some 18) bl2 HT_ ?_
       refine pv_ 2 (some 19) bl3 HT_ ?_
       refine pv_ 4 (some 21) bl4 HT_ ?_
       refine pv_ 5 (some 22) bl5 HT_ ?_
       refine pv_ 6 (some 23) bl6 HT_ ?_
       refine tk_ 3 (some 20) bl7 HT_ HW_ hHeld ?_
       refine tk_ 7 (some 24) bl8 HT_ HW_ hHeld ?_
       refine on_ 8 (some 25) bl9 HT_ (fun K hK=>?_);refine gs_ Try.func41 #[.agg #[.int .i64 ((rd_T43 l0 x5_1).f0),.int .i64 ((rd_T43 l0 x5_1).f1),.int .i64 ((rd_T43 l0 x5_1).f2),.int .i64 ((rd_T43 l0 x5_1).f3)],.agg #[.int .i64 ((rd_T43 l1 x5_1).f0),.int .i64 ((rd_T43 l1 x5_1).f1),.int .i64 ((rd_T43 l1 x5_1).f2),.int .i64 ((rd_T43 l1 x5_1).f3)]] ?_
       with_reducible refine (laws_eqGEdge.calls ((rd_T43 l0 x5_1).f0) ((rd_T43 l0 x5_1).f1) ((rd_T43 l0 x5_1).f2) ((rd_T43 l0 x5_1).f3) ((rd_T43 l1 x5_1).f0) ((rd_T43 l1 x5_1).f1) ((rd_T43 l1 x5_1).f2) ((rd_T43 l1 x5_1).f3) false _ A7.out).mono ?_
       rintro e aw ⟨rfl,hb⟩;refine ⟨_,rfl,?_⟩;replace HB:=xS HB hb;(try clear hb);(try clear hb2);(try clear hk);(try clear hi);refine hK.out _ _ ⟨(ct_ HB hw293_0),(ct_ HB hw293_1),(ct_ HB hw293_2),(ct_ HB hw293_3),(ct_ HB hw294_0),(ct_ HB hw294_1),(ct_ HB hw294_2),(ct_ HB hw294_3)⟩ (fun hHeld=>?_);clear hK K;refine nr_ (some 25) ?_
       refine pv_ 9 (some 26) bl10 HT_ ?_
       refine done_ (done_of HT_.out (by kernel_rfl)) ?_
       try go_wp2
       go_ret;exact ⟨vw,zS HB.out⟩
      rw[if_neg c6]at H;exact absurd H (by simp)
     rw[if_neg c5]at H;exact absurd H (by simp)
    rw[if_neg c4]at H;have ap:decide (x5_1<(l0.length:Int))=false:=decide_eq_false c4;clear c4;obtain rfl:=Option.some.inj H;go_wp2;go_ret;exact ⟨vw,zS HB.out⟩
 rw[if_neg c3]at H;have ak:((l0.length:Int) == (l1.length:Int))=false:=beq_eq_false_iff_ne.mpr c3;have al:((l0.length:Int) != (l1.length:Int))=true:=bne_iff_ne.mpr c3;have am:(l0.length == l1.length)=false:=by first|simpa using c3|(simp at c3 ⊢;omega)
 obtain rfl:=Option.some.inj H;go_enter Try.func23,Try.ntmps23;go_wp2;go_ret;exact ⟨vw,zS HB.out⟩
def laws_eqGen.f (k:Nat) (a0_0:Int) (a0_1:Int) (a0_2:Int) (a0_3:Int) (l0_4:List (S43)) (a1_0:Int) (a1_1:Int) (a1_2:Int) (a1_3:Int) (l1_4:List (S43)):Option (Bool):=if a0_0=a1_0 then (if a0_1=a1_1 then (if a0_2=a1_2 then (if a0_3=a1_3 then ((laws_eqGEdgeS.f k l0_4 l1_4).bind fun t298=>(if t298=true then (some true) else (some false))) else (some false)) else (some false)) else (some false)) else (some false)
theorem laws_eqGen.mono:∀ a0 a1 a2 a3 a4 a5 a6 a7 a8 a9 k,LeO (laws_eqGen.f k a0 a1 a2 a3 a4 a5 a6 a7 a8 a9) (laws_eqGen.f (k+1) a0 a1 a2 a3 a4 a5 a6 a7 a8 a9):=by
 intro a0 a1 a2 a3 a4 a5 a6 a7 a8 a9 k;unfold laws_eqGen.f;repeat' first
   | (with_reducible exact laws_eqGEdgeS.mono _ _ _)
   | (with_reducible exact LeO.refl _)
   | (with_reducible exact LeO.none _)
   | (with_reducible refine LeO.ite ?_ ?_)
   | (with_reducible refine LeO.bind ?_ (fun _=>?_))
   | exact laws_eqGEdgeS.mono _ _ _
   | exact LeO.none _
   | refine LeO.ite ?_ ?_
   | refine LeO.bind ?_ (fun _=>?_)
open Go.Proofs.Ytbfghpbmalpdbaa.Short2 in
set_option maxHeartbeats 8000000 in
set_option maxRecDepth 100000 in
theorem laws_eqGen.calls (k:Nat) (a0_0:Int) (a0_1:Int) (a0_2:Int) (a0_3:Int) (A0_4:Option Addr) (c0_4:Nat) (l0_4:List (S43)) (a1_0:Int) (a1_1:Int) (a1_2:Int) (a1_3:Int) (A1_4:Option Addr) (c1_4:Nat) (l1_4:List (S43)) (r:Bool) (w:World) (hr0_4:Kd.C k43 w A0_4 l0_4.length l0_4) (hc0_4:l0_4.length≤c0_4) (hr1_4:Kd.C k43 w A1_4 l1_4.length l1_4) (hc1_4:l1_4.length≤c1_4) (h:laws_eqGen.f k a0_0 a0_1 a0_2 a0_3 l0_4 a1_0 a1_1 a1_2 a1_3 l1_4=some r) :
  Calls Try.prog 8 #[.agg #[.int .i64 a0_0,.int .i64 a0_1,.int .i64 a0_2,.int .i64 a0_3,.slice A0_4 l0_4.length c0_4],.agg #[.int .i64 a1_0,.int .i64 a1_1,.int .i64 a1_2,.int .i64 a1_3,.slice A1_4 l1_4.length c1_4]] w fun e w'=>e=.returned (.bool r)∧Below w.heap.size w w':=by
 have hu28:=Try.underlying28;have HR0_4:=Aside0.mk hr0_4;have HC0_4:=Aside0.mk hc0_4;clear hr0_4 hc0_4;have HR1_4:=Aside0.mk hr1_4;have HC1_4:=Aside0.mk hc1_4;clear hr1_4 hc1_4;have HB:=Aside0.mk (Below.refl w.heap.size w);have H:(if a0_0=a1_0 then (if a0_1=a1_1 then (if a0_2=a1_2 then (if a0_3=a1_3 then ((laws_eqGEdgeS.f k l0_4 l1_4).bind fun ak=>(if ak=true then (some true) else (some false))) else (some false)) else (some false)) else (some false)) else (some false))=some r:=h;clear h;by_cases c3:a0_0=a1_0
 ·rw[if_pos c3]at H;have am:(a0_0 == a1_0)=true:=beq_iff_eq.mpr c3;have an:(a0_0 != a1_0)=false:=bne_eq_false_iff_eq.mpr c3;clear c3;by_cases c4:a0_1=a1_1
  ·rw[if_pos c4]at H;have ao:(a0_1 == a1_1)=true:=beq_iff_eq.mpr c4;have ap:(a0_1 != a1_1)=false:=bne_eq_false_iff_eq.mpr c4;clear c4;by_cases c5:a0_2=a1_2
   ·rw[if_pos c5]at H;have aq:(a0_2 == a1_2)=true:=beq_iff_eq.mpr c5;have ar:(a0_2 != a1_2)=false:=bne_eq_false_iff_eq.mpr c5;clear c5;by_cases c6:a0_3=a1_3
    ·rw[if_pos c6]at H;have au:(a0_3 == a1_3)=true:=beq_iff_eq.mpr c6;have av:(a0_3 != a1_3)=false:=bne_eq_false_iff_eq.mpr c6;clear c6;replace H:=bI H;obtain ⟨ak,al,H⟩:=H;replace H:(if ak=true then (some true) else (some false))=some r:=H;have A7:=Aside0.mk al;clear al;by_cases c8:ak=true
     ·subst c8;have H1:(some true)=some r:=by rw[if_pos rfl]at H;exact H
      clear H;have H:=H1;clear H1;obtain rfl:=Option.some.inj H;go_enter Try.func8,Try.ntmps8;go_wp2_with (first|((with_reducible refine gate_dst (N:=2) rfl ?_);refine bx_ 2 #[.int .i64 a0_0,.int .i64 a0_1,.int .i64 a0_2,.int .i64 a0_3,.slice A0_4 l0_4.length c0_4] 28 ?_;intro ae hg w9 hbox hb;have aa:=Aside0.mk (hbox);have af:=xG HB hg;have ag:=xG HB hg;replace HB:=xS HB hb;clear hb hbox hg)|((with_reducible refine gate_dst (N:=3) rfl ?_);refine bx_ 3 #[.int .i64 a1_0,.int .i64 a1_1,.int .i64 a1_2,.int .i64 a1_3,.slice A1_4 l1_4.length c1_4] 28 ?_;intro ah hg db hbox hb;have ac:=Aside0.mk (hbox);have ai:=xG HB hg;have aj:=xG HB hg;replace HB:=xS HB hb;have ab:=xN aa hg;have ad:=xM aa hg;replace aa:=xB aa hb;clear hb hbox hg;obtain ⟨cO,cP⟩:=nn ab;obtain ⟨aw,ax,ay,az,aA,aB,aC,aD,aE,aF⟩:=cz5 aa;obtain ⟨aG,aH,aI,aJ,aK,aL,aM,aN,aO,aP⟩:=cz5 ac)|((with_reducible refine gate_callee (f:=23) rfl ?_);refine gl_ (some 29) Try.func23 #[.slice A0_4 l0_4.length c0_4,.slice A1_4 l1_4.length c1_4] ?_;(with_reducible refine (laws_eqGEdgeS.calls k _ _ l0_4 _ _ l1_4 true _ ?side1 ?side2 ?side3 ?side4 A7.out).mono ?_);(case side1=>exact zC (Kd.C_below HR0_4.out HB.out));(case side2=>exact HC0_4.out);(case side3=>exact zC (Kd.C_below HR1_4.out HB.out));(case side4=>exact HC1_4.out);rintro e dc ⟨rfl,hb⟩;refine ⟨_,rfl,?_⟩;replace aa:=xB aa hb;replace ac:=xB ac hb;replace HB:=xS HB hb;(try clear hb);(try clear hb2);(try clear hk);(try clear hi)));go_ret;exact ⟨vw,zS HB.out⟩
     replace c8:=Bool.eq_false_iff.mpr c8;subst c8;have H1:(some false)=some r:=by rw[if_neg (show ¬ (false=true) by decide)]at H;exact H
     clear H;have H:=H1;clear H1;obtain rfl:=Option.some.inj H;go_enter Try.func8,Try.ntmps8;go_wp2_with (first|((with_reducible refine gate_dst (N:=2) rfl ?_);refine bx_ 2 #[.int .i64 a0_0,.int .i64 a0_1,.int .i64 a0_2,.int .i64 a0_3,.slice A0_4 l0_4.length c0_4] 28 ?_;intro ae hg dd hbox hb;have aa:=Aside0.mk (hbox);have af:=xG HB hg;have ag:=xG HB hg;replace HB:=xS HB hb;clear hb hbox hg)|((with_reducible refine gate_dst (N:=3) rfl ?_);refine bx_ 3 #[.int .i64 a1_0,.int .i64 a1_1,.int .i64 a1_2,.int .i64 a1_3,.slice A1_4 l1_4.length c1_4] 28 ?_;intro ah hg de hbox hb;have ac:=Aside0.mk (hbox);have ai:=xG HB hg;have aj:=xG HB hg;replace HB:=xS HB hb;have ab:=xN aa hg;have ad:=xM aa hg;replace aa:=xB aa hb;clear hb hbox hg;obtain ⟨cQ,cR⟩:=nn ab;obtain ⟨aQ,aR,aS,aT,aU,aV,aW,aX,aY,aZ⟩:=cz5 aa;obtain ⟨ba,bb,bc,bd,be,bf,bg,bh,bi,bj⟩:=cz5 ac)|((with_reducible refine gate_callee (f:=23) rfl ?_);refine gl_ (some 29) Try.func23 #[.slice A0_4 l0_4.length c0_4,.slice A1_4 l1_4.length c1_4] ?_;(with_reducible refine (laws_eqGEdgeS.calls k _ _ l0_4 _ _ l1_4 false _ ?side1 ?side2 ?side3 ?side4 A7.out).mono ?_);(case side1=>exact zC (Kd.C_below HR0_4.out HB.out));(case side2=>exact HC0_4.out);(case side3=>exact zC (Kd.C_below HR1_4.out HB.out));(case side4=>exact HC1_4.out);rintro e df ⟨rfl,hb⟩;refine ⟨_,rfl,?_⟩;replace aa:=xB aa hb;replace ac:=xB ac hb;replace HB:=xS HB hb;(try clear hb);(try clear hb2);(try clear hk);(try clear hi)));go_ret;exact ⟨vw,zS HB.out⟩
    rw[if_neg c6]at H;have au:(a0_3 == a1_3)=false:=beq_eq_false_iff_ne.mpr c6;have av:(a0_3 != a1_3)=true:=bne_iff_ne.mpr c6;obtain rfl:=Option.some.inj H;go_enter Try.func8,Try.ntmps8;go_wp2_with (first|((with_reducible refine gate_dst (N:=2) rfl ?_);refine bx_ 2 #[.int .i64 a0_0,.int .i64 a0_1,.int .i64 a0_2,.int .i64 a0_3,.slice A0_4 l0_4.length c0_4] 28 ?_;intro ae hg dg hbox hb;have aa:=Aside0.mk (hbox);have af:=xG HB hg;have ag:=xG HB hg;replace HB:=xS HB hb;clear hb hbox hg)|((with_reducible refine gate_dst (N:=3) rfl ?_);refine bx_ 3 #[.int .i64 a1_0,.int .i64 a1_1,.int .i64 a1_2,.int .i64 a1_3,.slice A1_4 l1_4.length c1_4] 28 ?_;intro ah hg dh hbox hb;have ac:=Aside0.mk (hbox);have ai:=xG HB hg;have aj:=xG HB hg;replace HB:=xS HB hb;have ab:=xN aa hg;have ad:=xM aa hg;replace aa:=xB aa hb;clear hb hbox hg;obtain ⟨cS,cU⟩:=nn ab;obtain ⟨bk,bl,bm,bn,bo,bp,bq,br,bs,bt⟩:=cz5 aa;obtain ⟨bu,bv,bw,bx,bz,bA,bB,bC,bD,bE⟩:=cz5 ac));go_ret;exact ⟨vw,zS HB.out⟩
   rw[if_neg c5]at H;have aq:(a0_2 == a1_2)=false:=beq_eq_false_iff_ne.mpr c5;have ar:(a0_2 != a1_2)=true:=bne_iff_ne.mpr c5;obtain rfl:=Option.some.inj H;go_enter Try.func8,Try.ntmps8;go_wp2_with (first|((with_reducible refine gate_dst (N:=2) rfl ?_);refine bx_ 2 #[.int .i64 a0_0,.int .i64 a0_1,.int .i64 a0_2,.int .i64 a0_3,.slice A0_4 l0_4.length c0_4] 28 ?_;intro ae hg di hbox hb;have aa:=Aside0.mk (hbox);have af:=xG HB hg;have ag:=xG HB hg;replace HB:=xS HB hb;clear hb hbox hg)|((with_reducible refine gate_dst (N:=3) rfl ?_);refine bx_ 3 #[.int .i64 a1_0,.int .i64 a1_1,.int .i64 a1_2,.int .i64 a1_3,.slice A1_4 l1_4.length c1_4] 28 ?_;intro ah hg dj hbox hb;have ac:=Aside0.mk (hbox);have ai:=xG HB hg;have aj:=xG HB hg;replace HB:=xS HB hb;have ab:=xN aa hg;have ad:=xM aa hg;replace aa:=xB aa hb;clear hb hbox hg;obtain ⟨cV,cW⟩:=nn ab;obtain ⟨bF,bG,bH,bJ,bK,bL,bM,bN,bO,bP⟩:=cz5 aa;obtain ⟨bQ,bR,bS,bT,bU,bV,bW,bX,bY,bZ⟩:=cz5 ac));go_ret;exact ⟨vw,zS HB.out⟩
  rw[if_neg c4]at H;have ao:(a0_1 == a1_1)=false:=beq_eq_false_iff_ne.mpr c4;have ap:(a0_1 != a1_1)=true:=bne_iff_ne.mpr c4;obtain rfl:=Option.some.inj H;go_enter Try.func8,Try.ntmps8;go_wp2_with (first|((with_reducible refine gate_dst (N:=2) rfl ?_);refine bx_ 2 #[.int .i64 a0_0,.int .i64 a0_1,.int .i64 a0_2,.int .i64 a0_3,.slice A0_4 l0_4.length c0_4] 28 ?_;intro ae hg dk hbox hb;have aa:=Aside0.mk (hbox);have af:=xG HB hg;have ag:=xG HB hg;replace HB:=xS HB hb;clear hb hbox hg)|((with_reducible refine gate_dst (N:=3) rfl ?_);refine bx_ 3 #[.int .i64 a1_0,.int .i64 a1_1,.int .i64 a1_2,.int .i64 a1_3,.slice A1_4 l1_4.length c1_4] 28 ?_;intro ah hg dl hbox hb;have ac:=Aside0.mk (hbox);have ai:=xG HB hg;have aj:=xG HB hg;replace HB:=xS HB hb;have ab:=xN aa hg;have ad:=xM aa hg;replace aa:=xB aa hb;clear hb hbox hg;obtain ⟨cX,cY⟩:=nn ab;obtain ⟨ca,cb,cc,cd,ce,cf,cg,ch,ci,cj⟩:=cz5 aa;obtain ⟨ck,cl,cm,cn,co,cp,cq,cr,cs,ct⟩:=cz5 ac));go_ret;exact ⟨vw,zS HB.out⟩
 rw[if_neg c3]at H;have am:(a0_0 == a1_0)=false:=beq_eq_false_iff_ne.mpr c3;have an:(a0_0 != a1_0)=true:=bne_iff_ne.mpr c3;obtain rfl:=Option.some.inj H;go_enter Try.func8,Try.ntmps8;go_wp2_with (first|((with_reducible refine gate_dst (N:=2) rfl ?_);refine bx_ 2 #[.int .i64 a0_0,.int .i64 a0_1,.int .i64 a0_2,.int .i64 a0_3,.slice A0_4 l0_4.length c0_4] 28 ?_;intro ae hg dm hbox hb;have aa:=Aside0.mk (hbox);have af:=xG HB hg;have ag:=xG HB hg;replace HB:=xS HB hb;clear hb hbox hg)|((with_reducible refine gate_dst (N:=3) rfl ?_);refine bx_ 3 #[.int .i64 a1_0,.int .i64 a1_1,.int .i64 a1_2,.int .i64 a1_3,.slice A1_4 l1_4.length c1_4] 28 ?_;intro ah hg dn hbox hb;have ac:=Aside0.mk (hbox);have ai:=xG HB hg;have aj:=xG HB hg;replace HB:=xS HB hb;have ab:=xN aa hg;have ad:=xM aa hg;replace aa:=xB aa hb;clear hb hbox hg;obtain ⟨cZ,da⟩:=nn ab;obtain ⟨cu,cv,cw,cx,cy,cz,cA,cB,cC,cD⟩:=cz5 aa;obtain ⟨cE,cF,cG,cH,cI,cJ,cK,cL,cM,cN⟩:=cz5 ac));go_ret;exact ⟨vw,zS HB.out⟩
end Go.Proofs.Ytbfghpbmalpdbaa.MFnExactGenMeet
