import Derived.Test.YtbfghpbmalpdbaaMFnExactGenMeetx0
import Derived.Test.YtbfghpbmalpdbaaMFnExactGenMeetx1
namespace Go.Proofs.Ytbfghpbmalpdbaa.MFnExactGenMeet
open Go.RowKit Go.Proofs.YtbfghpbmalpdbaaW.PrintWords Go.Proofs.YtbfghpbmalpdbaaW.PrintLast Go.Proofs.YtbfghpbmalpdbaaW.PrintMore Go.Proofs.Ytbfghpbmalpdbaa.Short6
attribute [local go_sem] max2_int min2_int max_two min_two max_three min_three max_four min_four
set_option linter.unusedVariables false
set_option linter.unusedSimpArgs false
def spec_l1Bit.f (a0:Int):Option (Int):=if 0≤(Go.bits .and .i64 a0 31) then (some (shl .i64 1 (Go.bits .and .i64 a0 31))) else (none)
set_option maxHeartbeats 8000000 in
set_option maxRecDepth 100000 in
theorem spec_l1Bit.calls (a0:Int) (r:Int) (w:World) (h:spec_l1Bit.f a0=some r) :
    Calls Try.prog 15 #[.int .i64 a0] w fun e w'=>e=.returned (.int .i64 r)∧Drawn0 w w':=by
  have H:(if 0≤(Go.bits .and .i64 a0 31) then (some (shl .i64 1 (Go.bits .and .i64 a0 31))) else (none))=some r:=h;clear h;by_cases c2:0≤(Go.bits .and .i64 a0 31)
  · rw[if_pos c2]at H;have aa:=eq_true c2;have ab:decide (0≤(Go.bits .and .i64 a0 31))=true:=decide_eq_true c2;clear c2;obtain ⟨ji3,hji3⟩:∃ j_:Int,(shl .i64 1 (Go.bits .and .i64 a0 31))=j_:=⟨_,rfl⟩;replace H:(some ji3)=some r:=by first|(rw[hji3]at H;exact H)|(simp only[hji3]at H ⊢;exact H)
    have hji3_:(IntKind.i64.wrap (1 * 2 ^ min (Go.bits .and .i64 a0 31).toNat 64))=ji3:=hji3;have hji3z:(Go.bits .and .i64 a0 31)≤64→(IntKind.i64.wrap (1 * 2 ^ (Go.bits .and .i64 a0 31).toNat))=ji3:=shl_small hji3;have hji3u:(IntKind.i64.wrap (2 ^ min (Go.bits .and .i64 a0 31).toNat 64))=ji3:=by have h_:=hji3_;rw[Int.one_mul]at h_;exact h_
    have hji3v:(Go.bits .and .i64 a0 31)≤64→(IntKind.i64.wrap (2 ^ (Go.bits .and .i64 a0 31).toNat))=ji3:=fun hle_=>by have h_:=hji3z hle_;rw[Int.one_mul]at h_;exact h_
    have hji3y:(wrap64 (1 * 2 ^ min (Go.bits .and .i64 a0 31).toNat 64))=ji3:=(i64_w _).symm.trans hji3_;have hji3x:(Go.bits .and .i64 a0 31)≤64→(wrap64 (1 * 2 ^ (Go.bits .and .i64 a0 31).toNat))=ji3:=fun h_=>(i64_w _).symm.trans (hji3z h_)
    obtain rfl:=Option.some.inj H;go_enter Try.func15,Try.ntmps15;go_wp2;go_ret;exact ⟨by first|rfl|(simp;done)|(simp only[← hji3] <;> (first|rfl|simp))|(simp[*];done),by repeat (first|exact Drawn0.refl _|apply Drawn0.step)⟩
  rw[if_neg c2]at H;exact absurd H (by simp)
def spec_l1Has.f (a0:Int) (a1:Int):Option (Bool):=(spec_l1In.f a1 0 30).bind fun t125=>(if t125=true then ((spec_l1Bit.f a1).bind fun t126=>(some ((Go.bits .and .i64 a0 t126) != 0))) else (some false))
open Go.Proofs.Ytbfghpbmalpdbaa.Short2 in
set_option maxHeartbeats 8000000 in
set_option maxRecDepth 100000 in
theorem spec_l1Has.calls (a0:Int) (a1:Int) (r:Bool) (w:World) (h:spec_l1Has.f a0 a1=some r) :
  Calls Try.prog 14 #[.int .i64 a0,.int .i64 a1] w fun e w'=>e=.returned (.bool r)∧Drawn0 w w':=by
 have H:((spec_l1In.f a1 0 30).bind fun ab=>(if ab=true then ((spec_l1Bit.f a1).bind fun aa=>(some ((Go.bits .and .i64 a0 aa) != 0))) else (some false)))=some r:=h;clear h;replace H:=bI H;obtain ⟨ab,ac,H⟩:=H;replace H:(if ab=true then ((spec_l1Bit.f a1).bind fun aa=>(some ((Go.bits .and .i64 a0 aa) != 0))) else (some false))=some r:=H;have A3:=Aside0.mk ac;clear ac;by_cases c4:ab=true
 ·subst c4;have H1:((spec_l1Bit.f a1).bind fun aa=>(some ((Go.bits .and .i64 a0 aa) != 0)))=some r:=by rw[if_pos rfl]at H;exact H
  clear H;have H:=H1;clear H1;replace H:=bI H;obtain ⟨aa,ad,H⟩:=H;replace H:(some ((Go.bits .and .i64 a0 aa) != 0))=some r:=H;have A5:=Aside0.mk ad;clear ad;obtain rfl:=Option.some.inj H;go_enter Try.func14,Try.ntmps14;go_wp2_with (first|((with_reducible refine gate_callee (f:=26) rfl ?_);refine gl_ (some 6) Try.func26 #[.int .i64 a1,.int .i64 0,.int .i64 30] ?_;(with_reducible refine (spec_l1In.calls a1 0 30 true _ A3.out).mono ?_);rintro e w' ⟨rfl,⟨nd,rfl⟩⟩;refine ⟨_,rfl,?_⟩)|(go_at_call 15;(with_reducible refine (spec_l1Bit.calls a1 aa _ A5.out).mono ?_);rintro e w' ⟨rfl,⟨nd,rfl⟩⟩));go_ret;exact ⟨by first|rfl|(simp;done)|(simp[*];done),by repeat (first|exact Drawn0.refl _|apply Drawn0.step)⟩
 replace c4:=Bool.eq_false_iff.mpr c4;subst c4;have H1:(some false)=some r:=by rw[if_neg (show ¬ (false=true) by decide)]at H;exact H
 clear H;have H:=H1;clear H1;obtain rfl:=Option.some.inj H;go_enter Try.func14,Try.ntmps14;go_wp2_with (first|((with_reducible refine gate_callee (f:=26) rfl ?_);refine gl_ (some 6) Try.func26 #[.int .i64 a1,.int .i64 0,.int .i64 30] ?_;(with_reducible refine (spec_l1In.calls a1 0 30 false _ A3.out).mono ?_);rintro e w' ⟨rfl,⟨nd,rfl⟩⟩;refine ⟨_,rfl,?_⟩));go_ret;exact ⟨by first|rfl|(simp;done)|(simp[*];done),by repeat (first|exact Drawn0.refl _|apply Drawn0.step)⟩
end Go.Proofs.Ytbfghpbmalpdbaa.MFnExactGenMeet
