/- FnExactAutoMeet: the program returns what the reference returns, for all arguments; no condition is put. -/
import Derived.Test.YtkpeajafgldpbaaGreatRows
import Derived.Test.YtkpeajafgldpbaaGreatMFnExactAutoMeetx19
import Derived.Test.YtkpeajafgldpbaaGreatPureFnExactAutoMeet
import Derived.Test.YtkpeajafgldpbaaGreatOpen
import Derived.WalkKit
import Derived.ProofKit
import Derived.OpenShut
import Derived.ShutString
import Derived.ChangeOld
import Derived.Below
import Derived.SizedLaws
namespace Go.Proofs.YtkpeajafgldpbaaGreat.fnExactAutoMeet
open Go.ChangeShapes Go.WideShapes Go.ChangeAt Go.RowKit Go.Proofs.YtkpeajafgldpbaaGreat.Open Go.Proofs.YtkpeajafgldpbaaGreatW.PrintWords Go.Proofs.YtkpeajafgldpbaaGreat.MFnExactAutoMeet
open Go.ChangeMaps (open_string shut_string)
set_option linter.unusedVariables false
theorem own:ownKnob Tryz.prog.godebug=none:=by kernel_rfl
theorem laidOut:laidOutB Tryz.prog=true:=by kernel_rfl
theorem opens0:∃ ok:_→Prop,Opens Tryz.prog 24 (Kd.pair (Kd.int .i64) (Kd.pair (Kd.int .i64) (Kd.pair (Kd.int .i64) (Kd.slice 63 k63)))) ok∧∀ y,ok y→(Lit.int .i64 y.1).wf=true∧(Lit.int .i64 y.2.1).wf=true∧(Lit.int .i64 y.2.2.1).wf=true∧(∀ x∈y.2.2.2,((Lit.int .i64 x.f0).wf=true∧(Lit.int .i64 x.f1).wf=true∧(Lit.int .i64 x.f2).wf=true)):=⟨_,(opens_struct Tryz.underlying24 (by kernel_rfl) (part_pair (part_field 0 _ rfl rfl (by kernel_rfl) (opens_int Tryz.underlying3)) (part_pair (part_field 1 _ rfl rfl (by kernel_rfl) (opens_int Tryz.underlying3)) (part_pair (part_field 2 _ rfl rfl (by kernel_rfl) (opens_int Tryz.underlying3)) (part_field 3 _ rfl rfl (by kernel_rfl) (opens_slice Tryz.underlying22 (by kernel_rfl) (opens_iso (fun x:S63=>(x.f0,x.f1,x.f2,x.f3)) (fun y=>⟨y.1,y.2.1,y.2.2.1,y.2.2.2⟩) (fun _=>rfl) (opens_struct Tryz.underlying63 (by kernel_rfl) (part_pair (part_field 0 _ rfl rfl (by kernel_rfl) (opens_int Tryz.underlying3)) (part_pair (part_field 1 _ rfl rfl (by kernel_rfl) (opens_int Tryz.underlying3)) (part_pair (part_field 2 _ rfl rfl (by kernel_rfl) (opens_int Tryz.underlying3)) (part_field 3 _ rfl rfl (by kernel_rfl) (opens_bool Tryz.underlying4))))))))))))),fun y h=>by first|exact h|(simp_all;done)|(have h_:=h;simp only at h_;simp_all)⟩
theorem opens1:∃ ok:_→Prop,Opens Tryz.prog 24 (Kd.pair (Kd.int .i64) (Kd.pair (Kd.int .i64) (Kd.pair (Kd.int .i64) (Kd.slice 63 k63)))) ok∧∀ y,ok y→(Lit.int .i64 y.1).wf=true∧(Lit.int .i64 y.2.1).wf=true∧(Lit.int .i64 y.2.2.1).wf=true∧(∀ x∈y.2.2.2,((Lit.int .i64 x.f0).wf=true∧(Lit.int .i64 x.f1).wf=true∧(Lit.int .i64 x.f2).wf=true)):=⟨_,(opens_struct Tryz.underlying24 (by kernel_rfl) (part_pair (part_field 0 _ rfl rfl (by kernel_rfl) (opens_int Tryz.underlying3)) (part_pair (part_field 1 _ rfl rfl (by kernel_rfl) (opens_int Tryz.underlying3)) (part_pair (part_field 2 _ rfl rfl (by kernel_rfl) (opens_int Tryz.underlying3)) (part_field 3 _ rfl rfl (by kernel_rfl) (opens_slice Tryz.underlying22 (by kernel_rfl) (opens_iso (fun x:S63=>(x.f0,x.f1,x.f2,x.f3)) (fun y=>⟨y.1,y.2.1,y.2.2.1,y.2.2.2⟩) (fun _=>rfl) (opens_struct Tryz.underlying63 (by kernel_rfl) (part_pair (part_field 0 _ rfl rfl (by kernel_rfl) (opens_int Tryz.underlying3)) (part_pair (part_field 1 _ rfl rfl (by kernel_rfl) (opens_int Tryz.underlying3)) (part_pair (part_field 2 _ rfl rfl (by kernel_rfl) (opens_int Tryz.underlying3)) (part_field 3 _ rfl rfl (by kernel_rfl) (opens_bool Tryz.underlying4))))))))))))),fun y h=>by first|exact h|(simp_all;done)|(have h_:=h;simp only at h_;simp_all)⟩
set_option maxRecDepth 100000 in
theorem lifted (os:Os) (started:os.Started) (H:Type) (enc:TypeId × Value→H) :
    ReturnsInHanded {} Tryz.checked os 3 .any (Rows.fnExactAutoMeetSpec.pre6 enc Tryz.prog Tryz.f3 Rows.fnExactAutoMeetRow.domain false) (Rows.fnExactAutoMeetSpec.post enc Tryz.prog Tryz.f3 false true false false):=by
  refine returnsInHanded_of_change_sized (C:=Tryz.checked) own started (by kernel_rfl) Tryz.func3
    (ChangeSpec.witness6 (enc:=enc) (C:=Tryz.checked) false ⟨#[],#[.agg #[.int .i64 0,.int .i64 0,.int .i64 0,.slice none 0 0],.agg #[.int .i64 0,.int .i64 0,.int .i64 0,.slice none 0 0]],[]⟩ 8 (by kernel_rfl) (by kernel_rfl) (by kernel_rfl) (by kernel_rfl)) ?_
  intro W base args ds gs before hval0 hW hcnd hsz0 _
  have hval:∀ (j:Nat) t v,Tryz.f3.params[j]?=some t→args[j]?=some v→Value.okWide Tryz.prog W .any base t v:=hval0
  have hW':=hW
  obtain ⟨p,q,hA0,hV,rfl,hfz,hnd⟩:=hW
  have hA:DataW.TrodAll enc Tryz.prog W 0 (fun _=>true) true Tryz.f3.params.toList args.toList ds p:=hA0
  rw[Tryz.params3]at hA hval
  obtain ⟨v0,vs0,d0,ds0,p0,q0,hargs,rfl,rfl,h0,r0⟩:=trodAll_cons hA
  obtain ⟨v1,vs1,d1,ds1,p1,q1,rfl,rfl,rfl,h1,r1⟩:=trodAll_cons r0
  obtain ⟨rfl,rfl,rfl⟩:=trodAll_nil r1
  obtain rfl:args=#[v0,v1]:=by cases args;simp_all
  obtain ⟨rfl,rfl⟩:=trodVars_none hV
  have k0:=h0
  have lt0:∀ x∈p0,x.block<W.heap.size:=by obtain ⟨m,hm⟩:=k0;exact DataW.trod_lt m _ _ _ hm
  obtain ⟨ok0,O0,C0⟩:=opens0
  obtain ⟨⟨y0_0,⟨y0_1,⟨y0_2,y0_3⟩⟩⟩,hK0,hok0⟩:=open_param O0 h0
  obtain ⟨cs0,rfl,_⟩:=okWide_struct Tryz.underlying24 (hval 0 24 v0 rfl rfl)
  obtain ⟨_,_,e0_0,rfl,⟨_,_,e0_1,rfl,⟨_,_,e0_2,rfl,⟨A0_3,c0_3,rfl,hc0_3,hr0_3⟩⟩⟩⟩:=hK0
  obtain rfl:cs0=#[.int .i64 y0_0,.int .i64 y0_1,.int .i64 y0_2,.slice A0_3 y0_3.length c0_3]:=Array.toList_inj.1 (by subst e0_2;subst e0_1;simpa [Value.cells] using e0_0)
  obtain ⟨w0_0,w0_1,w0_2,w0_3⟩:=C0 _ hok0
  have k1:=h1
  have lt1:∀ x∈p1,x.block<W.heap.size:=by obtain ⟨m,hm⟩:=k1;exact DataW.trod_lt m _ _ _ hm
  obtain ⟨ok1,O1,C1⟩:=opens1
  obtain ⟨⟨y1_0,⟨y1_1,⟨y1_2,y1_3⟩⟩⟩,hK1,hok1⟩:=open_param O1 h1
  obtain ⟨cs1,rfl,_⟩:=okWide_struct Tryz.underlying24 (hval 1 24 v1 rfl rfl)
  obtain ⟨_,_,e1_0,rfl,⟨_,_,e1_1,rfl,⟨_,_,e1_2,rfl,⟨A1_3,c1_3,rfl,hc1_3,hr1_3⟩⟩⟩⟩:=hK1
  obtain rfl:cs1=#[.int .i64 y1_0,.int .i64 y1_1,.int .i64 y1_2,.slice A1_3 y1_3.length c1_3]:=Array.toList_inj.1 (by subst e1_2;subst e1_1;simpa [Value.cells] using e1_0)
  obtain ⟨w1_0,w1_1,w1_2,w1_3⟩:=C1 _ hok1
  clear hA0 hval0 hsz0
  obtain ⟨k_,hP⟩:=Pure.FnExactAutoMeet y0_0 y0_1 y0_2 y0_3 y1_0 y1_1 y1_2 y1_3 w0_0 w0_1 w0_2 hr0_3.2.1 w0_3 w1_0 w1_1 w1_2 hr1_3.2.1 w1_3
  refine (MFnExactAutoMeet.laws_FnExactAutoMeet.calls k_ y0_0 y0_1 y0_2 A0_3 c0_3 y0_3 y1_0 y1_1 y1_2 A1_3 c1_3 y1_3 true W hr0_3 hc0_3 hr1_3 hc1_3 hP).mono fun e W' ⟨he,bel0⟩=>?_
  have bel:Below W.heap.size W W':=bel0
  subst he
  exact ⟨_,rfl,_,_,_,[],_,[],hW',trodAll_mk1 (shut_bool Tryz.underlying4 _),(trodAll_cons_mk (Below.trod laidOut (by kernel_rfl) (of_decide_eq_true (by kernel_rfl)) k0 bel lt0) (trodAll_cons_mk (Below.trod laidOut (by kernel_rfl) (of_decide_eq_true (by kernel_rfl)) k1 bel lt1) trodAll_mk0)),rfl,bel.frame _,fun h=>by cases h⟩
theorem over:Rows.fnExactAutoMeetRow.holds Tryz.pinned (OpenSpec.ofChange Rows.fnExactAutoMeetSpec):=
  OpenClaim.holds_of_wide 3 Tryz.f3 rfl rfl rfl rfl rfl rfl rfl ⟨rfl,rfl,rfl,rfl,rfl⟩ rfl rfl rfl rfl rfl (by kernel_rfl) Tryz.func3 (by kernel_rfl)
    (of_decide_eq_true (by kernel_rfl)) (by unfold Func.isWrapper;first|(rw[if_pos (by decide +kernel)];kernel_rfl)|(rw[if_neg (by decide +kernel)];exact ⟨rfl,rfl⟩))
    (fun os started H enc _=>lifted os started H enc)
theorem proved:Rows.FnExactAutoMeetSaid:=over
#print axioms proved
end Go.Proofs.YtkpeajafgldpbaaGreat.fnExactAutoMeet
namespace Go.Proofs.YtkpeajafgldpbaaGreat
theorem fnExactAutoMeet_holds:Rows.FnExactAutoMeetSaid:=fnExactAutoMeet.proved
end Go.Proofs.YtkpeajafgldpbaaGreat
