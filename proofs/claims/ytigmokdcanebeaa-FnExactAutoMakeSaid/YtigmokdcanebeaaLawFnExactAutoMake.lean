-- Written by a program of this session, out of Lean's print of the translation. Not trusted: Lean checks it.
import Derived.Test.YtigmokdcanebeaaRows
import Derived.Test.YtigmokdcanebeaaMFnExactAutoMakex7
import Derived.Test.YtigmokdcanebeaaPureFnExactAutoMake
import Derived.Test.YtigmokdcanebeaaOpen
import Derived.WalkKit
import Derived.ProofKit
import Derived.OpenShut
import Derived.ShutString
import Derived.ChangeOld
import Derived.Below
import Derived.SizedLaws
namespace Go.Proofs.Ytigmokdcanebeaa.fnExactAutoMake
open Go.ChangeShapes Go.WideShapes Go.ChangeAt Go.RowKit Go.Proofs.Ytigmokdcanebeaa.Open Go.Proofs.YtigmokdcanebeaaW.PrintWords Go.Proofs.Ytigmokdcanebeaa.MFnExactAutoMake
open Go.ChangeMaps (open_string shut_string)
set_option linter.unusedVariables false
theorem own : ownKnob Try.prog.godebug = none := by kernel_rfl
theorem laidOut : laidOutB Try.prog = true := by kernel_rfl
theorem opens3 : ∃ ok : List (S57) → Prop, Opens Try.prog 36 (Kd.slice 57 k57) ok ∧ ∀ l, ok l → ∀ x ∈ l, ((Lit.int .i64 x.f0).wf = true ∧ (Lit.int .i64 x.f1).wf = true ∧ (Lit.int .i64 x.f2).wf = true) := ⟨_, (opens_slice Try.underlying36 (by kernel_rfl) (opens_iso (fun x : S57 => (x.f0, x.f1, x.f2, x.f3)) (fun y => ⟨y.1, y.2.1, y.2.2.1, y.2.2.2⟩) (fun _ => rfl) (opens_struct Try.underlying57 (by kernel_rfl) (part_pair (part_field 0 _ rfl rfl (by kernel_rfl) (opens_int Try.underlying3)) (part_pair (part_field 1 _ rfl rfl (by kernel_rfl) (opens_int Try.underlying3)) (part_pair (part_field 2 _ rfl rfl (by kernel_rfl) (opens_int Try.underlying3)) (part_field 3 _ rfl rfl (by kernel_rfl) (opens_bool Try.underlying4)))))))), fun l h => fun x hx => by have h_ := h x hx; first | exact h_ | (simp_all; done) | (simp only at h_; simp_all)⟩
set_option maxRecDepth 100000 in
theorem lifted (os : Os) (started : os.Started) (H : Type) (enc : TypeId × Value → H) :
    ReturnsInHanded {} Try.checked os 4 .any (Rows.fnExactAutoMakeSpec.pre6 enc Try.prog Try.f4 Rows.fnExactAutoMakeRow.domain false) (Rows.fnExactAutoMakeSpec.post enc Try.prog Try.f4 false true false false) := by
  refine returnsInHanded_of_change_sized (C := Try.checked) own started (by kernel_rfl) Try.func4
    (ChangeSpec.witness6 (enc := enc) (C := Try.checked) false ⟨#[], #[.int .i64 0, .int .i64 0, .int .i64 0, .slice none 0 0], []⟩ 8 (by kernel_rfl) (by kernel_rfl) (by kernel_rfl) (by kernel_rfl)) ?_
  intro W base args ds gs before hval0 hW hcnd hsz0 _
  have hval : ∀ (j : Nat) t v, Try.f4.params[j]? = some t → args[j]? = some v → Value.okWide Try.prog W .any base t v := hval0
  have hW' := hW
  obtain ⟨p, q, hA0, hV, rfl, hfz, hnd⟩ := hW
  have hA : DataW.TrodAll enc Try.prog W 0 (fun _ => true) true Try.f4.params.toList args.toList ds p := hA0
  rw [Try.params4] at hA hval
  obtain ⟨v0, vs0, d0, ds0, p0, q0, hargs, rfl, rfl, h0, r0⟩ := trodAll_cons hA
  obtain ⟨v1, vs1, d1, ds1, p1, q1, rfl, rfl, rfl, h1, r1⟩ := trodAll_cons r0
  obtain ⟨v2, vs2, d2, ds2, p2, q2, rfl, rfl, rfl, h2, r2⟩ := trodAll_cons r1
  obtain ⟨v3, vs3, d3, ds3, p3, q3, rfl, rfl, rfl, h3, r3⟩ := trodAll_cons r2
  obtain ⟨rfl, rfl, rfl⟩ := trodAll_nil r3
  obtain rfl : args = #[v0, v1, v2, v3] := by cases args; simp_all
  obtain ⟨rfl, rfl⟩ := trodVars_none hV
  obtain ⟨a0, rfl, rfl, rfl, w0⟩ := open_int Try.underlying3 (hval 0 3 v0 rfl rfl) h0
  obtain ⟨a1, rfl, rfl, rfl, w1⟩ := open_int Try.underlying3 (hval 1 3 v1 rfl rfl) h1
  obtain ⟨a2, rfl, rfl, rfl, w2⟩ := open_int Try.underlying3 (hval 2 3 v2 rfl rfl) h2
  have k3 := h3
  have lt3 : ∀ x ∈ p3, x.block < W.heap.size := by obtain ⟨m, hm⟩ := k3; exact DataW.trod_lt m _ _ _ hm
  obtain ⟨ok3, O3, C3⟩ := opens3
  obtain ⟨l3, hK3, hok3⟩ := open_param O3 h3
  obtain ⟨A3, c3, rfl, hc3, hr3⟩ := slice_K (okWide_slice Try.underlying36 (hval 3 36 v3 rfl rfl)) hK3
  have w3 := C3 l3 hok3
  clear hA0 hval0 hsz0
  obtain ⟨k_, hP⟩ := Pure.FnExactAutoMake a0 a1 a2 l3 w0 w1 w2 hr3.2.1 w3
  refine (MFnExactAutoMake.laws_FnExactAutoMake.calls k_ a0 a1 a2 A3 c3 l3 true W hr3 hc3 hP).mono fun e W' ⟨he, bel0⟩ => ?_
  have bel : Below W.heap.size W W' := bel0
  subst he
  exact ⟨_, rfl, _, _, _, [], _, [], hW', trodAll_mk1 (shut_bool Try.underlying4 _), (trodAll_cons_mk (shut_int Try.underlying3 w0) (trodAll_cons_mk (shut_int Try.underlying3 w1) (trodAll_cons_mk (shut_int Try.underlying3 w2) (trodAll_cons_mk (Below.trod laidOut (by kernel_rfl) (of_decide_eq_true (by kernel_rfl)) k3 bel lt3) trodAll_mk0)))), rfl, bel.frame _, fun h => by cases h⟩
theorem over : Rows.fnExactAutoMakeRow.holds Try.pinned (OpenSpec.ofChange Rows.fnExactAutoMakeSpec) :=
  OpenClaim.holds_of_wide 4 Try.f4 rfl rfl rfl rfl rfl rfl rfl ⟨rfl, rfl, rfl, rfl, rfl⟩ rfl rfl rfl rfl rfl (by kernel_rfl) Try.func4 (by kernel_rfl)
    (of_decide_eq_true (by kernel_rfl)) (by unfold Func.isWrapper; first | (rw [if_pos (by decide +kernel)]; kernel_rfl) | (rw [if_neg (by decide +kernel)]; exact ⟨rfl, rfl⟩))
    (fun os started H enc _ => lifted os started H enc)
theorem proved : Rows.FnExactAutoMakeSaid := over
#print axioms proved
end Go.Proofs.Ytigmokdcanebeaa.fnExactAutoMake
namespace Go.Proofs.Ytigmokdcanebeaa
/-- The row, under a short name, for the claim. -/
theorem fnExactAutoMake_holds : Rows.FnExactAutoMakeSaid := fnExactAutoMake.proved
end Go.Proofs.Ytigmokdcanebeaa
