-- Written by a program of this session, out of Lean's print of the translation. Not trusted: Lean checks it.
import Derived.Test.YtlallflpicgcmaaRows
import Derived.Test.YtlallflpicgcmaaMFnExactAutoTrimx8
import Derived.Test.YtlallflpicgcmaaPureFnExactAutoTrim
import Derived.Test.YtlallflpicgcmaaOpen
import Derived.WalkKit
import Derived.ProofKit
import Derived.OpenShut
import Derived.ShutString
import Derived.ChangeOld
import Derived.Below
import Derived.SizedLaws
namespace Go.Proofs.Ytlallflpicgcmaa.fnExactAutoTrim
open Go.ChangeShapes Go.WideShapes Go.ChangeAt Go.RowKit Go.Proofs.Ytlallflpicgcmaa.Open Go.Proofs.YtlallflpicgcmaaW.PrintWords Go.Proofs.Ytlallflpicgcmaa.MFnExactAutoTrim
open Go.ChangeMaps (open_string shut_string)
set_option linter.unusedVariables false
theorem own : ownKnob Try.prog.godebug = none := by kernel_rfl
theorem laidOut : laidOutB Try.prog = true := by kernel_rfl
theorem opens0 : ∃ ok : _ → Prop, Opens Try.prog 31 (Kd.pair (Kd.int .i64) (Kd.pair (Kd.int .i64) (Kd.pair (Kd.int .i64) (Kd.slice 115 k115)))) ok ∧ ∀ y, ok y → (Lit.int .i64 y.1).wf = true ∧ (Lit.int .i64 y.2.1).wf = true ∧ (Lit.int .i64 y.2.2.1).wf = true ∧ (∀ x ∈ y.2.2.2, ((Lit.int .i64 x.f0).wf = true ∧ (Lit.int .i64 x.f1).wf = true ∧ (Lit.int .i64 x.f2).wf = true)) := ⟨_, (opens_struct Try.underlying31 (by kernel_rfl) (part_pair (part_field 0 _ rfl rfl (by kernel_rfl) (opens_int Try.underlying3)) (part_pair (part_field 1 _ rfl rfl (by kernel_rfl) (opens_int Try.underlying3)) (part_pair (part_field 2 _ rfl rfl (by kernel_rfl) (opens_int Try.underlying3)) (part_field 3 _ rfl rfl (by kernel_rfl) (opens_slice Try.underlying29 (by kernel_rfl) (opens_iso (fun x : S115 => (x.f0, x.f1, x.f2, x.f3)) (fun y => ⟨y.1, y.2.1, y.2.2.1, y.2.2.2⟩) (fun _ => rfl) (opens_struct Try.underlying115 (by kernel_rfl) (part_pair (part_field 0 _ rfl rfl (by kernel_rfl) (opens_int Try.underlying3)) (part_pair (part_field 1 _ rfl rfl (by kernel_rfl) (opens_int Try.underlying3)) (part_pair (part_field 2 _ rfl rfl (by kernel_rfl) (opens_int Try.underlying3)) (part_field 3 _ rfl rfl (by kernel_rfl) (opens_bool Try.underlying4))))))))))))), fun y h => by first | exact h | (simp_all; done) | (have h_ := h; simp only at h_; simp_all)⟩
set_option maxRecDepth 100000 in
theorem lifted (os : Os) (started : os.Started) (H : Type) (enc : TypeId × Value → H) :
    ReturnsInHanded {} Try.checked os 12 .any (Rows.fnExactAutoTrimSpec.pre6 enc Try.prog Try.f12 Rows.fnExactAutoTrimRow.domain false) (Rows.fnExactAutoTrimSpec.post enc Try.prog Try.f12 false true false false) := by
  refine returnsInHanded_of_change_sized (C := Try.checked) own started (by kernel_rfl) Try.func12
    (ChangeSpec.witness6 (enc := enc) (C := Try.checked) false ⟨#[], #[.agg #[.int .i64 0, .int .i64 0, .int .i64 0, .slice none 0 0]], []⟩ 8 (by kernel_rfl) (by kernel_rfl) (by kernel_rfl) (by kernel_rfl)) ?_
  intro W base args ds gs before hval0 hW hcnd hsz0 _
  have hval : ∀ (j : Nat) t v, Try.f12.params[j]? = some t → args[j]? = some v → Value.okWide Try.prog W .any base t v := hval0
  have hW' := hW
  obtain ⟨p, q, hA0, hV, rfl, hfz, hnd⟩ := hW
  have hA : DataW.TrodAll enc Try.prog W 0 (fun _ => true) true Try.f12.params.toList args.toList ds p := hA0
  rw [Try.params12] at hA hval
  obtain ⟨v0, vs0, d0, ds0, p0, q0, hargs, rfl, rfl, h0, r0⟩ := trodAll_cons hA
  obtain ⟨rfl, rfl, rfl⟩ := trodAll_nil r0
  obtain rfl : args = #[v0] := by cases args; simp_all
  obtain ⟨rfl, rfl⟩ := trodVars_none hV
  have k0 := h0
  have lt0 : ∀ x ∈ p0, x.block < W.heap.size := by obtain ⟨m, hm⟩ := k0; exact DataW.trod_lt m _ _ _ hm
  obtain ⟨ok0, O0, C0⟩ := opens0
  obtain ⟨⟨y0_0, ⟨y0_1, ⟨y0_2, y0_3⟩⟩⟩, hK0, hok0⟩ := open_param O0 h0
  obtain ⟨cs0, rfl, _⟩ := okWide_struct Try.underlying31 (hval 0 31 v0 rfl rfl)
  obtain ⟨_, _, e0_0, rfl, ⟨_, _, e0_1, rfl, ⟨_, _, e0_2, rfl, ⟨A0_3, c0_3, rfl, hc0_3, hr0_3⟩⟩⟩⟩ := hK0
  obtain rfl : cs0 = #[.int .i64 y0_0, .int .i64 y0_1, .int .i64 y0_2, .slice A0_3 y0_3.length c0_3] := Array.toList_inj.1 (by subst e0_2; subst e0_1; simpa [Value.cells] using e0_0)
  obtain ⟨w0_0, w0_1, w0_2, w0_3⟩ := C0 _ hok0
  clear hA0 hval0 hsz0
  obtain ⟨k_, hP⟩ := Pure.FnExactAutoTrim y0_0 y0_1 y0_2 y0_3 w0_0 w0_1 w0_2 hr0_3.2.1 w0_3
  refine (MFnExactAutoTrim.laws_FnExactAutoTrim.calls k_ y0_0 y0_1 y0_2 A0_3 c0_3 y0_3 true W hr0_3 hc0_3 hP).mono fun e W' ⟨he, bel0⟩ => ?_
  have bel : Below W.heap.size W W' := bel0
  subst he
  exact ⟨_, rfl, _, _, _, [], _, [], hW', trodAll_mk1 (shut_bool Try.underlying4 _), (trodAll_cons_mk (Below.trod laidOut (by kernel_rfl) (of_decide_eq_true (by kernel_rfl)) k0 bel lt0) trodAll_mk0), rfl, bel.frame _, fun h => by cases h⟩
theorem over : Rows.fnExactAutoTrimRow.holds Try.pinned (OpenSpec.ofChange Rows.fnExactAutoTrimSpec) :=
  OpenClaim.holds_of_wide 12 Try.f12 rfl rfl rfl rfl rfl rfl rfl ⟨rfl, rfl, rfl, rfl, rfl⟩ rfl rfl rfl rfl rfl (by kernel_rfl) Try.func12 (by kernel_rfl)
    (of_decide_eq_true (by kernel_rfl)) (by unfold Func.isWrapper; first | (rw [if_pos (by decide +kernel)]; kernel_rfl) | (rw [if_neg (by decide +kernel)]; exact ⟨rfl, rfl⟩))
    (fun os started H enc _ => lifted os started H enc)
theorem proved : Rows.FnExactAutoTrimSaid := over
#print axioms proved
end Go.Proofs.Ytlallflpicgcmaa.fnExactAutoTrim
namespace Go.Proofs.Ytlallflpicgcmaa
/-- The row, under a short name, for the claim. -/
theorem fnExactAutoTrim_holds : Rows.FnExactAutoTrimSaid := fnExactAutoTrim.proved
end Go.Proofs.Ytlallflpicgcmaa
