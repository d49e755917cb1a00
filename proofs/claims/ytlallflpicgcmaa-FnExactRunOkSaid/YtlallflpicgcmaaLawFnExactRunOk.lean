-- Written by a program of this session, out of Lean's print of the translation. Not trusted: Lean checks it.
import Derived.Test.YtlallflpicgcmaaRows
import Derived.Test.YtlallflpicgcmaaMFnExactRunOkx10
import Derived.Test.YtlallflpicgcmaaPureFnExactRunOk
import Derived.Test.YtlallflpicgcmaaOpen
import Derived.WalkKit
import Derived.ProofKit
import Derived.OpenShut
import Derived.ShutString
import Derived.ChangeOld
import Derived.Below
import Derived.SizedLaws
namespace Go.Proofs.Ytlallflpicgcmaa.fnExactRunOk
open Go.ChangeShapes Go.WideShapes Go.ChangeAt Go.RowKit Go.Proofs.Ytlallflpicgcmaa.Open Go.Proofs.YtlallflpicgcmaaW.PrintWords Go.Proofs.Ytlallflpicgcmaa.MFnExactRunOk
open Go.ChangeMaps (open_string shut_string)
set_option linter.unusedVariables false
theorem own : ownKnob Try.prog.godebug = none := by kernel_rfl
theorem laidOut : laidOutB Try.prog = true := by kernel_rfl
theorem opens0 : ∃ ok : _ → Prop, Opens Try.prog 31 (Kd.pair (Kd.int .i64) (Kd.pair (Kd.int .i64) (Kd.pair (Kd.int .i64) (Kd.slice 115 k115)))) ok ∧ ∀ y, ok y → (Lit.int .i64 y.1).wf = true ∧ (Lit.int .i64 y.2.1).wf = true ∧ (Lit.int .i64 y.2.2.1).wf = true ∧ (∀ x ∈ y.2.2.2, ((Lit.int .i64 x.f0).wf = true ∧ (Lit.int .i64 x.f1).wf = true ∧ (Lit.int .i64 x.f2).wf = true)) := ⟨_, (opens_struct Try.underlying31 (by kernel_rfl) (part_pair (part_field 0 _ rfl rfl (by kernel_rfl) (opens_int Try.underlying3)) (part_pair (part_field 1 _ rfl rfl (by kernel_rfl) (opens_int Try.underlying3)) (part_pair (part_field 2 _ rfl rfl (by kernel_rfl) (opens_int Try.underlying3)) (part_field 3 _ rfl rfl (by kernel_rfl) (opens_slice Try.underlying29 (by kernel_rfl) (opens_iso (fun x : S115 => (x.f0, x.f1, x.f2, x.f3)) (fun y => ⟨y.1, y.2.1, y.2.2.1, y.2.2.2⟩) (fun _ => rfl) (opens_struct Try.underlying115 (by kernel_rfl) (part_pair (part_field 0 _ rfl rfl (by kernel_rfl) (opens_int Try.underlying3)) (part_pair (part_field 1 _ rfl rfl (by kernel_rfl) (opens_int Try.underlying3)) (part_pair (part_field 2 _ rfl rfl (by kernel_rfl) (opens_int Try.underlying3)) (part_field 3 _ rfl rfl (by kernel_rfl) (opens_bool Try.underlying4))))))))))))), fun y h => by first | exact h | (simp_all; done) | (have h_ := h; simp only at h_; simp_all)⟩
theorem opens1 : ∃ ok : _ → Prop, Opens Try.prog 72 (Kd.pair (Kd.slice 3 (Kd.int .i64)) (Kd.slice 3 (Kd.int .i64))) ok ∧ ∀ y, ok y → (∀ x ∈ y.1, (Lit.int .i64 x).wf = true) ∧ (∀ x ∈ y.2, (Lit.int .i64 x).wf = true) := ⟨_, (opens_struct Try.underlying72 (by kernel_rfl) (part_pair (part_field 0 _ rfl rfl (by kernel_rfl) (opens_slice Try.underlying63 (by kernel_rfl) (opens_int Try.underlying3))) (part_field 1 _ rfl rfl (by kernel_rfl) (opens_slice Try.underlying63 (by kernel_rfl) (opens_int Try.underlying3))))), fun y h => by first | exact h | (simp_all; done) | (have h_ := h; simp only at h_; simp_all)⟩
theorem opens2 : ∃ ok : _ → Prop, Opens Try.prog 74 (Kd.pair (Kd.slice 3 (Kd.int .i64)) (Kd.int .i64)) ok ∧ ∀ y, ok y → (∀ x ∈ y.1, (Lit.int .i64 x).wf = true) ∧ (Lit.int .i64 y.2).wf = true := ⟨_, (opens_struct Try.underlying74 (by kernel_rfl) (part_pair (part_field 0 _ rfl rfl (by kernel_rfl) (opens_slice Try.underlying63 (by kernel_rfl) (opens_int Try.underlying3))) (part_field 1 _ rfl rfl (by kernel_rfl) (opens_int Try.underlying3)))), fun y h => by first | exact h | (simp_all; done) | (have h_ := h; simp only at h_; simp_all)⟩
set_option maxRecDepth 100000 in
theorem lifted (os : Os) (started : os.Started) (H : Type) (enc : TypeId × Value → H) :
    ReturnsInHanded {} Try.checked os 13 .any (Rows.fnExactRunOkSpec.pre6 enc Try.prog Try.f13 Rows.fnExactRunOkRow.domain false) (Rows.fnExactRunOkSpec.post enc Try.prog Try.f13 false true false false) := by
  refine returnsInHanded_of_change_sized (C := Try.checked) own started (by kernel_rfl) Try.func13
    (ChangeSpec.witness6 (enc := enc) (C := Try.checked) false ⟨#[], #[.agg #[.int .i64 0, .int .i64 0, .int .i64 0, .slice none 0 0], .agg #[.slice none 0 0, .slice none 0 0], .agg #[.slice none 0 0, .int .i64 0]], []⟩ 8 (by kernel_rfl) (by kernel_rfl) (by kernel_rfl) (by kernel_rfl)) ?_
  intro W base args ds gs before hval0 hW hcnd hsz0 _
  have hval : ∀ (j : Nat) t v, Try.f13.params[j]? = some t → args[j]? = some v → Value.okWide Try.prog W .any base t v := hval0
  have hW' := hW
  obtain ⟨p, q, hA0, hV, rfl, hfz, hnd⟩ := hW
  have hA : DataW.TrodAll enc Try.prog W 0 (fun _ => true) true Try.f13.params.toList args.toList ds p := hA0
  rw [Try.params13] at hA hval
  obtain ⟨v0, vs0, d0, ds0, p0, q0, hargs, rfl, rfl, h0, r0⟩ := trodAll_cons hA
  obtain ⟨v1, vs1, d1, ds1, p1, q1, rfl, rfl, rfl, h1, r1⟩ := trodAll_cons r0
  obtain ⟨v2, vs2, d2, ds2, p2, q2, rfl, rfl, rfl, h2, r2⟩ := trodAll_cons r1
  obtain ⟨rfl, rfl, rfl⟩ := trodAll_nil r2
  obtain rfl : args = #[v0, v1, v2] := by cases args; simp_all
  obtain ⟨rfl, rfl⟩ := trodVars_none hV
  have k0 := h0
  have lt0 : ∀ x ∈ p0, x.block < W.heap.size := by obtain ⟨m, hm⟩ := k0; exact DataW.trod_lt m _ _ _ hm
  obtain ⟨ok0, O0, C0⟩ := opens0
  obtain ⟨⟨y0_0, ⟨y0_1, ⟨y0_2, y0_3⟩⟩⟩, hK0, hok0⟩ := open_param O0 h0
  obtain ⟨cs0, rfl, _⟩ := okWide_struct Try.underlying31 (hval 0 31 v0 rfl rfl)
  obtain ⟨_, _, e0_0, rfl, ⟨_, _, e0_1, rfl, ⟨_, _, e0_2, rfl, ⟨A0_3, c0_3, rfl, hc0_3, hr0_3⟩⟩⟩⟩ := hK0
  obtain rfl : cs0 = #[.int .i64 y0_0, .int .i64 y0_1, .int .i64 y0_2, .slice A0_3 y0_3.length c0_3] := Array.toList_inj.1 (by subst e0_2; subst e0_1; simpa [Value.cells] using e0_0)
  obtain ⟨w0_0, w0_1, w0_2, w0_3⟩ := C0 _ hok0
  have k1 := h1
  have lt1 : ∀ x ∈ p1, x.block < W.heap.size := by obtain ⟨m, hm⟩ := k1; exact DataW.trod_lt m _ _ _ hm
  obtain ⟨ok1, O1, C1⟩ := opens1
  obtain ⟨⟨y1_0, y1_1⟩, hK1, hok1⟩ := open_param O1 h1
  obtain ⟨cs1, rfl, _⟩ := okWide_struct Try.underlying72 (hval 1 72 v1 rfl rfl)
  obtain ⟨_, _, e1_0, ⟨A1_0, c1_0, rfl, hc1_0, hr1_0⟩, ⟨A1_1, c1_1, rfl, hc1_1, hr1_1⟩⟩ := hK1
  obtain rfl : cs1 = #[.slice A1_0 y1_0.length c1_0, .slice A1_1 y1_1.length c1_1] := Array.toList_inj.1 (by simpa [Value.cells] using e1_0)
  obtain ⟨w1_0, w1_1⟩ := C1 _ hok1
  have k2 := h2
  have lt2 : ∀ x ∈ p2, x.block < W.heap.size := by obtain ⟨m, hm⟩ := k2; exact DataW.trod_lt m _ _ _ hm
  obtain ⟨ok2, O2, C2⟩ := opens2
  obtain ⟨⟨y2_0, y2_1⟩, hK2, hok2⟩ := open_param O2 h2
  obtain ⟨cs2, rfl, _⟩ := okWide_struct Try.underlying74 (hval 2 74 v2 rfl rfl)
  obtain ⟨_, _, e2_0, ⟨A2_0, c2_0, rfl, hc2_0, hr2_0⟩, rfl⟩ := hK2
  obtain rfl : cs2 = #[.slice A2_0 y2_0.length c2_0, .int .i64 y2_1] := Array.toList_inj.1 (by simpa [Value.cells] using e2_0)
  obtain ⟨w2_0, w2_1⟩ := C2 _ hok2
  clear hA0 hval0 hsz0
  obtain ⟨k_, hP⟩ := Pure.FnExactRunOk y0_0 y0_1 y0_2 y0_3 y1_0 y1_1 y2_0 y2_1 w0_0 w0_1 w0_2 hr0_3.2.1 w0_3 hr1_0.2.1 w1_0 hr1_1.2.1 w1_1 hr2_0.2.1 w2_0 w2_1
  refine (MFnExactRunOk.laws_FnExactRunOk.calls k_ y0_0 y0_1 y0_2 A0_3 c0_3 y0_3 A1_0 c1_0 y1_0 A1_1 c1_1 y1_1 A2_0 c2_0 y2_0 y2_1 true W hr0_3 hc0_3 hr1_0 hc1_0 hr1_1 hc1_1 hr2_0 hc2_0 hP).mono fun e W' ⟨he, bel0⟩ => ?_
  have bel : Below W.heap.size W W' := bel0
  subst he
  exact ⟨_, rfl, _, _, _, [], _, [], hW', trodAll_mk1 (shut_bool Try.underlying4 _), (trodAll_cons_mk (Below.trod laidOut (by kernel_rfl) (of_decide_eq_true (by kernel_rfl)) k0 bel lt0) (trodAll_cons_mk (Below.trod laidOut (by kernel_rfl) (of_decide_eq_true (by kernel_rfl)) k1 bel lt1) (trodAll_cons_mk (Below.trod laidOut (by kernel_rfl) (of_decide_eq_true (by kernel_rfl)) k2 bel lt2) trodAll_mk0))), rfl, bel.frame _, fun h => by cases h⟩
theorem over : Rows.fnExactRunOkRow.holds Try.pinned (OpenSpec.ofChange Rows.fnExactRunOkSpec) :=
  OpenClaim.holds_of_wide 13 Try.f13 rfl rfl rfl rfl rfl rfl rfl ⟨rfl, rfl, rfl, rfl, rfl⟩ rfl rfl rfl rfl rfl (by kernel_rfl) Try.func13 (by kernel_rfl)
    (of_decide_eq_true (by kernel_rfl)) (by unfold Func.isWrapper; first | (rw [if_pos (by decide +kernel)]; kernel_rfl) | (rw [if_neg (by decide +kernel)]; exact ⟨rfl, rfl⟩))
    (fun os started H enc _ => lifted os started H enc)
theorem proved : Rows.FnExactRunOkSaid := over
#print axioms proved
end Go.Proofs.Ytlallflpicgcmaa.fnExactRunOk
namespace Go.Proofs.Ytlallflpicgcmaa
/-- The row, under a short name, for the claim. -/
theorem fnExactRunOk_holds : Rows.FnExactRunOkSaid := fnExactRunOk.proved
end Go.Proofs.Ytlallflpicgcmaa
