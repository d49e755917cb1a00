-- Written by a program of this session, out of Lean's print of the translation. Not trusted: Lean checks it.
import Derived.Test.YthkljpbddddhdaaRows
import Derived.Test.YthkljpbddddhdaaMFnExactWordPowerx4
import Derived.Test.YthkljpbddddhdaaPureFnExactWordPower
import Derived.Test.YthkljpbddddhdaaOpen
import Derived.WalkKit
import Derived.ProofKit
import Derived.OpenShut
import Derived.ShutString
import Derived.ChangeOld
import Derived.Below
import Derived.SizedLaws
namespace Go.Proofs.Ythkljpbddddhdaa.fnExactWordPower
open Go.ChangeShapes Go.WideShapes Go.ChangeAt Go.RowKit Go.Proofs.Ythkljpbddddhdaa.Open Go.Proofs.YthkljpbddddhdaaW.PrintWords Go.Proofs.Ythkljpbddddhdaa.MFnExactWordPower
open Go.ChangeMaps (open_string shut_string)
set_option linter.unusedVariables false
theorem own : ownKnob Try.prog.godebug = none := by kernel_rfl
theorem laidOut : laidOutB Try.prog = true := by kernel_rfl
theorem opens0 : ∃ ok : _ → Prop, Opens Try.prog 24 (Kd.pair (Kd.slice 3 (Kd.int .i64)) (Kd.slice 3 (Kd.int .i64))) ok ∧ ∀ y, ok y → (∀ x ∈ y.1, (Lit.int .i64 x).wf = true) ∧ (∀ x ∈ y.2, (Lit.int .i64 x).wf = true) := ⟨_, (opens_struct Try.underlying24 (by kernel_rfl) (part_pair (part_field 0 _ rfl rfl (by kernel_rfl) (opens_slice Try.underlying22 (by kernel_rfl) (opens_int Try.underlying3))) (part_field 1 _ rfl rfl (by kernel_rfl) (opens_slice Try.underlying22 (by kernel_rfl) (opens_int Try.underlying3))))), fun y h => by first | exact h | (simp_all; done) | (have h_ := h; simp only at h_; simp_all)⟩
set_option maxRecDepth 100000 in
theorem lifted (os : Os) (started : os.Started) (H : Type) (enc : TypeId × Value → H) :
    ReturnsInHanded {} Try.checked os 10 .any (Rows.fnExactWordPowerSpec.pre6 enc Try.prog Try.f10 Rows.fnExactWordPowerRow.domain false) (Rows.fnExactWordPowerSpec.post enc Try.prog Try.f10 false true false false) := by
  refine returnsInHanded_of_change_sized (C := Try.checked) own started (by kernel_rfl) Try.func10
    (ChangeSpec.witness6 (enc := enc) (C := Try.checked) false ⟨#[], #[.agg #[.slice none 0 0, .slice none 0 0], .int .i64 0], []⟩ 8 (by kernel_rfl) (by kernel_rfl) (by kernel_rfl) (by kernel_rfl)) ?_
  intro W base args ds gs before hval0 hW hcnd hsz0 _
  have hval : ∀ (j : Nat) t v, Try.f10.params[j]? = some t → args[j]? = some v → Value.okWide Try.prog W .any base t v := hval0
  have hW' := hW
  obtain ⟨p, q, hA0, hV, rfl, hfz, hnd⟩ := hW
  have hA : DataW.TrodAll enc Try.prog W 0 (fun _ => true) true Try.f10.params.toList args.toList ds p := hA0
  rw [Try.params10] at hA hval
  obtain ⟨v0, vs0, d0, ds0, p0, q0, hargs, rfl, rfl, h0, r0⟩ := trodAll_cons hA
  obtain ⟨v1, vs1, d1, ds1, p1, q1, rfl, rfl, rfl, h1, r1⟩ := trodAll_cons r0
  obtain ⟨rfl, rfl, rfl⟩ := trodAll_nil r1
  obtain rfl : args = #[v0, v1] := by cases args; simp_all
  obtain ⟨rfl, rfl⟩ := trodVars_none hV
  have k0 := h0
  have lt0 : ∀ x ∈ p0, x.block < W.heap.size := by obtain ⟨m, hm⟩ := k0; exact DataW.trod_lt m _ _ _ hm
  obtain ⟨ok0, O0, C0⟩ := opens0
  obtain ⟨⟨y0_0, y0_1⟩, hK0, hok0⟩ := open_param O0 h0
  obtain ⟨cs0, rfl, _⟩ := okWide_struct Try.underlying24 (hval 0 24 v0 rfl rfl)
  obtain ⟨_, _, e0_0, ⟨A0_0, c0_0, rfl, hc0_0, hr0_0⟩, ⟨A0_1, c0_1, rfl, hc0_1, hr0_1⟩⟩ := hK0
  obtain rfl : cs0 = #[.slice A0_0 y0_0.length c0_0, .slice A0_1 y0_1.length c0_1] := Array.toList_inj.1 (by simpa [Value.cells] using e0_0)
  obtain ⟨w0_0, w0_1⟩ := C0 _ hok0
  obtain ⟨a1, rfl, rfl, rfl, w1⟩ := open_int Try.underlying3 (hval 1 3 v1 rfl rfl) h1
  clear hA0 hval0 hsz0
  obtain ⟨k_, hP⟩ := Pure.FnExactWordPower y0_0 y0_1 a1 hr0_0.2.1 w0_0 hr0_1.2.1 w0_1 w1
  refine (MFnExactWordPower.laws_FnExactWordPower.calls k_ A0_0 c0_0 y0_0 A0_1 c0_1 y0_1 a1 true W hr0_0 hc0_0 hr0_1 hc0_1 hP).mono fun e W' ⟨he, bel0⟩ => ?_
  have bel : Below W.heap.size W W' := bel0
  subst he
  exact ⟨_, rfl, _, _, _, [], _, [], hW', trodAll_mk1 (shut_bool Try.underlying4 _), (trodAll_cons_mk (Below.trod laidOut (by kernel_rfl) (of_decide_eq_true (by kernel_rfl)) k0 bel lt0) (trodAll_cons_mk (shut_int Try.underlying3 w1) trodAll_mk0)), rfl, bel.frame _, fun h => by cases h⟩
theorem over : Rows.fnExactWordPowerRow.holds Try.pinned (OpenSpec.ofChange Rows.fnExactWordPowerSpec) :=
  OpenClaim.holds_of_wide 10 Try.f10 rfl rfl rfl rfl rfl rfl rfl ⟨rfl, rfl, rfl, rfl, rfl⟩ rfl rfl rfl rfl rfl (by kernel_rfl) Try.func10 (by kernel_rfl)
    (of_decide_eq_true (by kernel_rfl)) (by unfold Func.isWrapper; first | (rw [if_pos (by decide +kernel)]; kernel_rfl) | (rw [if_neg (by decide +kernel)]; exact ⟨rfl, rfl⟩))
    (fun os started H enc _ => lifted os started H enc)
theorem proved : Rows.FnExactWordPowerSaid := over
#print axioms proved
end Go.Proofs.Ythkljpbddddhdaa.fnExactWordPower
namespace Go.Proofs.Ythkljpbddddhdaa
/-- The row, under a short name, for the claim. -/
theorem fnExactWordPower_holds : Rows.FnExactWordPowerSaid := fnExactWordPower.proved
end Go.Proofs.Ythkljpbddddhdaa
