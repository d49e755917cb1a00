-- Written by a program of this session, out of Lean's print of the translation. Not trusted: Lean checks it.
import Derived.Test.YthkljpbddddhdaaRows
import Derived.Test.YthkljpbddddhdaaMFnExactWordJoinx4
import Derived.Test.YthkljpbddddhdaaPureFnExactWordJoin
import Derived.Test.YthkljpbddddhdaaOpen
import Derived.WalkKit
import Derived.ProofKit
import Derived.OpenShut
import Derived.ShutString
import Derived.ChangeOld
import Derived.Below
import Derived.SizedLaws
namespace Go.Proofs.Ythkljpbddddhdaa.fnExactWordJoin
open Go.ChangeShapes Go.WideShapes Go.ChangeAt Go.RowKit Go.Proofs.Ythkljpbddddhdaa.Open Go.Proofs.YthkljpbddddhdaaW.PrintWords Go.Proofs.Ythkljpbddddhdaa.MFnExactWordJoin
open Go.ChangeMaps (open_string shut_string)
set_option linter.unusedVariables false
theorem own : ownKnob Try.prog.godebug = none := by kernel_rfl
theorem laidOut : laidOutB Try.prog = true := by kernel_rfl
theorem opens0 : ∃ ok : List (Int) → Prop, Opens Try.prog 22 (Kd.slice 3 (Kd.int .i64)) ok ∧ ∀ l, ok l → ∀ x ∈ l, (Lit.int .i64 x).wf = true := ⟨_, (opens_slice Try.underlying22 (by kernel_rfl) (opens_int Try.underlying3)), fun l h => h⟩
theorem opens1 : ∃ ok : _ → Prop, Opens Try.prog 24 (Kd.pair (Kd.slice 3 (Kd.int .i64)) (Kd.slice 3 (Kd.int .i64))) ok ∧ ∀ y, ok y → (∀ x ∈ y.1, (Lit.int .i64 x).wf = true) ∧ (∀ x ∈ y.2, (Lit.int .i64 x).wf = true) := ⟨_, (opens_struct Try.underlying24 (by kernel_rfl) (part_pair (part_field 0 _ rfl rfl (by kernel_rfl) (opens_slice Try.underlying22 (by kernel_rfl) (opens_int Try.underlying3))) (part_field 1 _ rfl rfl (by kernel_rfl) (opens_slice Try.underlying22 (by kernel_rfl) (opens_int Try.underlying3))))), fun y h => by first | exact h | (simp_all; done) | (have h_ := h; simp only at h_; simp_all)⟩
set_option maxRecDepth 100000 in
theorem lifted (os : Os) (started : os.Started) (H : Type) (enc : TypeId × Value → H) :
    ReturnsInHanded {} Try.checked os 7 .any (Rows.fnExactWordJoinSpec.pre6 enc Try.prog Try.f7 Rows.fnExactWordJoinRow.domain false) (Rows.fnExactWordJoinSpec.post enc Try.prog Try.f7 false true false false) := by
  refine returnsInHanded_of_change_sized (C := Try.checked) own started (by kernel_rfl) Try.func7
    (ChangeSpec.witness6 (enc := enc) (C := Try.checked) false ⟨#[], #[.slice none 0 0, .agg #[.slice none 0 0, .slice none 0 0]], []⟩ 8 (by kernel_rfl) (by kernel_rfl) (by kernel_rfl) (by kernel_rfl)) ?_
  intro W base args ds gs before hval0 hW hcnd hsz0 _
  have hval : ∀ (j : Nat) t v, Try.f7.params[j]? = some t → args[j]? = some v → Value.okWide Try.prog W .any base t v := hval0
  have hW' := hW
  obtain ⟨p, q, hA0, hV, rfl, hfz, hnd⟩ := hW
  have hA : DataW.TrodAll enc Try.prog W 0 (fun _ => true) true Try.f7.params.toList args.toList ds p := hA0
  rw [Try.params7] at hA hval
  obtain ⟨v0, vs0, d0, ds0, p0, q0, hargs, rfl, rfl, h0, r0⟩ := trodAll_cons hA
  obtain ⟨v1, vs1, d1, ds1, p1, q1, rfl, rfl, rfl, h1, r1⟩ := trodAll_cons r0
  obtain ⟨rfl, rfl, rfl⟩ := trodAll_nil r1
  obtain rfl : args = #[v0, v1] := by cases args; simp_all
  obtain ⟨rfl, rfl⟩ := trodVars_none hV
  have k0 := h0
  have lt0 : ∀ x ∈ p0, x.block < W.heap.size := by obtain ⟨m, hm⟩ := k0; exact DataW.trod_lt m _ _ _ hm
  obtain ⟨ok0, O0, C0⟩ := opens0
  obtain ⟨l0, hK0, hok0⟩ := open_param O0 h0
  obtain ⟨A0, c0, rfl, hc0, hr0⟩ := slice_K (okWide_slice Try.underlying22 (hval 0 22 v0 rfl rfl)) hK0
  have w0 := C0 l0 hok0
  have k1 := h1
  have lt1 : ∀ x ∈ p1, x.block < W.heap.size := by obtain ⟨m, hm⟩ := k1; exact DataW.trod_lt m _ _ _ hm
  obtain ⟨ok1, O1, C1⟩ := opens1
  obtain ⟨⟨y1_0, y1_1⟩, hK1, hok1⟩ := open_param O1 h1
  obtain ⟨cs1, rfl, _⟩ := okWide_struct Try.underlying24 (hval 1 24 v1 rfl rfl)
  obtain ⟨_, _, e1_0, ⟨A1_0, c1_0, rfl, hc1_0, hr1_0⟩, ⟨A1_1, c1_1, rfl, hc1_1, hr1_1⟩⟩ := hK1
  obtain rfl : cs1 = #[.slice A1_0 y1_0.length c1_0, .slice A1_1 y1_1.length c1_1] := Array.toList_inj.1 (by simpa [Value.cells] using e1_0)
  obtain ⟨w1_0, w1_1⟩ := C1 _ hok1
  clear hA0 hval0 hsz0
  obtain ⟨k_, hP⟩ := Pure.FnExactWordJoin l0 y1_0 y1_1 hr0.2.1 w0 hr1_0.2.1 w1_0 hr1_1.2.1 w1_1
  refine (MFnExactWordJoin.laws_FnExactWordJoin.calls k_ A0 c0 l0 A1_0 c1_0 y1_0 A1_1 c1_1 y1_1 true W hr0 hc0 hr1_0 hc1_0 hr1_1 hc1_1 hP).mono fun e W' ⟨he, bel0⟩ => ?_
  have bel : Below W.heap.size W W' := bel0
  subst he
  exact ⟨_, rfl, _, _, _, [], _, [], hW', trodAll_mk1 (shut_bool Try.underlying4 _), (trodAll_cons_mk (Below.trod laidOut (by kernel_rfl) (of_decide_eq_true (by kernel_rfl)) k0 bel lt0) (trodAll_cons_mk (Below.trod laidOut (by kernel_rfl) (of_decide_eq_true (by kernel_rfl)) k1 bel lt1) trodAll_mk0)), rfl, bel.frame _, fun h => by cases h⟩
theorem over : Rows.fnExactWordJoinRow.holds Try.pinned (OpenSpec.ofChange Rows.fnExactWordJoinSpec) :=
  OpenClaim.holds_of_wide 7 Try.f7 rfl rfl rfl rfl rfl rfl rfl ⟨rfl, rfl, rfl, rfl, rfl⟩ rfl rfl rfl rfl rfl (by kernel_rfl) Try.func7 (by kernel_rfl)
    (of_decide_eq_true (by kernel_rfl)) (by unfold Func.isWrapper; first | (rw [if_pos (by decide +kernel)]; kernel_rfl) | (rw [if_neg (by decide +kernel)]; exact ⟨rfl, rfl⟩))
    (fun os started H enc _ => lifted os started H enc)
theorem proved : Rows.FnExactWordJoinSaid := over
#print axioms proved
end Go.Proofs.Ythkljpbddddhdaa.fnExactWordJoin
namespace Go.Proofs.Ythkljpbddddhdaa
/-- The row, under a short name, for the claim. -/
theorem fnExactWordJoin_holds : Rows.FnExactWordJoinSaid := fnExactWordJoin.proved
end Go.Proofs.Ythkljpbddddhdaa
