-- Written by a program of this session, out of Lean's print of the translation. Not trusted: Lean checks it.
import Derived.Test.YtgnjacjinhadaaaDoorRows
import Derived.Test.YtgnjacjinhadaaaDoorMFnSetsx3
import Derived.Test.YtgnjacjinhadaaaDoorPureFnSets
import Derived.Test.YtgnjacjinhadaaaDoorOpen
import Derived.WalkKit
import Derived.ProofKit
import Derived.OpenShut
import Derived.ShutString
import Derived.ChangeOld
import Derived.Below
import Derived.SizedLaws
import Derived.Handed
import Derived.LaidMore
import Derived.Stop.Joined
import Derived.Stop.LaidErr
import Derived.MakeChecks
import Derived.Lib.LaidTab
import Derived.SevenTiedAt
import Derived.Test.YtgnjacjinhadaaaDoorCards
import Derived.Test.YtgnjacjinhadaaaDoorTie
namespace Go.Proofs.YtgnjacjinhadaaaDoor.fnSets
open Go.ChangeShapes Go.WideShapes Go.ChangeAt Go.RowKit Go.Proofs.YtgnjacjinhadaaaDoor.Open Go.Proofs.YtgnjacjinhadaaaDoorW.PrintWords Go.Proofs.YtgnjacjinhadaaaDoor.MFnSets
open Go.ChangeMaps (open_string shut_string)
set_option linter.unusedVariables false
theorem own : ownKnob Tryd.prog.godebug = none := by kernel_rfl
theorem laidOut : laidOutB Tryd.prog = true := by kernel_rfl
theorem opens0 : ∃ ok : List (Int) → Prop, Opens Tryd.prog 24 (Kd.slice 5 (Kd.int .u8)) ok ∧ ∀ l, ok l → ∀ x ∈ l, (Lit.int .u8 x).wf = true := ⟨_, (opens_slice Tryd.underlying24 (by kernel_rfl) (opens_int Tryd.underlying5)), fun l h => h⟩
/-- What the row lists. -/
abbrev L : List (String × DataW Unit) := [("math/bits.deBruijn32tab", Rows.laid_math_bits_deBruijn32tab), ("math/bits.deBruijn64tab", Rows.laid_math_bits_deBruijn64tab)]
theorem gTab : Tryd.prog.globalNamed "math/bits.deBruijn64tab" = some 1 := by kernel_rfl
/-- The door's own heap meets the condition. -/
theorem door_met (os : Os) (args : Array Value) : laidMetH Tryd.prog L ((World.doorLaid Tryd.prog 19 os).forCall (fun _ _ => 0) ⟨#[], args, []⟩).memory :=
  laidMetH_of_parts3 (fuel := 8) (laidMet_of_run' 8 (by kernel_rfl) (by kernel_rfl)) (by kernel_rfl) (by kernel_rfl)
/-- The table lies in its variable. -/
theorem tab_of {W : World} (h : laidMetH Tryd.prog L W) : MFnSets.bits_TrailingZeros.Tab W := by
  rw [MakeChecks.laidMetH_plain _ _ _ (by kernel_rfl)] at h
  have h2 := h.tail
  have e : ∀ (l : List Nat) (j : Nat), (l.map fun (n : Nat) => (n : Int)).getD j 0 = ((l.getD j 0 : Nat) : Int) := by
    intro l j
    simp only [List.getD_eq_getElem?_getD, List.getElem?_map]
    cases l[j]? <;> rfl
  have hT : Lib.TabIs Tryd.prog W "math/bits.deBruijn64tab" .u8 (Lib.deBruijn64tab.map fun (n : Nat) => (n : Int)) :=
    Lib.tabIs_of_head (rest := []) gTab (t := 50) (by kernel_rfl) (e := 5) (n := 64) Tryd.underlying50 Tryd.underlying5 (by kernel_rfl) (by kernel_rfl) h2
  intro j hj
  rw [hT.cell gTab j (by rw [List.length_map]; exact hj), e]
set_option maxRecDepth 100000 in
theorem lifted (os : Os) (started : os.Started) (H : Type) (enc : TypeId × Value → H) :
    ReturnsInHanded {} Tryd.checked os 4 .any (fun w args => (Rows.fnSetsSpec.pre enc Tryd.prog Tryd.f4 [] false w args ∧ laidMetH Tryd.prog L w) ∧ sizedMet enc Tryd.prog Tryd.f4 (OpenSpec.ofChange Rows.fnSetsSpec) false w args) (Rows.fnSetsSpec.post enc Tryd.prog Tryd.f4 false true false false) := by
  refine returnsInHanded_of_change_and (C := Tryd.checked) (X := fun w _ => laidMetH Tryd.prog L w) (fun _ _ _ hh h => h.of_heap hh) own started (by kernel_rfl) Tryd.func4
    (ChangeSpec.witness_shaped (enc := enc) (C := Tryd.checked) (os := os) (X := fun w _ => laidMetH Tryd.prog L w) false (World.doorLaid Tryd.prog 19 os) #[.slice none 0 0] 8 rfl (World.shaped_of_RefB (by kernel_rfl) (by kernel_rfl)) (by kernel_rfl) (by kernel_rfl) (by kernel_rfl) (door_met os _)) ?_
  intro W base args ds gs before hval0 hW hcnd hsz0 hL _
  have hval : ∀ (j : Nat) t v, Tryd.f4.params[j]? = some t → args[j]? = some v → Value.okWide Tryd.prog W .any base t v := hval0
  have hW' := hW
  obtain ⟨p, q, hA0, hV, rfl, hfz, hnd⟩ := hW
  have hA : DataW.TrodAll enc Tryd.prog W 0 (fun _ => true) true Tryd.f4.params.toList args.toList ds p := hA0
  rw [Tryd.params4] at hA hval
  obtain ⟨v0, vs0, d0, ds0, p0, q0, hargs, rfl, rfl, h0, r0⟩ := trodAll_cons hA
  obtain ⟨rfl, rfl, rfl⟩ := trodAll_nil r0
  obtain rfl : args = #[v0] := by cases args; simp_all
  obtain ⟨rfl, rfl⟩ := trodVars_none hV
  have k0 := h0
  have lt0 : ∀ x ∈ p0, x.block < W.heap.size := by obtain ⟨m, hm⟩ := k0; exact DataW.trod_lt m _ _ _ hm
  obtain ⟨ok0, O0, C0⟩ := opens0
  obtain ⟨l0, hK0, hok0⟩ := open_param O0 h0
  obtain ⟨A0, c0, rfl, hc0, hr0⟩ := slice_K (okWide_slice Tryd.underlying24 (hval 0 24 v0 rfl rfl)) hK0
  have w0 := C0 l0 hok0
  clear hA0 hval0 hsz0
  obtain ⟨k_, hP⟩ := Pure.FnSets l0 hr0.2.1 w0
  refine (MFnSets.laws_FnSets.calls k_ A0 c0 l0 true W hr0 hc0 hP ⟨tab_of hL⟩).mono fun e W' ⟨he, bel0⟩ => ?_
  have bel : Below W.heap.size W W' := bel0
  subst he
  exact ⟨_, rfl, _, _, _, [], _, [], hW', trodAll_mk1 (shut_bool Tryd.underlying4 _), (trodAll_cons_mk (Below.trod laidOut (by kernel_rfl) (of_decide_eq_true (by kernel_rfl)) k0 bel lt0) trodAll_mk0), rfl, bel.frame _, fun h => by cases h⟩
theorem over : Rows.fnSetsRow.holds Tryd.pinned (OpenSpec.ofChange Rows.fnSetsSpec) :=
  OpenClaim.holds_of_wide 4 Tryd.f4 rfl rfl rfl rfl rfl rfl rfl ⟨rfl, rfl, rfl, rfl, rfl⟩ rfl rfl rfl rfl rfl (by kernel_rfl) Tryd.func4 (by kernel_rfl)
    (of_decide_eq_true (by kernel_rfl)) (by unfold Func.isWrapper; first | (rw [if_pos (by decide +kernel)]; kernel_rfl) | (rw [if_neg (by decide +kernel)]; exact ⟨rfl, rfl⟩))
    (fun os started H enc _ => lifted os started H enc)
theorem card_holds : Rows.FnSetsCardSaid :=
  Claim7.holds_tied_plain_at .later [] [.data, .data] true (true, "a081ac6c21813c022d95b8dd2646c70dd75a58b927810b8600ce8c5bef26e912") false
    over (fun _ h => by cases h) (by kernel_rfl) (fun _ h => by cases h) fnSets_row_tie rfl ⟨rfl, rfl⟩ (by kernel_rfl) rfl
    (fun f fn hf hfn => by
      obtain rfl : f = 4 := Option.some.inj ((show Tryd.prog.funcNamed "loop.example/g00102/laws.FnSets" = some 4 by kernel_rfl).symm.trans hf) |>.symm
      obtain rfl : fn = Tryd.f4 := (Option.some.inj (Tryd.func4.symm.trans hfn)).symm
      exact ⟨by kernel_rfl, fun j t ht => by
        rw [Tryd.params4] at ht
        have hm : t ∈ [24] := by simpa using Array.mem_of_getElem? ht
        have hall : ([24].all fun u => !Tryd.prog.wantsStandIn u) = true := by kernel_rfl
        exact (show Tryd.prog.wantsStandIn t = false by simpa using List.all_eq_true.1 hall t hm)⟩)
    (by kernel_rfl)
theorem proved : Rows.FnSetsCardSaid := card_holds
#print axioms proved
end Go.Proofs.YtgnjacjinhadaaaDoor.fnSets
namespace Go.Proofs.YtgnjacjinhadaaaDoor
/-- The row, under a short name, for the claim. -/
theorem fnSets_holds : Rows.FnSetsCardSaid := fnSets.proved
end Go.Proofs.YtgnjacjinhadaaaDoor
