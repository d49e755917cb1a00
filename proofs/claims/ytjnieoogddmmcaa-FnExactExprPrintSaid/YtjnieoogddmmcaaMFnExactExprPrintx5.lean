-- Written by a program of this session, out of Lean's print of the translation. Not trusted: Lean checks it.
import Derived.Test.YtjnieoogddmmcaaMFnExactExprPrintx0
import Derived.Test.YtjnieoogddmmcaaMFnExactExprPrintx1
import Derived.Test.YtjnieoogddmmcaaMFnExactExprPrintx3
import Derived.Test.YtjnieoogddmmcaaMFnExactExprPrintx4
namespace Go.Proofs.Ytjnieoogddmmcaa.MFnExactExprPrint
open Go.RowKit Go.Proofs.YtjnieoogddmmcaaW.PrintWords Go.Proofs.YtjnieoogddmmcaaW.PrintLast Go.Proofs.YtjnieoogddmmcaaW.PrintMore
attribute [local go_sem] max2_int min2_int max_two min_two max_three min_three max_four min_four   -- for this text's walks alone
set_option linter.unusedVariables false
set_option linter.unusedSimpArgs false

/-! ### impl_ExprOk: function 14 -/
def impl_ExprOk.f (k : Nat) (l0 : List (S45)) : Option (Bool) := (impl_isTree.f k l0).bind fun t213 => (some t213)
theorem impl_ExprOk.mono : ∀ a0 k, LeO (impl_ExprOk.f k a0) (impl_ExprOk.f (k + 1) a0) := by
  intro a0 k
  unfold impl_ExprOk.f
  repeat' first
      | (with_reducible exact impl_isTree.mono _ _)
      | (with_reducible exact LeO.refl _)
      | (with_reducible exact LeO.none _)
      | (with_reducible refine LeO.ite ?_ ?_)
      | (with_reducible refine LeO.bind ?_ (fun _ => ?_))
      | exact impl_isTree.mono _ _
      | exact LeO.none _
      | refine LeO.ite ?_ ?_
      | refine LeO.bind ?_ (fun _ => ?_)
set_option maxHeartbeats 8000000 in
set_option maxRecDepth 100000 in
theorem impl_ExprOk.calls (k : Nat) (A0 : Option Addr) (c0 : Nat) (l0 : List (S45)) (r : Bool) (w : World) (hr0 : Kd.C k45 w A0 l0.length l0) (hc0 : l0.length ≤ c0) (h : impl_ExprOk.f k l0 = some r) :
    Calls Try.prog 14 #[.slice A0 l0.length c0] w fun e w' => e = .returned (.bool r) ∧ Below w.heap.size w w' := by
  have HR0 := Aside0.mk hr0
  have HC0 := Aside0.mk hc0
  clear hr0 hc0
  have HB := Aside0.mk (Below.refl w.heap.size w)
  have H : ((impl_isTree.f k l0).bind fun t213 => (some t213)) = some r := h
  clear h
  replace H := Option.bind_eq_some_iff.mp H
  obtain ⟨t213, A20, H⟩ := H
  replace H : (some t213) = some r := H
  have A2 := Aside0.mk A20
  clear A20
  obtain rfl := Option.some.inj H
  go_enter Try.func14, Try.ntmps14
  go_wp2_with (first | ((with_reducible refine gate_callee (f := 38) rfl ?_); refine goesL_ (some 4) rfl rfl Try.func38 (by kernel_rfl) rfl #[.slice A0 l0.length c0, .func (.func 39) #[] #[]] rfl (by (try simp only [List.map_toArray, List.map_cons, List.map_nil]); first | done | rfl | (simp only [List.length_drop, List.length_take]; rfl)) ?_; (with_reducible refine (impl_isTree.calls k _ _ l0  t213 _ ?side1 ?side2 A2.out).mono ?_); (case side1 => repeat (first | exact HR0.out | (with_reducible refine Kd.C_alloc ?_ _) | (with_reducible refine Kd.C_drewN ?_ _) | (with_reducible refine Kd.C_drew ?_))); (case side2 => exact HC0.out); rintro e w3 ⟨rfl, hb⟩; refine ⟨_, rfl, ?_⟩; have n0_ := Aside0.mk (below_step (by repeat (first | (with_reducible first | exact HB.out | apply below_alloc | apply pw_below_drewN | apply below_drew1) | exact HB.out)) hb); clear HB; have HB := n0_; clear n0_; (try clear hb); (try clear hb2); (try clear hk); (try clear hi)))
  go_ret
  exact ⟨by first | rfl | (simp [errW_none, errW_some] <;> rfl) | (simp [*, errW_none, errW_some] <;> rfl), by repeat (first | (with_reducible first | exact HB.out | apply below_alloc | apply pw_below_drewN | apply below_drew1) | exact HB.out)⟩

/-! ### impl_signOf: function 73 -/
/-- The sign of a kind of node. -/
def impl_signOf.f (a0 : Int) : Option ByteArray := (impl_inRange.f a0 1 11).bind fun b => if b = true then some (([⟨#[116]⟩, ⟨#[102]⟩, ⟨#[]⟩, ⟨#[33]⟩, ⟨#[38]⟩, ⟨#[124]⟩, ⟨#[88]⟩, ⟨#[85]⟩, ⟨#[82]⟩, ⟨#[70]⟩, ⟨#[71]⟩] : List ByteArray).getD (a0 - 1).toNat ⟨#[]⟩) else some ⟨#[]⟩
theorem impl_signOf.ix0 (w_ : World) : (Instr.index 81 (.agg #[.string ⟨#[116]⟩, .string ⟨#[102]⟩, .string ⟨#[]⟩, .string ⟨#[33]⟩, .string ⟨#[38]⟩, .string ⟨#[124]⟩, .string ⟨#[88]⟩, .string ⟨#[85]⟩, .string ⟨#[82]⟩, .string ⟨#[70]⟩, .string ⟨#[71]⟩]) (.int .i64 0)).run Try.prog w_ = .ok (.string ⟨#[116]⟩) w_ := by rfl
theorem impl_signOf.ix1 (w_ : World) : (Instr.index 81 (.agg #[.string ⟨#[116]⟩, .string ⟨#[102]⟩, .string ⟨#[]⟩, .string ⟨#[33]⟩, .string ⟨#[38]⟩, .string ⟨#[124]⟩, .string ⟨#[88]⟩, .string ⟨#[85]⟩, .string ⟨#[82]⟩, .string ⟨#[70]⟩, .string ⟨#[71]⟩]) (.int .i64 1)).run Try.prog w_ = .ok (.string ⟨#[102]⟩) w_ := by rfl
theorem impl_signOf.ix2 (w_ : World) : (Instr.index 81 (.agg #[.string ⟨#[116]⟩, .string ⟨#[102]⟩, .string ⟨#[]⟩, .string ⟨#[33]⟩, .string ⟨#[38]⟩, .string ⟨#[124]⟩, .string ⟨#[88]⟩, .string ⟨#[85]⟩, .string ⟨#[82]⟩, .string ⟨#[70]⟩, .string ⟨#[71]⟩]) (.int .i64 2)).run Try.prog w_ = .ok (.string ⟨#[]⟩) w_ := by rfl
theorem impl_signOf.ix3 (w_ : World) : (Instr.index 81 (.agg #[.string ⟨#[116]⟩, .string ⟨#[102]⟩, .string ⟨#[]⟩, .string ⟨#[33]⟩, .string ⟨#[38]⟩, .string ⟨#[124]⟩, .string ⟨#[88]⟩, .string ⟨#[85]⟩, .string ⟨#[82]⟩, .string ⟨#[70]⟩, .string ⟨#[71]⟩]) (.int .i64 3)).run Try.prog w_ = .ok (.string ⟨#[33]⟩) w_ := by rfl
theorem impl_signOf.ix4 (w_ : World) : (Instr.index 81 (.agg #[.string ⟨#[116]⟩, .string ⟨#[102]⟩, .string ⟨#[]⟩, .string ⟨#[33]⟩, .string ⟨#[38]⟩, .string ⟨#[124]⟩, .string ⟨#[88]⟩, .string ⟨#[85]⟩, .string ⟨#[82]⟩, .string ⟨#[70]⟩, .string ⟨#[71]⟩]) (.int .i64 4)).run Try.prog w_ = .ok (.string ⟨#[38]⟩) w_ := by rfl
theorem impl_signOf.ix5 (w_ : World) : (Instr.index 81 (.agg #[.string ⟨#[116]⟩, .string ⟨#[102]⟩, .string ⟨#[]⟩, .string ⟨#[33]⟩, .string ⟨#[38]⟩, .string ⟨#[124]⟩, .string ⟨#[88]⟩, .string ⟨#[85]⟩, .string ⟨#[82]⟩, .string ⟨#[70]⟩, .string ⟨#[71]⟩]) (.int .i64 5)).run Try.prog w_ = .ok (.string ⟨#[124]⟩) w_ := by rfl
theorem impl_signOf.ix6 (w_ : World) : (Instr.index 81 (.agg #[.string ⟨#[116]⟩, .string ⟨#[102]⟩, .string ⟨#[]⟩, .string ⟨#[33]⟩, .string ⟨#[38]⟩, .string ⟨#[124]⟩, .string ⟨#[88]⟩, .string ⟨#[85]⟩, .string ⟨#[82]⟩, .string ⟨#[70]⟩, .string ⟨#[71]⟩]) (.int .i64 6)).run Try.prog w_ = .ok (.string ⟨#[88]⟩) w_ := by rfl
theorem impl_signOf.ix7 (w_ : World) : (Instr.index 81 (.agg #[.string ⟨#[116]⟩, .string ⟨#[102]⟩, .string ⟨#[]⟩, .string ⟨#[33]⟩, .string ⟨#[38]⟩, .string ⟨#[124]⟩, .string ⟨#[88]⟩, .string ⟨#[85]⟩, .string ⟨#[82]⟩, .string ⟨#[70]⟩, .string ⟨#[71]⟩]) (.int .i64 7)).run Try.prog w_ = .ok (.string ⟨#[85]⟩) w_ := by rfl
theorem impl_signOf.ix8 (w_ : World) : (Instr.index 81 (.agg #[.string ⟨#[116]⟩, .string ⟨#[102]⟩, .string ⟨#[]⟩, .string ⟨#[33]⟩, .string ⟨#[38]⟩, .string ⟨#[124]⟩, .string ⟨#[88]⟩, .string ⟨#[85]⟩, .string ⟨#[82]⟩, .string ⟨#[70]⟩, .string ⟨#[71]⟩]) (.int .i64 8)).run Try.prog w_ = .ok (.string ⟨#[82]⟩) w_ := by rfl
theorem impl_signOf.ix9 (w_ : World) : (Instr.index 81 (.agg #[.string ⟨#[116]⟩, .string ⟨#[102]⟩, .string ⟨#[]⟩, .string ⟨#[33]⟩, .string ⟨#[38]⟩, .string ⟨#[124]⟩, .string ⟨#[88]⟩, .string ⟨#[85]⟩, .string ⟨#[82]⟩, .string ⟨#[70]⟩, .string ⟨#[71]⟩]) (.int .i64 9)).run Try.prog w_ = .ok (.string ⟨#[70]⟩) w_ := by rfl
theorem impl_signOf.ix10 (w_ : World) : (Instr.index 81 (.agg #[.string ⟨#[116]⟩, .string ⟨#[102]⟩, .string ⟨#[]⟩, .string ⟨#[33]⟩, .string ⟨#[38]⟩, .string ⟨#[124]⟩, .string ⟨#[88]⟩, .string ⟨#[85]⟩, .string ⟨#[82]⟩, .string ⟨#[70]⟩, .string ⟨#[71]⟩]) (.int .i64 10)).run Try.prog w_ = .ok (.string ⟨#[71]⟩) w_ := by rfl
set_option maxHeartbeats 8000000 in
set_option maxRecDepth 100000 in
theorem impl_signOf.calls (a0 : Int) (r : ByteArray) (w : World) (h : impl_signOf.f a0 = some r) :
    Calls Try.prog 73 #[.int .i64 a0] w fun e w' => e = .returned (.string r) ∧ Below w.heap.size w w' := by
  have HB := Aside0.mk (Below.refl w.heap.size w)
  unfold impl_signOf.f at h
  obtain ⟨b, hb, h⟩ := Option.bind_eq_some_iff.1 h
  have A1 := Aside0.mk hb
  cases b with
  | false =>
    rw [if_neg Bool.false_ne_true] at h
    obtain rfl := Option.some.inj h
    clear hb
    go_enter Try.func73, Try.ntmps73
    go_wp2_with (go_at_call 68; (with_reducible refine (impl_inRange.calls a0 1 11 false _ A1.out).mono ?_); rintro e w' ⟨rfl, ⟨nd, rfl⟩⟩)
    go_ret
    exact ⟨rfl, by repeat (first | (with_reducible first | exact HB.out | apply below_alloc | apply pw_below_drewN | apply below_drew1) | exact HB.out)⟩
  | true =>
    rw [if_pos rfl] at h
    have hr : 1 ≤ a0 ∧ a0 ≤ 11 := by
      unfold impl_inRange.f at hb
      by_cases h1 : a0 ≥ 1
      · rw [if_pos h1] at hb
        exact ⟨h1, of_decide_eq_true (Option.some.inj hb)⟩
      · rw [if_neg h1] at hb
        cases Option.some.inj hb
    clear hb
    have hc : a0 = 1 ∨ a0 = 2 ∨ a0 = 3 ∨ a0 = 4 ∨ a0 = 5 ∨ a0 = 6 ∨ a0 = 7 ∨ a0 = 8 ∨ a0 = 9 ∨ a0 = 10 ∨ a0 = 11 := by omega
    clear hr
    rcases hc with rfl | rfl | rfl | rfl | rfl | rfl | rfl | rfl | rfl | rfl | rfl
    all_goals
      obtain rfl := Option.some.inj h
      clear h
      have hix0 := impl_signOf.ix0
      have hix1 := impl_signOf.ix1
      have hix2 := impl_signOf.ix2
      have hix3 := impl_signOf.ix3
      have hix4 := impl_signOf.ix4
      have hix5 := impl_signOf.ix5
      have hix6 := impl_signOf.ix6
      have hix7 := impl_signOf.ix7
      have hix8 := impl_signOf.ix8
      have hix9 := impl_signOf.ix9
      have hix10 := impl_signOf.ix10
      go_enter Try.func73, Try.ntmps73
      go_wp2_with (go_at_call 68; (with_reducible refine (impl_inRange.calls _ 1 11 true _ A1.out).mono ?_); rintro e w' ⟨rfl, ⟨nd, rfl⟩⟩)
      go_ret
      exact ⟨rfl, by repeat (first | (with_reducible first | exact HB.out | apply below_alloc | apply pw_below_drewN | apply below_drew1) | exact HB.out)⟩

/-! ### impl_digit: function 74 -/
def impl_digit.f (a0 : Int) : Option (ByteArray) := some (strOfNums (([(wrap64 (48 + a0)) % 256] : List Int)))
set_option maxHeartbeats 8000000 in
set_option maxRecDepth 100000 in
theorem impl_digit.calls (a0 : Int) (r : ByteArray) (w : World) (h : impl_digit.f a0 = some r) :
    Calls Try.prog 74 #[.int .i64 a0] w fun e w' => e = .returned (.string r) ∧ Below w.heap.size w w' := by
  have HB := Aside0.mk (Below.refl w.heap.size w)
  have H : (some (strOfNums (([(wrap64 (48 + a0)) % 256] : List Int)))) = some r := h
  clear h
  obtain ⟨y214, hy214⟩ : ∃ y_ : List Int, y_ = (([(wrap64 (48 + a0)) % 256] : List Int)) := ⟨_, rfl⟩
  replace H : (some (strOfNums y214)) = some r := by first | (rw [hy214]; with_reducible exact H) | (have H2_ := (Option.bind_some _ _).symm.trans H; rw [hy214]; with_reducible exact H2_) | (have H2_ := (Option.bind_some _ _).symm.trans H; with_reducible exact H2_) | with_reducible exact H | (rw [hy214]; exact H) | exact H
  have Ny214 := Aside0.mk hy214
  clear hy214
  obtain rfl := Option.some.inj H
  go_enter Try.func74, Try.ntmps74
  go_wp2_with (first | ((with_reducible refine gate_dst (N := 6) rfl ?_); refine Kd.R_lit (Kd.int .u8) _ 5 ?hg (N := 6) ?hd (xs := ([(wrap64 (48 + a0)) % 256] : List Int)) (inner := [.int .u8 ((wrap64 (48 + a0)) % 256)]) (ok := fun _ => True) (okp := fun _ => True) ?hr ?hp (fun _ hk => hk) trivial (Below.refl _ _) (Nat.le_refl _) (by simp) ?_; (case hd => rfl); (case hg => rfl); (case hr => first | (go_simp; done) | (go_simp; rfl)); (case hp => exact (Reps.one (show Kd.M (Kd.int .u8) _ _ _ ((wrap64 (48 + a0)) % 256) [.int .u8 ((wrap64 (48 + a0)) % 256)] from rfl) (Reps.none _ _))); intro v215 w2 ho3 hb hg_ hnew_; clear hg_ hnew_; (first | rw [← Ny214.out] at ho3 | (simp only [Int.reduceToNat] at ho3; rw [← Ny214.out] at ho3)); have n0_ := Aside0.mk (Kd.R_lower ho3 (below_size (by repeat (first | (with_reducible first | exact HB.out | apply below_alloc | apply pw_below_drewN | apply below_drew1) | exact HB.out)))); have n1_ := Aside0.mk (below_step (by repeat (first | (with_reducible first | exact HB.out | apply below_alloc | apply pw_below_drewN | apply below_drew1) | exact HB.out)) hb); clear HB; have HO216 := n0_; have HB := n1_; clear n0_ n1_; clear hb ho3; have hcv4 := own_string (P := Try.prog) Try.underlying37 Try.underlying5 Try.underlying9 (Kd.own_of_R HO216.out)))
  go_ret
  exact ⟨by first | rfl | (simp [errW_none, errW_some] <;> rfl) | (simp [*, errW_none, errW_some] <;> rfl), by repeat (first | (with_reducible first | exact HB.out | apply below_alloc | apply pw_below_drewN | apply below_drew1) | exact HB.out)⟩

/-! ### impl_printed: function 58 -/
def impl_printed.l0 : Nat → List (S45) → List ByteArray → List (S45) → Int → Int → Option (ByteArray)
  | 0, _, _, _, _, _ => none
  | k + 1, x0, x5, x12, x13, x14 => if x14 < x13 then (if 0 ≤ x14 then (if x14 < (x12.length : Int) then ((impl_signOf.f ((rd_T45 x12 x14).f0)).bind fun t223 => ((impl_exprParts.f k ((rd_T45 x12 x14).f0) ((rd_T45 x12 x14).f1) ((rd_T45 x12 x14).f2)).bind fun t224 => (if t224 = 0 then (if x14 < (x5.length : Int) then ((some (x5.set (x14 : Int).toNat t223 : List ByteArray)).bind fun y225 => (if ((rd_T45 x12 x14).f0) = 3 then ((impl_digit.f ((rd_T45 x12 x14).f1)).bind fun t226 => (impl_printed.l0 k x0 (y225.set (x14 : Int).toNat t226) x12 x13 (wrap64 (x14 + 1)))) else (impl_printed.l0 k x0 y225 x12 x13 (wrap64 (x14 + 1))))) else (none)) else (if t224 = 1 then (if 0 ≤ ((rd_T45 x12 x14).f1) then (if ((rd_T45 x12 x14).f1) < (x5.length : Int) then (if t223.size + (rdOf ByteArray.empty x5 ((rd_T45 x12 x14).f1)).size ≤ 9223372036854775807 then (if x14 < (x5.length : Int) then (impl_printed.l0 k x0 (x5.set (x14 : Int).toNat (t223 ++ (rdOf ByteArray.empty x5 ((rd_T45 x12 x14).f1)))) x12 x13 (wrap64 (x14 + 1))) else (none)) else (none)) else (none)) else (none)) else (if 0 ≤ ((rd_T45 x12 x14).f1) then (if ((rd_T45 x12 x14).f1) < (x5.length : Int) then (if 1 + (rdOf ByteArray.empty x5 ((rd_T45 x12 x14).f1)).size ≤ 9223372036854775807 then (if ((⟨#[40]⟩ : ByteArray) ++ (rdOf ByteArray.empty x5 ((rd_T45 x12 x14).f1))).size + t223.size ≤ 9223372036854775807 then (if 0 ≤ ((rd_T45 x12 x14).f2) then (if ((rd_T45 x12 x14).f2) < (x5.length : Int) then (if (((⟨#[40]⟩ : ByteArray) ++ (rdOf ByteArray.empty x5 ((rd_T45 x12 x14).f1))) ++ t223).size + (rdOf ByteArray.empty x5 ((rd_T45 x12 x14).f2)).size ≤ 9223372036854775807 then (if ((((⟨#[40]⟩ : ByteArray) ++ (rdOf ByteArray.empty x5 ((rd_T45 x12 x14).f1))) ++ t223) ++ (rdOf ByteArray.empty x5 ((rd_T45 x12 x14).f2))).size + 1 ≤ 9223372036854775807 then (if x14 < (x5.length : Int) then (impl_printed.l0 k x0 (x5.set (x14 : Int).toNat (((((⟨#[40]⟩ : ByteArray) ++ (rdOf ByteArray.empty x5 ((rd_T45 x12 x14).f1))) ++ t223) ++ (rdOf ByteArray.empty x5 ((rd_T45 x12 x14).f2))) ++ (⟨#[41]⟩ : ByteArray))) x12 x13 (wrap64 (x14 + 1))) else (none)) else (none)) else (none)) else (none)) else (none)) else (none)) else (none)) else (none)) else (none)))))) else (none)) else (none)) else (if 0 ≤ (wrap64 ((x0.length : Int) - 1)) then (if (wrap64 ((x0.length : Int) - 1)) < (x5.length : Int) then (some (rdOf ByteArray.empty x5 (wrap64 ((x0.length : Int) - 1)))) else (none)) else (none))
def impl_printed.f (k : Nat) (l0 : List (S45))  : Option (ByteArray) := if 0 ≤ (l0.length : Int) then (if ((l0.length : Int) : Int).toNat ≤ 17592186044416 then (impl_printed.l0 k l0 (List.replicate ((l0.length : Int) : Int).toNat (⟨#[]⟩ : ByteArray)) l0 (l0.length : Int) 0) else (none)) else (none)
theorem impl_printed.mono_l : ∀ k, (∀ y0 y1 y2 y3 y4, LeO (impl_printed.l0 k y0 y1 y2 y3 y4) (impl_printed.l0 (k + 1) y0 y1 y2 y3 y4))
  | 0 => fun _ _ _ _ _ r h => by simp [impl_printed.l0] at h
  | k + 1 => by
    have ih0 := impl_printed.mono_l k
    · intro y0 y1 y2 y3 y4
      unfold impl_printed.l0
      repeat' first
      | (with_reducible exact ih0 _ _ _ _ _)
      | (with_reducible exact impl_exprParts.mono _ _ _ _)
      | (with_reducible exact LeO.refl _)
      | (with_reducible exact LeO.none _)
      | (with_reducible refine LeO.ite ?_ ?_)
      | (with_reducible refine LeO.bind ?_ (fun _ => ?_))
      | exact ih0 _ _ _ _ _
      | exact impl_exprParts.mono _ _ _ _
      | exact LeO.none _
      | refine LeO.ite ?_ ?_
      | refine LeO.bind ?_ (fun _ => ?_)
theorem impl_printed.mono : ∀ a0 k, LeO (impl_printed.f k a0) (impl_printed.f (k + 1) a0) := by
  intro a0 k
  have ih0 := impl_printed.mono_l k
  unfold impl_printed.f
  repeat' first
      | (with_reducible exact ih0 _ _ _ _ _)
      | (with_reducible exact impl_exprParts.mono _ _ _ _)
      | (with_reducible exact LeO.refl _)
      | (with_reducible exact LeO.none _)
      | (with_reducible refine LeO.ite ?_ ?_)
      | (with_reducible refine LeO.bind ?_ (fun _ => ?_))
      | exact ih0 _ _ _ _ _
      | exact impl_exprParts.mono _ _ _ _
      | exact LeO.none _
      | refine LeO.ite ?_ ?_
      | refine LeO.bind ?_ (fun _ => ?_)
def impl_printed.T7 : Bool × List (List Nat × List Nat) := (true, [([], []), ([], []), ([], []), ([], []), ([3], [3]), ([2, 4], [2, 4]), ([5], [5]), ([6], [6]), ([], []), ([7, 8], [7, 8]), ([], []), ([], []), ([11], [11]), ([10, 12], [10, 12]), ([13], [13]), ([9, 14], [9, 14]), ([15], [15]), ([0, 1, 0, 1, 2, 3, 4, 5, 6, 7, 8, 9, 10, 11, 12, 13, 14, 15, 16], [0, 1]), ([17, 16, 0, 1, 2, 3, 4, 5, 6, 7, 8, 9, 10, 11, 12, 13, 14, 15, 16], [16, 17])])
def impl_printed.B7 : List Nat := [0, 0, 0, 0, 8, 28, 60, 124, 0, 508, 0, 0, 2048, 7168, 15360, 32764, 65532, 131071, 262143]
theorem impl_printed.tab7 : rtab .any (opsOf Try.f58 7) = impl_printed.T7 := by kernel_rfl
theorem impl_printed.bits7 : waitsOk impl_printed.T7.2 impl_printed.B7 = true := by kernel_rfl
set_option maxHeartbeats 8000000 in
set_option maxRecDepth 100000 in
theorem impl_printed.calls (k : Nat) (A0 : Option Addr) (c0 : Nat) (l0 : List (S45))  (r : ByteArray) (w : World) (hr0 : Kd.C k45 w A0 l0.length l0) (hc0 : l0.length ≤ c0) (h : impl_printed.f k l0 = some r) :
    Calls Try.prog 58 #[.slice A0 l0.length c0, .func (.func 39) #[] #[]] w fun e w' => e = .returned (.string r) ∧ Below w.heap.size w w' := by
  have hu45 := Try.underlying45
  have HR0 := Aside0.mk hr0
  have HC0 := Aside0.mk hc0
  clear hr0 hc0
  have HB := Aside0.mk (Below.refl w.heap.size w)
  have H : (if 0 ≤ (l0.length : Int) then (if ((l0.length : Int) : Int).toNat ≤ 17592186044416 then (impl_printed.l0 k l0 (List.replicate ((l0.length : Int) : Int).toNat (⟨#[]⟩ : ByteArray)) l0 (l0.length : Int) 0) else (none)) else (none)) = some r := h
  clear h
  by_cases c3 : 0 ≤ (l0.length : Int)
  · rw [if_pos c3] at H
    have c3b0 := eq_true c3
    have c3b1 : decide (0 ≤ (l0.length : Int)) = true := decide_eq_true c3
    clear c3
    by_cases c4 : ((l0.length : Int) : Int).toNat ≤ 17592186044416
    · rw [if_pos c4] at H
      have c4b0 := eq_true c4
      have c4b1 : decide (((l0.length : Int) : Int).toNat ≤ 17592186044416) = true := decide_eq_true c4
      clear c4
      obtain ⟨y217, hy217⟩ : ∃ y_ : List ByteArray, y_ = (List.replicate ((l0.length : Int) : Int).toNat (⟨#[]⟩ : ByteArray)) := ⟨_, rfl⟩
      replace H : (impl_printed.l0 k l0 y217 l0 (l0.length : Int) 0) = some r := by first | (rw [hy217]; with_reducible exact H) | (have H2_ := (Option.bind_some _ _).symm.trans H; rw [hy217]; with_reducible exact H2_) | (have H2_ := (Option.bind_some _ _).symm.trans H; with_reducible exact H2_) | with_reducible exact H | (rw [hy217]; exact H) | exact H
      have Ny217 := Aside0.mk hy217
      clear hy217
      have H' := Aside0.mk H
      clear H
      go_enter Try.func58, Try.ntmps58
      go_wp2_with (first | ((with_reducible refine gate_dst (N := 11) rfl ?_); refine Kd.R_make Kd.string _ 9 rfl (N := 11) rfl 77 _ _ rfl (l0.length : Int) rfl rfl Try.underlying77 (.string ⟨#[]⟩) 16 info9 rfl (by decide) (by omega) (⟨#[]⟩ : ByteArray) (ok := fun _ => True) (okp := fun _ => True) rfl (fun _ hk => hk) trivial (of_decide_eq_true (by first | (with_reducible assumption) | assumption)) (Nat.le_trans (Nat.mul_le_mul_right _ (of_decide_eq_true (by first | (with_reducible assumption) | assumption) : (l0.length : Int).toNat ≤ 17592186044416)) (by omega)) (Below.refl _ _) (Nat.le_refl _) ?_; intro v218 w5 ho6 hb hg_ hnew_; clear hg_ hnew_; (first | rw [← Ny217.out] at ho6 | (simp only [Int.reduceToNat] at ho6; rw [← Ny217.out] at ho6)); have n0_ := Aside0.mk (Kd.R_lower ho6 (below_size (by repeat (first | (with_reducible first | exact HB.out | apply below_alloc | apply pw_below_drewN | apply below_drew1) | exact HB.out)))); have n1_ := Aside0.mk (below_step (by repeat (first | (with_reducible first | exact HB.out | apply below_alloc | apply pw_below_drewN | apply below_drew1) | exact HB.out)) hb); clear HB; have HO219 := n0_; have HB := n1_; clear n0_ n1_; clear hb ho6))
      go_loopg [14] k (fun kq v14 w' => ∃ (x5_1 : List ByteArray) (x14_1 : Int), v14 = .int .i64 x14_1 ∧ Aside0 (impl_printed.l0 kq l0 x5_1 l0 (l0.length : Int) x14_1 = some r) ∧ Aside0 (kq ≤ k) ∧ Aside0 (Kd.R Kd.string 9 w' w.heap.size (fun _ => True) v218 x5_1) ∧ Aside0 (Below w.heap.size w w'))
      case atStart => exact ⟨(y217), (0), (by first | rfl | (simp; done) | (simp [*]; done) | (rw [Int.tmod_eq_emod_of_nonneg (Int.natCast_nonneg _)]; done)), H', ⟨Nat.le_refl _⟩, ⟨by (with_reducible repeat (first | apply Kd.R_alloc | apply Kd.R_drewN | apply Kd.R_drew)); exact HO219.out⟩, ⟨by repeat (first | (with_reducible first | exact HB.out | apply below_alloc | apply pw_below_drewN | apply below_drew1) | exact HB.out)⟩⟩
      case round =>
        clear H'
        try clear p2
        try clear c3
        try clear c3b0
        try clear c3b1
        try clear c4
        try clear c4b0
        try clear c4b1
        try clear c5
        obtain ⟨x5_1, x14_1, rfl, HA, HK1, HO_5, HB⟩ := hrel
        cases gk with
        | zero => exact absurd HA.out (by simp [impl_printed.l0])
        | succ k1 =>
          have H := HA.out
          clear HA
          simp only [impl_printed.l0] at H
          by_cases c7 : x14_1 < (l0.length : Int)
          · rw [if_pos c7] at H
            have c7b0 : decide (x14_1 < (l0.length : Int)) = true := decide_eq_true c7
            clear c7
            by_cases c8 : 0 ≤ x14_1
            · rw [if_pos c8] at H
              have c8b0 : decide (0 ≤ x14_1) = true := decide_eq_true c8
              clear c8
              by_cases c9 : x14_1 < (l0.length : Int)
              · rw [if_pos c9] at H
                have c9b0 : decide (x14_1 < (l0.length : Int)) = true := decide_eq_true c9
                clear c9
                replace H := Option.bind_eq_some_iff.mp H
                obtain ⟨t223, A100, H⟩ := H
                replace H : ((impl_exprParts.f k1 ((rd_T45 l0 x14_1).f0) ((rd_T45 l0 x14_1).f1) ((rd_T45 l0 x14_1).f2)).bind fun t224 => (if t224 = 0 then (if x14_1 < (x5_1.length : Int) then ((some (x5_1.set (x14_1 : Int).toNat t223 : List ByteArray)).bind fun y225 => (if ((rd_T45 l0 x14_1).f0) = 3 then ((impl_digit.f ((rd_T45 l0 x14_1).f1)).bind fun t226 => (impl_printed.l0 k1 l0 (y225.set (x14_1 : Int).toNat t226) l0 (l0.length : Int) (wrap64 (x14_1 + 1)))) else (impl_printed.l0 k1 l0 y225 l0 (l0.length : Int) (wrap64 (x14_1 + 1))))) else (none)) else (if t224 = 1 then (if 0 ≤ ((rd_T45 l0 x14_1).f1) then (if ((rd_T45 l0 x14_1).f1) < (x5_1.length : Int) then (if t223.size + (rdOf ByteArray.empty x5_1 ((rd_T45 l0 x14_1).f1)).size ≤ 9223372036854775807 then (if x14_1 < (x5_1.length : Int) then (impl_printed.l0 k1 l0 (x5_1.set (x14_1 : Int).toNat (t223 ++ (rdOf ByteArray.empty x5_1 ((rd_T45 l0 x14_1).f1)))) l0 (l0.length : Int) (wrap64 (x14_1 + 1))) else (none)) else (none)) else (none)) else (none)) else (if 0 ≤ ((rd_T45 l0 x14_1).f1) then (if ((rd_T45 l0 x14_1).f1) < (x5_1.length : Int) then (if 1 + (rdOf ByteArray.empty x5_1 ((rd_T45 l0 x14_1).f1)).size ≤ 9223372036854775807 then (if ((⟨#[40]⟩ : ByteArray) ++ (rdOf ByteArray.empty x5_1 ((rd_T45 l0 x14_1).f1))).size + t223.size ≤ 9223372036854775807 then (if 0 ≤ ((rd_T45 l0 x14_1).f2) then (if ((rd_T45 l0 x14_1).f2) < (x5_1.length : Int) then (if (((⟨#[40]⟩ : ByteArray) ++ (rdOf ByteArray.empty x5_1 ((rd_T45 l0 x14_1).f1))) ++ t223).size + (rdOf ByteArray.empty x5_1 ((rd_T45 l0 x14_1).f2)).size ≤ 9223372036854775807 then (if ((((⟨#[40]⟩ : ByteArray) ++ (rdOf ByteArray.empty x5_1 ((rd_T45 l0 x14_1).f1))) ++ t223) ++ (rdOf ByteArray.empty x5_1 ((rd_T45 l0 x14_1).f2))).size + 1 ≤ 9223372036854775807 then (if x14_1 < (x5_1.length : Int) then (impl_printed.l0 k1 l0 (x5_1.set (x14_1 : Int).toNat (((((⟨#[40]⟩ : ByteArray) ++ (rdOf ByteArray.empty x5_1 ((rd_T45 l0 x14_1).f1))) ++ t223) ++ (rdOf ByteArray.empty x5_1 ((rd_T45 l0 x14_1).f2))) ++ (⟨#[41]⟩ : ByteArray))) l0 (l0.length : Int) (wrap64 (x14_1 + 1))) else (none)) else (none)) else (none)) else (none)) else (none)) else (none)) else (none)) else (none)) else (none))))) = some r := H
                have A10 := Aside0.mk A100
                clear A100
                replace H := Option.bind_eq_some_iff.mp H
                obtain ⟨t224, A110, H⟩ := H
                replace H : (if t224 = 0 then (if x14_1 < (x5_1.length : Int) then ((some (x5_1.set (x14_1 : Int).toNat t223 : List ByteArray)).bind fun y225 => (if ((rd_T45 l0 x14_1).f0) = 3 then ((impl_digit.f ((rd_T45 l0 x14_1).f1)).bind fun t226 => (impl_printed.l0 k1 l0 (y225.set (x14_1 : Int).toNat t226) l0 (l0.length : Int) (wrap64 (x14_1 + 1)))) else (impl_printed.l0 k1 l0 y225 l0 (l0.length : Int) (wrap64 (x14_1 + 1))))) else (none)) else (if t224 = 1 then (if 0 ≤ ((rd_T45 l0 x14_1).f1) then (if ((rd_T45 l0 x14_1).f1) < (x5_1.length : Int) then (if t223.size + (rdOf ByteArray.empty x5_1 ((rd_T45 l0 x14_1).f1)).size ≤ 9223372036854775807 then (if x14_1 < (x5_1.length : Int) then (impl_printed.l0 k1 l0 (x5_1.set (x14_1 : Int).toNat (t223 ++ (rdOf ByteArray.empty x5_1 ((rd_T45 l0 x14_1).f1)))) l0 (l0.length : Int) (wrap64 (x14_1 + 1))) else (none)) else (none)) else (none)) else (none)) else (if 0 ≤ ((rd_T45 l0 x14_1).f1) then (if ((rd_T45 l0 x14_1).f1) < (x5_1.length : Int) then (if 1 + (rdOf ByteArray.empty x5_1 ((rd_T45 l0 x14_1).f1)).size ≤ 9223372036854775807 then (if ((⟨#[40]⟩ : ByteArray) ++ (rdOf ByteArray.empty x5_1 ((rd_T45 l0 x14_1).f1))).size + t223.size ≤ 9223372036854775807 then (if 0 ≤ ((rd_T45 l0 x14_1).f2) then (if ((rd_T45 l0 x14_1).f2) < (x5_1.length : Int) then (if (((⟨#[40]⟩ : ByteArray) ++ (rdOf ByteArray.empty x5_1 ((rd_T45 l0 x14_1).f1))) ++ t223).size + (rdOf ByteArray.empty x5_1 ((rd_T45 l0 x14_1).f2)).size ≤ 9223372036854775807 then (if ((((⟨#[40]⟩ : ByteArray) ++ (rdOf ByteArray.empty x5_1 ((rd_T45 l0 x14_1).f1))) ++ t223) ++ (rdOf ByteArray.empty x5_1 ((rd_T45 l0 x14_1).f2))).size + 1 ≤ 9223372036854775807 then (if x14_1 < (x5_1.length : Int) then (impl_printed.l0 k1 l0 (x5_1.set (x14_1 : Int).toNat (((((⟨#[40]⟩ : ByteArray) ++ (rdOf ByteArray.empty x5_1 ((rd_T45 l0 x14_1).f1))) ++ t223) ++ (rdOf ByteArray.empty x5_1 ((rd_T45 l0 x14_1).f2))) ++ (⟨#[41]⟩ : ByteArray))) l0 (l0.length : Int) (wrap64 (x14_1 + 1))) else (none)) else (none)) else (none)) else (none)) else (none)) else (none)) else (none)) else (none)) else (none)))) = some r := H
                have A11 := Aside0.mk A110
                clear A110
                by_cases c12 : t224 = 0
                · rw [if_pos c12] at H
                  have c12b0 : (t224 == 0) = true := beq_iff_eq.mpr c12
                  have c12b1 : (t224 != 0) = false := bne_eq_false_iff_eq.mpr c12
                  clear c12
                  by_cases c13 : x14_1 < (x5_1.length : Int)
                  · rw [if_pos c13] at H
                    have c13b0 : decide (x14_1 < (x5_1.length : Int)) = true := decide_eq_true c13
                    clear c13
                    obtain ⟨y225, hy225⟩ : ∃ y_ : List ByteArray, y_ = (x5_1.set (x14_1 : Int).toNat t223) := ⟨_, rfl⟩
                    replace H : (if ((rd_T45 l0 x14_1).f0) = 3 then ((impl_digit.f ((rd_T45 l0 x14_1).f1)).bind fun t226 => (impl_printed.l0 k1 l0 (y225.set (x14_1 : Int).toNat t226) l0 (l0.length : Int) (wrap64 (x14_1 + 1)))) else (impl_printed.l0 k1 l0 y225 l0 (l0.length : Int) (wrap64 (x14_1 + 1)))) = some r := by first | (rw [hy225]; with_reducible exact H) | (have H2_ := (Option.bind_some _ _).symm.trans H; rw [hy225]; with_reducible exact H2_) | (have H2_ := (Option.bind_some _ _).symm.trans H; with_reducible exact H2_) | with_reducible exact H | (rw [hy225]; exact H) | exact H
                    have Ny225 := Aside0.mk hy225
                    clear hy225
                    by_cases c15 : ((rd_T45 l0 x14_1).f0) = 3
                    · rw [if_pos c15] at H
                      have c15b0 : (((rd_T45 l0 x14_1).f0) == 3) = true := beq_iff_eq.mpr c15
                      have c15b1 : (((rd_T45 l0 x14_1).f0) != 3) = false := bne_eq_false_iff_eq.mpr c15
                      clear c15
                      replace H := Option.bind_eq_some_iff.mp H
                      obtain ⟨t226, A160, H⟩ := H
                      replace H : (impl_printed.l0 k1 l0 (y225.set (x14_1 : Int).toNat t226) l0 (l0.length : Int) (wrap64 (x14_1 + 1))) = some r := H
                      have A16 := Aside0.mk A160
                      clear A160
                      obtain ⟨y227, hy227⟩ : ∃ y_ : List ByteArray, y_ = (y225.set (x14_1 : Int).toNat t226) := ⟨_, rfl⟩
                      replace H : (impl_printed.l0 k1 l0 y227 l0 (l0.length : Int) (wrap64 (x14_1 + 1))) = some r := by first | (rw [hy227]; with_reducible exact H) | (have H2_ := (Option.bind_some _ _).symm.trans H; rw [hy227]; with_reducible exact H2_) | (have H2_ := (Option.bind_some _ _).symm.trans H; with_reducible exact H2_) | with_reducible exact H | (rw [hy227]; exact H) | exact H
                      have Ny227 := Aside0.mk hy227
                      clear hy227
                      have H' := Aside0.mk H
                      clear H
                      have p221 : 0 ≤ (x14_1 : Int) := of_decide_eq_true (by first | (with_reducible assumption) | assumption)
                      have q221 : x14_1 < (l0.length : Int) := of_decide_eq_true (by first | (with_reducible assumption) | assumption)
                      obtain ⟨ad221, e221, hx221_0, hx221_1, hx221_2⟩ := at_T45 HR0.out x14_1 p221 q221
                      cases e221
                      replace hx221_0 := (HB.out.cell (World.block_lt_of_cell? w _ hx221_0)).trans hx221_0
                      replace hx221_1 := (HB.out.cell (World.block_lt_of_cell? w _ hx221_1)).trans hx221_1
                      replace hx221_2 := (HB.out.cell (World.block_lt_of_cell? w _ hx221_2)).trans hx221_2
                      replace p221 := eq_true p221
                      replace q221 := eq_true q221
                      go_wp2_with (first | ((with_reducible refine gate_dst (N := 7) rfl ?_); refine box_event ?hg (N := 7) ?hd (cs := #[.int .i64 0, .int .i64 0, .int .i64 0]) (t := 45) ?hr ?_; (case hd => rfl); (case hg => rfl); (case hr => first | (go_simp; done) | (go_simp; rfl)); intro gb222 hg w18 hbox hb; have n0_ := Aside0.mk (Kd.R_below (by (with_reducible repeat (first | apply Kd.R_alloc | apply Kd.R_drewN | apply Kd.R_drew)); exact HO_5.out) hb); have n1_ := Aside0.mk (below_step (by repeat (first | (with_reducible first | exact HB.out | apply below_alloc | apply pw_below_drewN | apply below_drew1) | exact HB.out)) hb); have n2_ := Aside0.mk (hbox); have n3_ := Aside0.mk ((by rw [hg]; exact (below_size (by repeat (first | (with_reducible first | exact HB.out | apply below_alloc | apply pw_below_drewN | apply below_drew1) | exact HB.out))) : w.heap.size ≤ gb222)); have n4_ := Aside0.mk ((by rw [hg]; exact (below_size (by repeat (first | (with_reducible first | exact HB.out | apply below_alloc | apply pw_below_drewN | apply below_drew1) | exact HB.out))) : w.heap.size ≤ gb222)); clear HO_5; clear HB; have HO_5 := n0_; have HB := n1_; have BK222 := n2_; have GW222 := n3_; have GE222 := n4_; clear n0_ n1_ n2_ n3_ n4_; clear hb hbox hg; have hcz19_0 : w18.cell? ⟨gb222, 0, none⟩ = some (.int .i64 0) := (blk_cell BK222.out 0).trans rfl; have hcz19_1 : w18.cell? ⟨gb222, 1, none⟩ = some (.int .i64 0) := (blk_cell BK222.out 1).trans rfl; have hcz19_2 : w18.cell? ⟨gb222, 2, none⟩ = some (.int .i64 0) := (blk_cell BK222.out 2).trans rfl; have hfz19_0 := blk_frozen BK222.out 0; have hfz19_1 := blk_frozen BK222.out 1; have hfz19_2 := blk_frozen BK222.out 2) | ((with_reducible refine gate_callee (f := 73) rfl ?_); refine goesL_ (some 21) rfl rfl Try.func73 (by kernel_rfl) rfl #[.int .i64 ((rd_T45 l0 x14_1).f0)] rfl (by (try simp only [List.map_toArray, List.map_cons, List.map_nil]); first | done | rfl | (simp only [List.length_drop, List.length_take]; rfl)) ?_; (with_reducible refine (impl_signOf.calls ((rd_T45 l0 x14_1).f0) t223 _ A10.out).mono ?_); rintro e w20 ⟨rfl, hb⟩; refine ⟨_, rfl, ?_⟩; have n0_ := Aside0.mk (Kd.R_below (by (with_reducible repeat (first | apply Kd.R_alloc | apply Kd.R_drewN | apply Kd.R_drew)); exact (Kd.R_mono (Kd.R_far (p := ⟨gb222, 2, none⟩) (Kd.R_far (p := ⟨gb222, 1, none⟩) (Kd.R_far (p := ⟨gb222, 0, none⟩) (Kd.R_types HO_5.out BK222.out (by decide)) (fun _ hk => hk.2) (.int .i64 ((rd_T45 l0 x14_1).f0))) (fun _ hk => hk.2) (.int .i64 ((rd_T45 l0 x14_1).f1))) (fun _ hk => hk.2) (.int .i64 ((rd_T45 l0 x14_1).f2))) (fun _ h_ => h_.1))) hb); have n1_ := Aside0.mk (blk_below (g := gb222) (o := .cells #[.int .i64 ((rd_T45 l0 x14_1).f0), .int .i64 ((rd_T45 l0 x14_1).f1), .int .i64 ((rd_T45 l0 x14_1).f2)] 45 (0, 0)) (by (with_reducible repeat (first | refine blk_drewN ?_ _ | refine blk_drew ?_ | refine blk_alloc ?_ _)); refine blk_put (cs := #[.int .i64 ((rd_T45 l0 x14_1).f0), .int .i64 ((rd_T45 l0 x14_1).f1), .int .i64 0]) ?_ 2 _ rfl; (with_reducible repeat (first | refine blk_drewN ?_ _ | refine blk_drew ?_ | refine blk_alloc ?_ _)); refine blk_put (cs := #[.int .i64 ((rd_T45 l0 x14_1).f0), .int .i64 0, .int .i64 0]) ?_ 1 _ rfl; (with_reducible repeat (first | refine blk_drewN ?_ _ | refine blk_drew ?_ | refine blk_alloc ?_ _)); refine blk_put (cs := #[.int .i64 0, .int .i64 0, .int .i64 0]) ?_ 0 _ rfl; (with_reducible repeat (first | refine blk_drewN ?_ _ | refine blk_drew ?_ | refine blk_alloc ?_ _)); exact BK222.out) hb); have n2_ := Aside0.mk (below_step (by repeat (first | (with_reducible first | exact HB.out | apply below_alloc | apply pw_below_drewN | apply below_drew1 | refine below_set ?_ GE222.out) | exact HB.out)) hb); clear HO_5; clear BK222; clear HB; have HO_5 := n0_; have BK222 := n1_; have HB := n2_; clear n0_ n1_ n2_; (try clear hb); (try clear hb2); (try clear hk); (try clear hi); have hcz21_0 : w20.cell? ⟨gb222, 0, none⟩ = some (.int .i64 ((rd_T45 l0 x14_1).f0)) := (blk_cell BK222.out 0).trans rfl; have hcz21_1 : w20.cell? ⟨gb222, 1, none⟩ = some (.int .i64 ((rd_T45 l0 x14_1).f1)) := (blk_cell BK222.out 1).trans rfl; have hcz21_2 : w20.cell? ⟨gb222, 2, none⟩ = some (.int .i64 ((rd_T45 l0 x14_1).f2)) := (blk_cell BK222.out 2).trans rfl; have hfz21_0 := blk_frozen BK222.out 0; have hfz21_1 := blk_frozen BK222.out 1; have hfz21_2 := blk_frozen BK222.out 2) | (go_at_call 39; (with_reducible refine (impl_exprParts.calls k1 ((rd_T45 l0 x14_1).f0) ((rd_T45 l0 x14_1).f1) ((rd_T45 l0 x14_1).f2) t224 _ A11.out).mono ?_); rintro e w22 ⟨rfl, hb⟩; have n0_ := Aside0.mk (Kd.R_below (by (with_reducible repeat (first | apply Kd.R_alloc | apply Kd.R_drewN | apply Kd.R_drew)); exact HO_5.out) hb); have n1_ := Aside0.mk (blk_below (g := gb222) (o := .cells #[.int .i64 ((rd_T45 l0 x14_1).f0), .int .i64 ((rd_T45 l0 x14_1).f1), .int .i64 ((rd_T45 l0 x14_1).f2)] 45 (0, 0)) (by (with_reducible repeat (first | refine blk_drewN ?_ _ | refine blk_drew ?_ | refine blk_alloc ?_ _)); exact BK222.out) hb); have n2_ := Aside0.mk (below_step (by repeat (first | (with_reducible first | exact HB.out | apply below_alloc | apply pw_below_drewN | apply below_drew1 | refine below_set ?_ GE222.out) | exact HB.out)) hb); clear HO_5; clear BK222; clear HB; have HO_5 := n0_; have BK222 := n1_; have HB := n2_; clear n0_ n1_ n2_; (try clear hb); (try clear hb2); (try clear hk); (try clear hi); have p14 : 0 ≤ (x14_1 : Int) := of_decide_eq_true (by first | (with_reducible assumption) | assumption); have q14 : (x14_1 : Int) < ((x5_1.length : Int) : Int) := of_decide_eq_true (by first | (with_reducible assumption) | assumption); obtain ⟨go14, co14, eo14, gb14, gl14, cl14, HG14⟩ := Kd.R_form HO_5.out (by omega); (first | cases eo14 | (injection eo14 with ea_ en_ ec_; (first | subst ea_ | (injection ea_ with ea_; subst ea_)); subst ec_; clear en_)); have GB14 := Aside0.mk gb14; have GG14 := Aside0.mk HG14; clear gb14 gl14 HG14; obtain ⟨hx14_0, hf14_0⟩ := Kd.R_celln (⟨#[]⟩ : ByteArray) HO_5.out (x14_1 : Int) p14 q14; replace p14 := eq_true p14; replace q14 := eq_true q14; obtain ⟨hy23_, hz23_⟩ := Kd.R_celln (⟨#[]⟩ : ByteArray) HO_5.out (x14_1 : Int) (of_decide_eq_true (by first | (with_reducible assumption) | assumption)) (of_decide_eq_true (by first | (with_reducible assumption) | assumption)); have HP23 := Kd.R_putg HO_5.out (x14_1 : Int) t223) | ((with_reducible refine gate_store (t := 9) (p := 48) rfl ?_); refine store_event (t := 9) (p := 48) (v := ?vo_w24) (w1 := (w22.setCell ⟨go14, (x14_1 : Int).toNat, none⟩ (.string t223))) ?hg ?ho ?hn ?hr ?_; (case ho => rfl); (case hg => rfl); (case hn => rfl); (case hr => first | (go_simp; done) | (go_simp; rfl)); intro w24 hw; have hg : w22.grownBy w24 (some go14) := (by rw [hw]; exact HP23.2); have hp_ : Kd.R Kd.string 9 w24 w.heap.size (fun _ => True) (.slice (some ⟨go14, 0, none⟩) x5_1.length co14) y225 := (by rw [hw, Ny225.out]; exact HP23.1); clear HP23; have n0_ := Aside0.mk (hp_); have n1_ := Aside0.mk (blk_grown (g := gb222) (o := .cells #[.int .i64 ((rd_T45 l0 x14_1).f0), .int .i64 ((rd_T45 l0 x14_1).f1), .int .i64 ((rd_T45 l0 x14_1).f2)] 45 (0, 0)) (by (with_reducible repeat (first | refine blk_drewN ?_ _ | refine blk_drew ?_ | refine blk_alloc ?_ _)); exact BK222.out) hg (Kd.R_ne HO_5.out BK222.out (by decide))); have n2_ := Aside0.mk ((by rw [hw]; exact below_set (HB.out) GB14.out : Below w.heap.size w w24)); clear HO_5; clear BK222; clear HB; have HO_5 := n0_; have BK222 := n1_; have HB := n2_; clear n0_ n1_ n2_; clear hg hw hp_; have hcz25_0 : w24.cell? ⟨gb222, 0, none⟩ = some (.int .i64 ((rd_T45 l0 x14_1).f0)) := (blk_cell BK222.out 0).trans rfl; have hcz25_1 : w24.cell? ⟨gb222, 1, none⟩ = some (.int .i64 ((rd_T45 l0 x14_1).f1)) := (blk_cell BK222.out 1).trans rfl; have hcz25_2 : w24.cell? ⟨gb222, 2, none⟩ = some (.int .i64 ((rd_T45 l0 x14_1).f2)) := (blk_cell BK222.out 2).trans rfl; have hfz25_0 := blk_frozen BK222.out 0; have hfz25_1 := blk_frozen BK222.out 1; have hfz25_2 := blk_frozen BK222.out 2) | ((with_reducible refine gate_callee (f := 74) rfl ?_); refine goesL_ (some 56) rfl rfl Try.func74 (by kernel_rfl) rfl #[.int .i64 ((rd_T45 l0 x14_1).f1)] rfl (by (try simp only [List.map_toArray, List.map_cons, List.map_nil]); first | done | rfl | (simp only [List.length_drop, List.length_take]; rfl)) ?_; (with_reducible refine (impl_digit.calls ((rd_T45 l0 x14_1).f1) t226 _ A16.out).mono ?_); rintro e w26 ⟨rfl, hb⟩; refine ⟨_, rfl, ?_⟩; have n0_ := Aside0.mk (Kd.R_below (by (with_reducible repeat (first | apply Kd.R_alloc | apply Kd.R_drewN | apply Kd.R_drew)); exact HO_5.out) hb); have n1_ := Aside0.mk (blk_below (g := gb222) (o := .cells #[.int .i64 ((rd_T45 l0 x14_1).f0), .int .i64 ((rd_T45 l0 x14_1).f1), .int .i64 ((rd_T45 l0 x14_1).f2)] 45 (0, 0)) (by (with_reducible repeat (first | refine blk_drewN ?_ _ | refine blk_drew ?_ | refine blk_alloc ?_ _)); exact BK222.out) hb); have n2_ := Aside0.mk (below_step (by repeat (first | (with_reducible first | exact HB.out | apply below_alloc | apply pw_below_drewN | apply below_drew1 | refine below_set ?_ GE222.out) | exact HB.out)) hb); clear HO_5; clear BK222; clear HB; have HO_5 := n0_; have BK222 := n1_; have HB := n2_; clear n0_ n1_ n2_; (try clear hb); (try clear hb2); (try clear hk); (try clear hi); have p17 : 0 ≤ (x14_1 : Int) := of_decide_eq_true (by first | (with_reducible assumption) | assumption); have q17 : (x14_1 : Int) < ((x5_1.length : Int) : Int) := of_decide_eq_true (by first | (with_reducible assumption) | assumption); obtain ⟨hx17_0, hf17_0⟩ := Kd.R_celln (⟨#[]⟩ : ByteArray) HO_5.out (x14_1 : Int) p17 q17; replace p17 := eq_true p17; replace q17 := eq_true q17; obtain ⟨hy27_, hz27_⟩ := Kd.R_celln (⟨#[]⟩ : ByteArray) HO_5.out (x14_1 : Int) (of_decide_eq_true (by first | (with_reducible assumption) | assumption)) (of_decide_eq_true (by first | (with_reducible assumption) | assumption)); have HP27 := Kd.R_putg HO_5.out (x14_1 : Int) t226) | ((with_reducible refine gate_store (t := 9) (p := 57) rfl ?_); refine store_event (t := 9) (p := 57) (v := ?vo_w28) (w1 := (w26.setCell ⟨go14, (x14_1 : Int).toNat, none⟩ (.string t226))) ?hg ?ho ?hn ?hr ?_; (case ho => rfl); (case hg => rfl); (case hn => rfl); (case hr => first | (go_simp; done) | (go_simp; rfl)); intro w28 hw; have hg : w26.grownBy w28 (some go14) := (by rw [hw]; exact HP27.2); have hp_ : Kd.R Kd.string 9 w28 w.heap.size (fun _ => True) (.slice (some ⟨go14, 0, none⟩) x5_1.length co14) y227 := (by rw [hw, Ny227.out]; exact HP27.1); clear HP27; have n0_ := Aside0.mk (hp_); have n1_ := Aside0.mk (blk_grown (g := gb222) (o := .cells #[.int .i64 ((rd_T45 l0 x14_1).f0), .int .i64 ((rd_T45 l0 x14_1).f1), .int .i64 ((rd_T45 l0 x14_1).f2)] 45 (0, 0)) (by (with_reducible repeat (first | refine blk_drewN ?_ _ | refine blk_drew ?_ | refine blk_alloc ?_ _)); exact BK222.out) hg (Kd.R_ne HO_5.out BK222.out (by decide))); have n2_ := Aside0.mk ((by rw [hw]; exact below_set (HB.out) GB14.out : Below w.heap.size w w28)); clear HO_5; clear BK222; clear HB; have HO_5 := n0_; have BK222 := n1_; have HB := n2_; clear n0_ n1_ n2_; clear hg hw hp_))
                      go_roundg k1
                      case measure => have := HK1.out; omega
                      case rel => exact ⟨(y227), (wrap64 (x14_1 + 1)), (by first | rfl | (simp; done) | (simp [*]; done) | (rw [Int.tmod_eq_emod_of_nonneg (Int.natCast_nonneg _)]; done)), H', ⟨by have := HK1.out; omega⟩, ⟨by (with_reducible repeat (first | apply Kd.R_alloc | apply Kd.R_drewN | apply Kd.R_drew)); exact HO_5.out⟩, ⟨by repeat (first | (with_reducible first | exact HB.out | apply below_alloc | apply pw_below_drewN | apply below_drew1 | refine below_set ?_ GE222.out) | exact HB.out)⟩⟩
                    · rw [if_neg c15] at H
                      have c15b0 : (((rd_T45 l0 x14_1).f0) == 3) = false := beq_eq_false_iff_ne.mpr c15
                      have c15b1 : (((rd_T45 l0 x14_1).f0) != 3) = true := bne_iff_ne.mpr c15
                      have H' := Aside0.mk H
                      clear H
                      have p221 : 0 ≤ (x14_1 : Int) := of_decide_eq_true (by first | (with_reducible assumption) | assumption)
                      have q221 : x14_1 < (l0.length : Int) := of_decide_eq_true (by first | (with_reducible assumption) | assumption)
                      obtain ⟨ad221, e221, hx221_0, hx221_1, hx221_2⟩ := at_T45 HR0.out x14_1 p221 q221
                      cases e221
                      replace hx221_0 := (HB.out.cell (World.block_lt_of_cell? w _ hx221_0)).trans hx221_0
                      replace hx221_1 := (HB.out.cell (World.block_lt_of_cell? w _ hx221_1)).trans hx221_1
                      replace hx221_2 := (HB.out.cell (World.block_lt_of_cell? w _ hx221_2)).trans hx221_2
                      replace p221 := eq_true p221
                      replace q221 := eq_true q221
                      go_wp2_with (first | ((with_reducible refine gate_dst (N := 7) rfl ?_); refine box_event ?hg (N := 7) ?hd (cs := #[.int .i64 0, .int .i64 0, .int .i64 0]) (t := 45) ?hr ?_; (case hd => rfl); (case hg => rfl); (case hr => first | (go_simp; done) | (go_simp; rfl)); intro gb222 hg w29 hbox hb; have n0_ := Aside0.mk (Kd.R_below (by (with_reducible repeat (first | apply Kd.R_alloc | apply Kd.R_drewN | apply Kd.R_drew)); exact HO_5.out) hb); have n1_ := Aside0.mk (below_step (by repeat (first | (with_reducible first | exact HB.out | apply below_alloc | apply pw_below_drewN | apply below_drew1) | exact HB.out)) hb); have n2_ := Aside0.mk (hbox); have n3_ := Aside0.mk ((by rw [hg]; exact (below_size (by repeat (first | (with_reducible first | exact HB.out | apply below_alloc | apply pw_below_drewN | apply below_drew1) | exact HB.out))) : w.heap.size ≤ gb222)); have n4_ := Aside0.mk ((by rw [hg]; exact (below_size (by repeat (first | (with_reducible first | exact HB.out | apply below_alloc | apply pw_below_drewN | apply below_drew1) | exact HB.out))) : w.heap.size ≤ gb222)); clear HO_5; clear HB; have HO_5 := n0_; have HB := n1_; have BK222 := n2_; have GW222 := n3_; have GE222 := n4_; clear n0_ n1_ n2_ n3_ n4_; clear hb hbox hg; have hcz30_0 : w29.cell? ⟨gb222, 0, none⟩ = some (.int .i64 0) := (blk_cell BK222.out 0).trans rfl; have hcz30_1 : w29.cell? ⟨gb222, 1, none⟩ = some (.int .i64 0) := (blk_cell BK222.out 1).trans rfl; have hcz30_2 : w29.cell? ⟨gb222, 2, none⟩ = some (.int .i64 0) := (blk_cell BK222.out 2).trans rfl; have hfz30_0 := blk_frozen BK222.out 0; have hfz30_1 := blk_frozen BK222.out 1; have hfz30_2 := blk_frozen BK222.out 2) | ((with_reducible refine gate_callee (f := 73) rfl ?_); refine goesL_ (some 21) rfl rfl Try.func73 (by kernel_rfl) rfl #[.int .i64 ((rd_T45 l0 x14_1).f0)] rfl (by (try simp only [List.map_toArray, List.map_cons, List.map_nil]); first | done | rfl | (simp only [List.length_drop, List.length_take]; rfl)) ?_; (with_reducible refine (impl_signOf.calls ((rd_T45 l0 x14_1).f0) t223 _ A10.out).mono ?_); rintro e w31 ⟨rfl, hb⟩; refine ⟨_, rfl, ?_⟩; have n0_ := Aside0.mk (Kd.R_below (by (with_reducible repeat (first | apply Kd.R_alloc | apply Kd.R_drewN | apply Kd.R_drew)); exact (Kd.R_mono (Kd.R_far (p := ⟨gb222, 2, none⟩) (Kd.R_far (p := ⟨gb222, 1, none⟩) (Kd.R_far (p := ⟨gb222, 0, none⟩) (Kd.R_types HO_5.out BK222.out (by decide)) (fun _ hk => hk.2) (.int .i64 ((rd_T45 l0 x14_1).f0))) (fun _ hk => hk.2) (.int .i64 ((rd_T45 l0 x14_1).f1))) (fun _ hk => hk.2) (.int .i64 ((rd_T45 l0 x14_1).f2))) (fun _ h_ => h_.1))) hb); have n1_ := Aside0.mk (blk_below (g := gb222) (o := .cells #[.int .i64 ((rd_T45 l0 x14_1).f0), .int .i64 ((rd_T45 l0 x14_1).f1), .int .i64 ((rd_T45 l0 x14_1).f2)] 45 (0, 0)) (by (with_reducible repeat (first | refine blk_drewN ?_ _ | refine blk_drew ?_ | refine blk_alloc ?_ _)); refine blk_put (cs := #[.int .i64 ((rd_T45 l0 x14_1).f0), .int .i64 ((rd_T45 l0 x14_1).f1), .int .i64 0]) ?_ 2 _ rfl; (with_reducible repeat (first | refine blk_drewN ?_ _ | refine blk_drew ?_ | refine blk_alloc ?_ _)); refine blk_put (cs := #[.int .i64 ((rd_T45 l0 x14_1).f0), .int .i64 0, .int .i64 0]) ?_ 1 _ rfl; (with_reducible repeat (first | refine blk_drewN ?_ _ | refine blk_drew ?_ | refine blk_alloc ?_ _)); refine blk_put (cs := #[.int .i64 0, .int .i64 0, .int .i64 0]) ?_ 0 _ rfl; (with_reducible repeat (first | refine blk_drewN ?_ _ | refine blk_drew ?_ | refine blk_alloc ?_ _)); exact BK222.out) hb); have n2_ := Aside0.mk (below_step (by repeat (first | (with_reducible first | exact HB.out | apply below_alloc | apply pw_below_drewN | apply below_drew1 | refine below_set ?_ GE222.out) | exact HB.out)) hb); clear HO_5; clear BK222; clear HB; have HO_5 := n0_; have BK222 := n1_; have HB := n2_; clear n0_ n1_ n2_; (try clear hb); (try clear hb2); (try clear hk); (try clear hi); have hcz32_0 : w31.cell? ⟨gb222, 0, none⟩ = some (.int .i64 ((rd_T45 l0 x14_1).f0)) := (blk_cell BK222.out 0).trans rfl; have hcz32_1 : w31.cell? ⟨gb222, 1, none⟩ = some (.int .i64 ((rd_T45 l0 x14_1).f1)) := (blk_cell BK222.out 1).trans rfl; have hcz32_2 : w31.cell? ⟨gb222, 2, none⟩ = some (.int .i64 ((rd_T45 l0 x14_1).f2)) := (blk_cell BK222.out 2).trans rfl; have hfz32_0 := blk_frozen BK222.out 0; have hfz32_1 := blk_frozen BK222.out 1; have hfz32_2 := blk_frozen BK222.out 2) | (go_at_call 39; (with_reducible refine (impl_exprParts.calls k1 ((rd_T45 l0 x14_1).f0) ((rd_T45 l0 x14_1).f1) ((rd_T45 l0 x14_1).f2) t224 _ A11.out).mono ?_); rintro e w33 ⟨rfl, hb⟩; have n0_ := Aside0.mk (Kd.R_below (by (with_reducible repeat (first | apply Kd.R_alloc | apply Kd.R_drewN | apply Kd.R_drew)); exact HO_5.out) hb); have n1_ := Aside0.mk (blk_below (g := gb222) (o := .cells #[.int .i64 ((rd_T45 l0 x14_1).f0), .int .i64 ((rd_T45 l0 x14_1).f1), .int .i64 ((rd_T45 l0 x14_1).f2)] 45 (0, 0)) (by (with_reducible repeat (first | refine blk_drewN ?_ _ | refine blk_drew ?_ | refine blk_alloc ?_ _)); exact BK222.out) hb); have n2_ := Aside0.mk (below_step (by repeat (first | (with_reducible first | exact HB.out | apply below_alloc | apply pw_below_drewN | apply below_drew1 | refine below_set ?_ GE222.out) | exact HB.out)) hb); clear HO_5; clear BK222; clear HB; have HO_5 := n0_; have BK222 := n1_; have HB := n2_; clear n0_ n1_ n2_; (try clear hb); (try clear hb2); (try clear hk); (try clear hi); have p14 : 0 ≤ (x14_1 : Int) := of_decide_eq_true (by first | (with_reducible assumption) | assumption); have q14 : (x14_1 : Int) < ((x5_1.length : Int) : Int) := of_decide_eq_true (by first | (with_reducible assumption) | assumption); obtain ⟨go14, co14, eo14, gb14, gl14, cl14, HG14⟩ := Kd.R_form HO_5.out (by omega); (first | cases eo14 | (injection eo14 with ea_ en_ ec_; (first | subst ea_ | (injection ea_ with ea_; subst ea_)); subst ec_; clear en_)); have GB14 := Aside0.mk gb14; have GG14 := Aside0.mk HG14; clear gb14 gl14 HG14; obtain ⟨hx14_0, hf14_0⟩ := Kd.R_celln (⟨#[]⟩ : ByteArray) HO_5.out (x14_1 : Int) p14 q14; replace p14 := eq_true p14; replace q14 := eq_true q14; obtain ⟨hy34_, hz34_⟩ := Kd.R_celln (⟨#[]⟩ : ByteArray) HO_5.out (x14_1 : Int) (of_decide_eq_true (by first | (with_reducible assumption) | assumption)) (of_decide_eq_true (by first | (with_reducible assumption) | assumption)); have HP34 := Kd.R_putg HO_5.out (x14_1 : Int) t223) | ((with_reducible refine gate_store (t := 9) (p := 48) rfl ?_); refine store_event (t := 9) (p := 48) (v := ?vo_w35) (w1 := (w33.setCell ⟨go14, (x14_1 : Int).toNat, none⟩ (.string t223))) ?hg ?ho ?hn ?hr ?_; (case ho => rfl); (case hg => rfl); (case hn => rfl); (case hr => first | (go_simp; done) | (go_simp; rfl)); intro w35 hw; have hg : w33.grownBy w35 (some go14) := (by rw [hw]; exact HP34.2); have hp_ : Kd.R Kd.string 9 w35 w.heap.size (fun _ => True) (.slice (some ⟨go14, 0, none⟩) x5_1.length co14) y225 := (by rw [hw, Ny225.out]; exact HP34.1); clear HP34; have n0_ := Aside0.mk (hp_); have n1_ := Aside0.mk (blk_grown (g := gb222) (o := .cells #[.int .i64 ((rd_T45 l0 x14_1).f0), .int .i64 ((rd_T45 l0 x14_1).f1), .int .i64 ((rd_T45 l0 x14_1).f2)] 45 (0, 0)) (by (with_reducible repeat (first | refine blk_drewN ?_ _ | refine blk_drew ?_ | refine blk_alloc ?_ _)); exact BK222.out) hg (Kd.R_ne HO_5.out BK222.out (by decide))); have n2_ := Aside0.mk ((by rw [hw]; exact below_set (HB.out) GB14.out : Below w.heap.size w w35)); clear HO_5; clear BK222; clear HB; have HO_5 := n0_; have BK222 := n1_; have HB := n2_; clear n0_ n1_ n2_; clear hg hw hp_; have hcz36_0 : w35.cell? ⟨gb222, 0, none⟩ = some (.int .i64 ((rd_T45 l0 x14_1).f0)) := (blk_cell BK222.out 0).trans rfl; have hcz36_1 : w35.cell? ⟨gb222, 1, none⟩ = some (.int .i64 ((rd_T45 l0 x14_1).f1)) := (blk_cell BK222.out 1).trans rfl; have hcz36_2 : w35.cell? ⟨gb222, 2, none⟩ = some (.int .i64 ((rd_T45 l0 x14_1).f2)) := (blk_cell BK222.out 2).trans rfl; have hfz36_0 := blk_frozen BK222.out 0; have hfz36_1 := blk_frozen BK222.out 1; have hfz36_2 := blk_frozen BK222.out 2))
                      go_roundg k1
                      case measure => have := HK1.out; omega
                      case rel => exact ⟨(y225), (wrap64 (x14_1 + 1)), (by first | rfl | (simp; done) | (simp [*]; done) | (rw [Int.tmod_eq_emod_of_nonneg (Int.natCast_nonneg _)]; done)), H', ⟨by have := HK1.out; omega⟩, ⟨by (with_reducible repeat (first | apply Kd.R_alloc | apply Kd.R_drewN | apply Kd.R_drew)); exact HO_5.out⟩, ⟨by repeat (first | (with_reducible first | exact HB.out | apply below_alloc | apply pw_below_drewN | apply below_drew1 | refine below_set ?_ GE222.out) | exact HB.out)⟩⟩
                  · rw [if_neg c13] at H
                    exact absurd H (by simp)
                · rw [if_neg c12] at H
                  have c12b0 : (t224 == 0) = false := beq_eq_false_iff_ne.mpr c12
                  have c12b1 : (t224 != 0) = true := bne_iff_ne.mpr c12
                  by_cases c37 : t224 = 1
                  · rw [if_pos c37] at H
                    have c37b0 : (t224 == 1) = true := beq_iff_eq.mpr c37
                    have c37b1 : (t224 != 1) = false := bne_eq_false_iff_eq.mpr c37
                    clear c37
                    by_cases c38 : 0 ≤ ((rd_T45 l0 x14_1).f1)
                    · rw [if_pos c38] at H
                      have c38b0 : decide (0 ≤ ((rd_T45 l0 x14_1).f1)) = true := decide_eq_true c38
                      clear c38
                      by_cases c39 : ((rd_T45 l0 x14_1).f1) < (x5_1.length : Int)
                      · rw [if_pos c39] at H
                        have c39b0 : decide (((rd_T45 l0 x14_1).f1) < (x5_1.length : Int)) = true := decide_eq_true c39
                        clear c39
                        by_cases c40 : t223.size + (rdOf ByteArray.empty x5_1 ((rd_T45 l0 x14_1).f1)).size ≤ 9223372036854775807
                        · rw [if_pos c40] at H
                          have c40b0 := eq_true c40
                          have c40b1 : decide (t223.size + (rdOf ByteArray.empty x5_1 ((rd_T45 l0 x14_1).f1)).size ≤ 9223372036854775807) = true := decide_eq_true c40
                          try have c40b2 : (9223372036854775807 < t223.size + (rdOf ByteArray.empty x5_1 ((rd_T45 l0 x14_1).f1)).size) = False := eq_false (Nat.not_lt.2 c40)
                          by_cases c41 : x14_1 < (x5_1.length : Int)
                          · rw [if_pos c41] at H
                            have c41b0 : decide (x14_1 < (x5_1.length : Int)) = true := decide_eq_true c41
                            clear c41
                            obtain ⟨y229, hy229⟩ : ∃ y_ : List ByteArray, y_ = (x5_1.set (x14_1 : Int).toNat (t223 ++ (rdOf ByteArray.empty x5_1 ((rd_T45 l0 x14_1).f1)))) := ⟨_, rfl⟩
                            replace H : (impl_printed.l0 k1 l0 y229 l0 (l0.length : Int) (wrap64 (x14_1 + 1))) = some r := by first | (rw [hy229]; with_reducible exact H) | (have H2_ := (Option.bind_some _ _).symm.trans H; rw [hy229]; with_reducible exact H2_) | (have H2_ := (Option.bind_some _ _).symm.trans H; with_reducible exact H2_) | with_reducible exact H | (rw [hy229]; exact H) | exact H
                            have Ny229 := Aside0.mk hy229
                            clear hy229
                            have H' := Aside0.mk H
                            clear H
                            have p221 : 0 ≤ (x14_1 : Int) := of_decide_eq_true (by first | (with_reducible assumption) | assumption)
                            have q221 : x14_1 < (l0.length : Int) := of_decide_eq_true (by first | (with_reducible assumption) | assumption)
                            obtain ⟨ad221, e221, hx221_0, hx221_1, hx221_2⟩ := at_T45 HR0.out x14_1 p221 q221
                            cases e221
                            replace hx221_0 := (HB.out.cell (World.block_lt_of_cell? w _ hx221_0)).trans hx221_0
                            replace hx221_1 := (HB.out.cell (World.block_lt_of_cell? w _ hx221_1)).trans hx221_1
                            replace hx221_2 := (HB.out.cell (World.block_lt_of_cell? w _ hx221_2)).trans hx221_2
                            replace p221 := eq_true p221
                            replace q221 := eq_true q221
                            go_wp2_with (first | ((with_reducible refine gate_dst (N := 7) rfl ?_); refine box_event ?hg (N := 7) ?hd (cs := #[.int .i64 0, .int .i64 0, .int .i64 0]) (t := 45) ?hr ?_; (case hd => rfl); (case hg => rfl); (case hr => first | (go_simp; done) | (go_simp; rfl)); intro gb222 hg w43 hbox hb; have n0_ := Aside0.mk (Kd.R_below (by (with_reducible repeat (first | apply Kd.R_alloc | apply Kd.R_drewN | apply Kd.R_drew)); exact HO_5.out) hb); have n1_ := Aside0.mk (below_step (by repeat (first | (with_reducible first | exact HB.out | apply below_alloc | apply pw_below_drewN | apply below_drew1) | exact HB.out)) hb); have n2_ := Aside0.mk (hbox); have n3_ := Aside0.mk ((by rw [hg]; exact (below_size (by repeat (first | (with_reducible first | exact HB.out | apply below_alloc | apply pw_below_drewN | apply below_drew1) | exact HB.out))) : w.heap.size ≤ gb222)); have n4_ := Aside0.mk ((by rw [hg]; exact (below_size (by repeat (first | (with_reducible first | exact HB.out | apply below_alloc | apply pw_below_drewN | apply below_drew1) | exact HB.out))) : w.heap.size ≤ gb222)); clear HO_5; clear HB; have HO_5 := n0_; have HB := n1_; have BK222 := n2_; have GW222 := n3_; have GE222 := n4_; clear n0_ n1_ n2_ n3_ n4_; clear hb hbox hg; have hcz44_0 : w43.cell? ⟨gb222, 0, none⟩ = some (.int .i64 0) := (blk_cell BK222.out 0).trans rfl; have hcz44_1 : w43.cell? ⟨gb222, 1, none⟩ = some (.int .i64 0) := (blk_cell BK222.out 1).trans rfl; have hcz44_2 : w43.cell? ⟨gb222, 2, none⟩ = some (.int .i64 0) := (blk_cell BK222.out 2).trans rfl; have hfz44_0 := blk_frozen BK222.out 0; have hfz44_1 := blk_frozen BK222.out 1; have hfz44_2 := blk_frozen BK222.out 2) | ((with_reducible refine gate_callee (f := 73) rfl ?_); refine goesL_ (some 21) rfl rfl Try.func73 (by kernel_rfl) rfl #[.int .i64 ((rd_T45 l0 x14_1).f0)] rfl (by (try simp only [List.map_toArray, List.map_cons, List.map_nil]); first | done | rfl | (simp only [List.length_drop, List.length_take]; rfl)) ?_; (with_reducible refine (impl_signOf.calls ((rd_T45 l0 x14_1).f0) t223 _ A10.out).mono ?_); rintro e w45 ⟨rfl, hb⟩; refine ⟨_, rfl, ?_⟩; have n0_ := Aside0.mk (Kd.R_below (by (with_reducible repeat (first | apply Kd.R_alloc | apply Kd.R_drewN | apply Kd.R_drew)); exact (Kd.R_mono (Kd.R_far (p := ⟨gb222, 2, none⟩) (Kd.R_far (p := ⟨gb222, 1, none⟩) (Kd.R_far (p := ⟨gb222, 0, none⟩) (Kd.R_types HO_5.out BK222.out (by decide)) (fun _ hk => hk.2) (.int .i64 ((rd_T45 l0 x14_1).f0))) (fun _ hk => hk.2) (.int .i64 ((rd_T45 l0 x14_1).f1))) (fun _ hk => hk.2) (.int .i64 ((rd_T45 l0 x14_1).f2))) (fun _ h_ => h_.1))) hb); have n1_ := Aside0.mk (blk_below (g := gb222) (o := .cells #[.int .i64 ((rd_T45 l0 x14_1).f0), .int .i64 ((rd_T45 l0 x14_1).f1), .int .i64 ((rd_T45 l0 x14_1).f2)] 45 (0, 0)) (by (with_reducible repeat (first | refine blk_drewN ?_ _ | refine blk_drew ?_ | refine blk_alloc ?_ _)); refine blk_put (cs := #[.int .i64 ((rd_T45 l0 x14_1).f0), .int .i64 ((rd_T45 l0 x14_1).f1), .int .i64 0]) ?_ 2 _ rfl; (with_reducible repeat (first | refine blk_drewN ?_ _ | refine blk_drew ?_ | refine blk_alloc ?_ _)); refine blk_put (cs := #[.int .i64 ((rd_T45 l0 x14_1).f0), .int .i64 0, .int .i64 0]) ?_ 1 _ rfl; (with_reducible repeat (first | refine blk_drewN ?_ _ | refine blk_drew ?_ | refine blk_alloc ?_ _)); refine blk_put (cs := #[.int .i64 0, .int .i64 0, .int .i64 0]) ?_ 0 _ rfl; (with_reducible repeat (first | refine blk_drewN ?_ _ | refine blk_drew ?_ | refine blk_alloc ?_ _)); exact BK222.out) hb); have n2_ := Aside0.mk (below_step (by repeat (first | (with_reducible first | exact HB.out | apply below_alloc | apply pw_below_drewN | apply below_drew1 | refine below_set ?_ GE222.out) | exact HB.out)) hb); clear HO_5; clear BK222; clear HB; have HO_5 := n0_; have BK222 := n1_; have HB := n2_; clear n0_ n1_ n2_; (try clear hb); (try clear hb2); (try clear hk); (try clear hi); have hcz46_0 : w45.cell? ⟨gb222, 0, none⟩ = some (.int .i64 ((rd_T45 l0 x14_1).f0)) := (blk_cell BK222.out 0).trans rfl; have hcz46_1 : w45.cell? ⟨gb222, 1, none⟩ = some (.int .i64 ((rd_T45 l0 x14_1).f1)) := (blk_cell BK222.out 1).trans rfl; have hcz46_2 : w45.cell? ⟨gb222, 2, none⟩ = some (.int .i64 ((rd_T45 l0 x14_1).f2)) := (blk_cell BK222.out 2).trans rfl; have hfz46_0 := blk_frozen BK222.out 0; have hfz46_1 := blk_frozen BK222.out 1; have hfz46_2 := blk_frozen BK222.out 2) | (go_at_call 39; (with_reducible refine (impl_exprParts.calls k1 ((rd_T45 l0 x14_1).f0) ((rd_T45 l0 x14_1).f1) ((rd_T45 l0 x14_1).f2) t224 _ A11.out).mono ?_); rintro e w47 ⟨rfl, hb⟩; have n0_ := Aside0.mk (Kd.R_below (by (with_reducible repeat (first | apply Kd.R_alloc | apply Kd.R_drewN | apply Kd.R_drew)); exact HO_5.out) hb); have n1_ := Aside0.mk (blk_below (g := gb222) (o := .cells #[.int .i64 ((rd_T45 l0 x14_1).f0), .int .i64 ((rd_T45 l0 x14_1).f1), .int .i64 ((rd_T45 l0 x14_1).f2)] 45 (0, 0)) (by (with_reducible repeat (first | refine blk_drewN ?_ _ | refine blk_drew ?_ | refine blk_alloc ?_ _)); exact BK222.out) hb); have n2_ := Aside0.mk (below_step (by repeat (first | (with_reducible first | exact HB.out | apply below_alloc | apply pw_below_drewN | apply below_drew1 | refine below_set ?_ GE222.out) | exact HB.out)) hb); clear HO_5; clear BK222; clear HB; have HO_5 := n0_; have BK222 := n1_; have HB := n2_; clear n0_ n1_ n2_; (try clear hb); (try clear hb2); (try clear hk); (try clear hi); have hcz48_0 : w47.cell? ⟨gb222, 0, none⟩ = some (.int .i64 ((rd_T45 l0 x14_1).f0)) := (blk_cell BK222.out 0).trans rfl; have hcz48_1 : w47.cell? ⟨gb222, 1, none⟩ = some (.int .i64 ((rd_T45 l0 x14_1).f1)) := (blk_cell BK222.out 1).trans rfl; have hcz48_2 : w47.cell? ⟨gb222, 2, none⟩ = some (.int .i64 ((rd_T45 l0 x14_1).f2)) := (blk_cell BK222.out 2).trans rfl; have hfz48_0 := blk_frozen BK222.out 0; have hfz48_1 := blk_frozen BK222.out 1; have hfz48_2 := blk_frozen BK222.out 2; obtain ⟨Ao49, co49, eo49⟩ := Kd.R_slice HO_5.out; subst eo49; have p228 : 0 ≤ (((rd_T45 l0 x14_1).f1) : Int) := of_decide_eq_true (by first | (with_reducible assumption) | assumption); have q228 : ((rd_T45 l0 x14_1).f1) < (x5_1.length : Int) := of_decide_eq_true (by first | (with_reducible assumption) | assumption); obtain ⟨ad228, e228, hx228_0⟩ := Kd.at_string (Kd.R_reads' HO_5.out).2.2 ((rd_T45 l0 x14_1).f1) p228 q228; cases e228; replace p228 := eq_true p228; replace q228 := eq_true q228; have p42 : 0 ≤ (x14_1 : Int) := of_decide_eq_true (by first | (with_reducible assumption) | assumption); have q42 : (x14_1 : Int) < ((x5_1.length : Int) : Int) := of_decide_eq_true (by first | (with_reducible assumption) | assumption); obtain ⟨go42, co42, eo42, gb42, gl42, cl42, HG42⟩ := Kd.R_form HO_5.out (by omega); (first | cases eo42 | (injection eo42 with ea_ en_ ec_; (first | subst ea_ | (injection ea_ with ea_; subst ea_)); subst ec_; clear en_)); have GB42 := Aside0.mk gb42; have GG42 := Aside0.mk HG42; clear gb42 gl42 HG42; (first | simp only [add_plain] at hx228_0 | skip); obtain ⟨hx42_0, hf42_0⟩ := Kd.R_celln (⟨#[]⟩ : ByteArray) HO_5.out (x14_1 : Int) p42 q42; replace p42 := eq_true p42; replace q42 := eq_true q42; obtain ⟨hy50_, hz50_⟩ := Kd.R_celln (⟨#[]⟩ : ByteArray) HO_5.out (x14_1 : Int) (of_decide_eq_true (by first | (with_reducible assumption) | assumption)) (of_decide_eq_true (by first | (with_reducible assumption) | assumption)); have HP50 := Kd.R_putg HO_5.out (x14_1 : Int) (t223 ++ (rdOf ByteArray.empty x5_1 ((rd_T45 l0 x14_1).f1)))) | ((with_reducible refine gate_store (t := 9) (p := 69) rfl ?_); refine store_event (t := 9) (p := 69) (v := ?vo_w51) (w1 := (w47.setCell ⟨go42, (x14_1 : Int).toNat, none⟩ (.string (t223 ++ (rdOf ByteArray.empty x5_1 ((rd_T45 l0 x14_1).f1)))))) ?hg ?ho ?hn ?hr ?_; (case ho => rfl); (case hg => rfl); (case hn => rfl); (case hr => first | (go_simp; done) | (go_simp; rfl)); intro w51 hw; have hg : w47.grownBy w51 (some go42) := (by rw [hw]; exact HP50.2); have hp_ : Kd.R Kd.string 9 w51 w.heap.size (fun _ => True) (.slice (some ⟨go42, 0, none⟩) x5_1.length co49) y229 := (by rw [hw, Ny229.out]; exact HP50.1); clear HP50; have n0_ := Aside0.mk (hp_); have n1_ := Aside0.mk (blk_grown (g := gb222) (o := .cells #[.int .i64 ((rd_T45 l0 x14_1).f0), .int .i64 ((rd_T45 l0 x14_1).f1), .int .i64 ((rd_T45 l0 x14_1).f2)] 45 (0, 0)) (by (with_reducible repeat (first | refine blk_drewN ?_ _ | refine blk_drew ?_ | refine blk_alloc ?_ _)); exact BK222.out) hg (Kd.R_ne HO_5.out BK222.out (by decide))); have n2_ := Aside0.mk ((by rw [hw]; exact below_set (HB.out) GB42.out : Below w.heap.size w w51)); clear HO_5; clear BK222; clear HB; have HO_5 := n0_; have BK222 := n1_; have HB := n2_; clear n0_ n1_ n2_; clear hg hw hp_))
                            go_roundg k1
                            case measure => have := HK1.out; omega
                            case rel => exact ⟨(y229), (wrap64 (x14_1 + 1)), (by first | rfl | (simp; done) | (simp [*]; done) | (rw [Int.tmod_eq_emod_of_nonneg (Int.natCast_nonneg _)]; done)), H', ⟨by have := HK1.out; omega⟩, ⟨by (with_reducible repeat (first | apply Kd.R_alloc | apply Kd.R_drewN | apply Kd.R_drew)); exact HO_5.out⟩, ⟨by repeat (first | (with_reducible first | exact HB.out | apply below_alloc | apply pw_below_drewN | apply below_drew1 | refine below_set ?_ GE222.out) | exact HB.out)⟩⟩
                          · rw [if_neg c41] at H
                            exact absurd H (by simp)
                        · rw [if_neg c40] at H
                          exact absurd H (by simp)
                      · rw [if_neg c39] at H
                        exact absurd H (by simp)
                    · rw [if_neg c38] at H
                      exact absurd H (by simp)
                  · rw [if_neg c37] at H
                    have c37b0 : (t224 == 1) = false := beq_eq_false_iff_ne.mpr c37
                    have c37b1 : (t224 != 1) = true := bne_iff_ne.mpr c37
                    by_cases c52 : 0 ≤ ((rd_T45 l0 x14_1).f1)
                    · rw [if_pos c52] at H
                      have c52b0 : decide (0 ≤ ((rd_T45 l0 x14_1).f1)) = true := decide_eq_true c52
                      clear c52
                      by_cases c53 : ((rd_T45 l0 x14_1).f1) < (x5_1.length : Int)
                      · rw [if_pos c53] at H
                        have c53b0 : decide (((rd_T45 l0 x14_1).f1) < (x5_1.length : Int)) = true := decide_eq_true c53
                        clear c53
                        by_cases c54 : 1 + (rdOf ByteArray.empty x5_1 ((rd_T45 l0 x14_1).f1)).size ≤ 9223372036854775807
                        · rw [if_pos c54] at H
                          have c54b0 := eq_true c54
                          have c54b1 : decide (1 + (rdOf ByteArray.empty x5_1 ((rd_T45 l0 x14_1).f1)).size ≤ 9223372036854775807) = true := decide_eq_true c54
                          try have c54b2 : (9223372036854775807 < 1 + (rdOf ByteArray.empty x5_1 ((rd_T45 l0 x14_1).f1)).size) = False := eq_false (Nat.not_lt.2 c54)
                          by_cases c55 : ((⟨#[40]⟩ : ByteArray) ++ (rdOf ByteArray.empty x5_1 ((rd_T45 l0 x14_1).f1))).size + t223.size ≤ 9223372036854775807
                          · rw [if_pos c55] at H
                            have c55b0 := eq_true c55
                            have c55b1 : decide (((⟨#[40]⟩ : ByteArray) ++ (rdOf ByteArray.empty x5_1 ((rd_T45 l0 x14_1).f1))).size + t223.size ≤ 9223372036854775807) = true := decide_eq_true c55
                            try have c55b2 : (9223372036854775807 < ((⟨#[40]⟩ : ByteArray) ++ (rdOf ByteArray.empty x5_1 ((rd_T45 l0 x14_1).f1))).size + t223.size) = False := eq_false (Nat.not_lt.2 c55)
                            try have c55b3 : (9223372036854775807 < (1 + (rdOf ByteArray.empty x5_1 ((rd_T45 l0 x14_1).f1)).size) + t223.size) = False := by have h_ := c55b2; simp only [ByteArray.size_append] at h_; exact h_
                            by_cases c56 : 0 ≤ ((rd_T45 l0 x14_1).f2)
                            · rw [if_pos c56] at H
                              have c56b0 : decide (0 ≤ ((rd_T45 l0 x14_1).f2)) = true := decide_eq_true c56
                              clear c56
                              by_cases c57 : ((rd_T45 l0 x14_1).f2) < (x5_1.length : Int)
                              · rw [if_pos c57] at H
                                have c57b0 : decide (((rd_T45 l0 x14_1).f2) < (x5_1.length : Int)) = true := decide_eq_true c57
                                clear c57
                                by_cases c58 : (((⟨#[40]⟩ : ByteArray) ++ (rdOf ByteArray.empty x5_1 ((rd_T45 l0 x14_1).f1))) ++ t223).size + (rdOf ByteArray.empty x5_1 ((rd_T45 l0 x14_1).f2)).size ≤ 9223372036854775807
                                · rw [if_pos c58] at H
                                  have c58b0 := eq_true c58
                                  have c58b1 : decide ((((⟨#[40]⟩ : ByteArray) ++ (rdOf ByteArray.empty x5_1 ((rd_T45 l0 x14_1).f1))) ++ t223).size + (rdOf ByteArray.empty x5_1 ((rd_T45 l0 x14_1).f2)).size ≤ 9223372036854775807) = true := decide_eq_true c58
                                  try have c58b2 : (9223372036854775807 < (((⟨#[40]⟩ : ByteArray) ++ (rdOf ByteArray.empty x5_1 ((rd_T45 l0 x14_1).f1))) ++ t223).size + (rdOf ByteArray.empty x5_1 ((rd_T45 l0 x14_1).f2)).size) = False := eq_false (Nat.not_lt.2 c58)
                                  try have c58b3 : (9223372036854775807 < ((1 + (rdOf ByteArray.empty x5_1 ((rd_T45 l0 x14_1).f1)).size) + t223.size) + (rdOf ByteArray.empty x5_1 ((rd_T45 l0 x14_1).f2)).size) = False := by have h_ := c58b2; simp only [ByteArray.size_append] at h_; exact h_
                                  by_cases c59 : ((((⟨#[40]⟩ : ByteArray) ++ (rdOf ByteArray.empty x5_1 ((rd_T45 l0 x14_1).f1))) ++ t223) ++ (rdOf ByteArray.empty x5_1 ((rd_T45 l0 x14_1).f2))).size + 1 ≤ 9223372036854775807
                                  · rw [if_pos c59] at H
                                    have c59b0 := eq_true c59
                                    have c59b1 : decide (((((⟨#[40]⟩ : ByteArray) ++ (rdOf ByteArray.empty x5_1 ((rd_T45 l0 x14_1).f1))) ++ t223) ++ (rdOf ByteArray.empty x5_1 ((rd_T45 l0 x14_1).f2))).size + 1 ≤ 9223372036854775807) = true := decide_eq_true c59
                                    try have c59b2 : (9223372036854775807 < ((((⟨#[40]⟩ : ByteArray) ++ (rdOf ByteArray.empty x5_1 ((rd_T45 l0 x14_1).f1))) ++ t223) ++ (rdOf ByteArray.empty x5_1 ((rd_T45 l0 x14_1).f2))).size + 1) = False := eq_false (Nat.not_lt.2 c59)
                                    try have c59b3 : (9223372036854775807 < (((1 + (rdOf ByteArray.empty x5_1 ((rd_T45 l0 x14_1).f1)).size) + t223.size) + (rdOf ByteArray.empty x5_1 ((rd_T45 l0 x14_1).f2)).size) + 1) = False := by have h_ := c59b2; simp only [ByteArray.size_append] at h_; exact h_
                                    by_cases c60 : x14_1 < (x5_1.length : Int)
                                    · rw [if_pos c60] at H
                                      have c60b0 : decide (x14_1 < (x5_1.length : Int)) = true := decide_eq_true c60
                                      clear c60
                                      obtain ⟨y232, hy232⟩ : ∃ y_ : List ByteArray, y_ = (x5_1.set (x14_1 : Int).toNat (((((⟨#[40]⟩ : ByteArray) ++ (rdOf ByteArray.empty x5_1 ((rd_T45 l0 x14_1).f1))) ++ t223) ++ (rdOf ByteArray.empty x5_1 ((rd_T45 l0 x14_1).f2))) ++ (⟨#[41]⟩ : ByteArray))) := ⟨_, rfl⟩
                                      replace H : (impl_printed.l0 k1 l0 y232 l0 (l0.length : Int) (wrap64 (x14_1 + 1))) = some r := by first | (rw [hy232]; with_reducible exact H) | (have H2_ := (Option.bind_some _ _).symm.trans H; rw [hy232]; with_reducible exact H2_) | (have H2_ := (Option.bind_some _ _).symm.trans H; with_reducible exact H2_) | with_reducible exact H | (rw [hy232]; exact H) | exact H
                                      have Ny232 := Aside0.mk hy232
                                      clear hy232
                                      have H' := Aside0.mk H
                                      clear H
                                      have p221 : 0 ≤ (x14_1 : Int) := of_decide_eq_true (by first | (with_reducible assumption) | assumption)
                                      have q221 : x14_1 < (l0.length : Int) := of_decide_eq_true (by first | (with_reducible assumption) | assumption)
                                      obtain ⟨ad221, e221, hx221_0, hx221_1, hx221_2⟩ := at_T45 HR0.out x14_1 p221 q221
                                      cases e221
                                      replace hx221_0 := (HB.out.cell (World.block_lt_of_cell? w _ hx221_0)).trans hx221_0
                                      replace hx221_1 := (HB.out.cell (World.block_lt_of_cell? w _ hx221_1)).trans hx221_1
                                      replace hx221_2 := (HB.out.cell (World.block_lt_of_cell? w _ hx221_2)).trans hx221_2
                                      replace p221 := eq_true p221
                                      replace q221 := eq_true q221
                                      try go_wp2_with (first | ((with_reducible refine gate_dst (N := 7) rfl ?_); refine box_event ?hg (N := 7) ?hd (cs := #[.int .i64 0, .int .i64 0, .int .i64 0]) (t := 45) ?hr ?_; (case hd => rfl); (case hg => rfl); (case hr => first | (go_simp; done) | (go_simp; rfl)); intro gb222 hg w62 hbox hb; have n0_ := Aside0.mk (Kd.R_below (by (with_reducible repeat (first | apply Kd.R_alloc | apply Kd.R_drewN | apply Kd.R_drew)); exact HO_5.out) hb); have n1_ := Aside0.mk (below_step (by repeat (first | (with_reducible first | exact HB.out | apply below_alloc | apply pw_below_drewN | apply below_drew1) | exact HB.out)) hb); have n2_ := Aside0.mk (hbox); have n3_ := Aside0.mk ((by rw [hg]; exact (below_size (by repeat (first | (with_reducible first | exact HB.out | apply below_alloc | apply pw_below_drewN | apply below_drew1) | exact HB.out))) : w.heap.size ≤ gb222)); have n4_ := Aside0.mk ((by rw [hg]; exact (below_size (by repeat (first | (with_reducible first | exact HB.out | apply below_alloc | apply pw_below_drewN | apply below_drew1) | exact HB.out))) : w.heap.size ≤ gb222)); clear HO_5; clear HB; have HO_5 := n0_; have HB := n1_; have BK222 := n2_; have GW222 := n3_; have GE222 := n4_; clear n0_ n1_ n2_ n3_ n4_; clear hb hbox hg; have hcz63_0 : w62.cell? ⟨gb222, 0, none⟩ = some (.int .i64 0) := (blk_cell BK222.out 0).trans rfl; have hcz63_1 : w62.cell? ⟨gb222, 1, none⟩ = some (.int .i64 0) := (blk_cell BK222.out 1).trans rfl; have hcz63_2 : w62.cell? ⟨gb222, 2, none⟩ = some (.int .i64 0) := (blk_cell BK222.out 2).trans rfl; have hfz63_0 := blk_frozen BK222.out 0; have hfz63_1 := blk_frozen BK222.out 1; have hfz63_2 := blk_frozen BK222.out 2) | ((with_reducible refine gate_callee (f := 73) rfl ?_); refine goesL_ (some 21) rfl rfl Try.func73 (by kernel_rfl) rfl #[.int .i64 ((rd_T45 l0 x14_1).f0)] rfl (by (try simp only [List.map_toArray, List.map_cons, List.map_nil]); first | done | rfl | (simp only [List.length_drop, List.length_take]; rfl)) ?_; (with_reducible refine (impl_signOf.calls ((rd_T45 l0 x14_1).f0) t223 _ A10.out).mono ?_); rintro e w64 ⟨rfl, hb⟩; refine ⟨_, rfl, ?_⟩; have n0_ := Aside0.mk (Kd.R_below (by (with_reducible repeat (first | apply Kd.R_alloc | apply Kd.R_drewN | apply Kd.R_drew)); exact (Kd.R_mono (Kd.R_far (p := ⟨gb222, 2, none⟩) (Kd.R_far (p := ⟨gb222, 1, none⟩) (Kd.R_far (p := ⟨gb222, 0, none⟩) (Kd.R_types HO_5.out BK222.out (by decide)) (fun _ hk => hk.2) (.int .i64 ((rd_T45 l0 x14_1).f0))) (fun _ hk => hk.2) (.int .i64 ((rd_T45 l0 x14_1).f1))) (fun _ hk => hk.2) (.int .i64 ((rd_T45 l0 x14_1).f2))) (fun _ h_ => h_.1))) hb); have n1_ := Aside0.mk (blk_below (g := gb222) (o := .cells #[.int .i64 ((rd_T45 l0 x14_1).f0), .int .i64 ((rd_T45 l0 x14_1).f1), .int .i64 ((rd_T45 l0 x14_1).f2)] 45 (0, 0)) (by (with_reducible repeat (first | refine blk_drewN ?_ _ | refine blk_drew ?_ | refine blk_alloc ?_ _)); refine blk_put (cs := #[.int .i64 ((rd_T45 l0 x14_1).f0), .int .i64 ((rd_T45 l0 x14_1).f1), .int .i64 0]) ?_ 2 _ rfl; (with_reducible repeat (first | refine blk_drewN ?_ _ | refine blk_drew ?_ | refine blk_alloc ?_ _)); refine blk_put (cs := #[.int .i64 ((rd_T45 l0 x14_1).f0), .int .i64 0, .int .i64 0]) ?_ 1 _ rfl; (with_reducible repeat (first | refine blk_drewN ?_ _ | refine blk_drew ?_ | refine blk_alloc ?_ _)); refine blk_put (cs := #[.int .i64 0, .int .i64 0, .int .i64 0]) ?_ 0 _ rfl; (with_reducible repeat (first | refine blk_drewN ?_ _ | refine blk_drew ?_ | refine blk_alloc ?_ _)); exact BK222.out) hb); have n2_ := Aside0.mk (below_step (by repeat (first | (with_reducible first | exact HB.out | apply below_alloc | apply pw_below_drewN | apply below_drew1 | refine below_set ?_ GE222.out) | exact HB.out)) hb); clear HO_5; clear BK222; clear HB; have HO_5 := n0_; have BK222 := n1_; have HB := n2_; clear n0_ n1_ n2_; (try clear hb); (try clear hb2); (try clear hk); (try clear hi); have hcz65_0 : w64.cell? ⟨gb222, 0, none⟩ = some (.int .i64 ((rd_T45 l0 x14_1).f0)) := (blk_cell BK222.out 0).trans rfl; have hcz65_1 : w64.cell? ⟨gb222, 1, none⟩ = some (.int .i64 ((rd_T45 l0 x14_1).f1)) := (blk_cell BK222.out 1).trans rfl; have hcz65_2 : w64.cell? ⟨gb222, 2, none⟩ = some (.int .i64 ((rd_T45 l0 x14_1).f2)) := (blk_cell BK222.out 2).trans rfl; have hfz65_0 := blk_frozen BK222.out 0; have hfz65_1 := blk_frozen BK222.out 1; have hfz65_2 := blk_frozen BK222.out 2) | (go_at_call 39; (with_reducible refine (impl_exprParts.calls k1 ((rd_T45 l0 x14_1).f0) ((rd_T45 l0 x14_1).f1) ((rd_T45 l0 x14_1).f2) t224 _ A11.out).mono ?_); rintro e w66 ⟨rfl, hb⟩; have n0_ := Aside0.mk (Kd.R_below (by (with_reducible repeat (first | apply Kd.R_alloc | apply Kd.R_drewN | apply Kd.R_drew)); exact HO_5.out) hb); have n1_ := Aside0.mk (blk_below (g := gb222) (o := .cells #[.int .i64 ((rd_T45 l0 x14_1).f0), .int .i64 ((rd_T45 l0 x14_1).f1), .int .i64 ((rd_T45 l0 x14_1).f2)] 45 (0, 0)) (by (with_reducible repeat (first | refine blk_drewN ?_ _ | refine blk_drew ?_ | refine blk_alloc ?_ _)); exact BK222.out) hb); have n2_ := Aside0.mk (below_step (by repeat (first | (with_reducible first | exact HB.out | apply below_alloc | apply pw_below_drewN | apply below_drew1 | refine below_set ?_ GE222.out) | exact HB.out)) hb); clear HO_5; clear BK222; clear HB; have HO_5 := n0_; have BK222 := n1_; have HB := n2_; clear n0_ n1_ n2_; (try clear hb); (try clear hb2); (try clear hk); (try clear hi)))
                                      have n0_ := Aside0.mk (Kd.R_drew HO_5.out)
                                      have n1_ := Aside0.mk (blk_drew BK222.out)
                                      have n2_ := Aside0.mk (below_drew1 HB.out)
                                      clear HO_5
                                      clear BK222
                                      clear HB
                                      have HO_5 := n0_
                                      have BK222 := n1_
                                      have HB := n2_
                                      clear n0_ n1_ n2_
                                      obtain ⟨Ao68, co68, eo68⟩ := Kd.R_slice HO_5.out
                                      (first | subst eo68 | (injection eo68 with f1_ f2_ f3_; have f4_ := f1_.symm; have f5_ := f3_.symm; clear f1_ f2_ f3_; subst f4_; subst f5_))
                                      have p230 : 0 ≤ (((rd_T45 l0 x14_1).f1) : Int) := of_decide_eq_true (by first | (with_reducible assumption) | assumption)
                                      have q230 : ((rd_T45 l0 x14_1).f1) < (x5_1.length : Int) := of_decide_eq_true (by first | (with_reducible assumption) | assumption)
                                      obtain ⟨ad230, e230, hx230_0⟩ := Kd.at_string (Kd.R_reads' HO_5.out).2.2 ((rd_T45 l0 x14_1).f1) p230 q230
                                      cases e230
                                      replace p230 := eq_true p230
                                      replace q230 := eq_true q230
                                      have p231 : 0 ≤ (((rd_T45 l0 x14_1).f2) : Int) := of_decide_eq_true (by first | (with_reducible assumption) | assumption)
                                      have q231 : ((rd_T45 l0 x14_1).f2) < (x5_1.length : Int) := of_decide_eq_true (by first | (with_reducible assumption) | assumption)
                                      obtain ⟨ad231, e231, hx231_0⟩ := Kd.at_string (Kd.R_reads' HO_5.out).2.2 ((rd_T45 l0 x14_1).f2) p231 q231
                                      obtain rfl : ad230 = ad231 := (by injection e231)
                                      replace p231 := eq_true p231
                                      replace q231 := eq_true q231
                                      have p61 : 0 ≤ (x14_1 : Int) := of_decide_eq_true (by first | (with_reducible assumption) | assumption)
                                      have q61 : (x14_1 : Int) < ((x5_1.length : Int) : Int) := of_decide_eq_true (by first | (with_reducible assumption) | assumption)
                                      obtain ⟨go61, co61, eo61, gb61, gl61, cl61, HG61⟩ := Kd.R_form HO_5.out (by omega)
                                      (first | cases eo61 | (injection eo61 with ea_ en_ ec_; (first | subst ea_ | (injection ea_ with ea_; subst ea_)); subst ec_; clear en_))
                                      have GB61 := Aside0.mk gb61
                                      have GG61 := Aside0.mk HG61
                                      clear gb61 gl61 HG61
                                      (first | simp only [add_plain] at hx230_0 | skip)
                                      (first | simp only [add_plain] at hx231_0 | skip)
                                      obtain ⟨hx61_0, hf61_0⟩ := Kd.R_celln (⟨#[]⟩ : ByteArray) HO_5.out (x14_1 : Int) p61 q61
                                      replace p61 := eq_true p61
                                      replace q61 := eq_true q61
                                      have HP69 := Kd.R_putn HO_5.out (x14_1 : Int) (((((⟨#[40]⟩ : ByteArray) ++ (rdOf ByteArray.empty x5_1 ((rd_T45 l0 x14_1).f1))) ++ t223) ++ (rdOf ByteArray.empty x5_1 ((rd_T45 l0 x14_1).f2))) ++ (⟨#[41]⟩ : ByteArray))
                                      rw [← Ny232.out] at HP69
                                      have HQ69 := Aside0.mk HP69
                                      clear HP69
                                      refine start_ (n := 19) (S := fun w' => w'.cell? ⟨gb222, 0, none⟩ = some (.int .i64 ((rd_T45 l0 x14_1).f0)) ∧ w'.cell? ⟨gb222, 1, none⟩ = some (.int .i64 ((rd_T45 l0 x14_1).f1)) ∧ w'.cell? ⟨gb222, 2, none⟩ = some (.int .i64 ((rd_T45 l0 x14_1).f2)) ∧ w'.cell? ⟨go61, (((rd_T45 l0 x14_1).f1)).toNat, none⟩ = some (.string (rdOf ByteArray.empty x5_1 ((rd_T45 l0 x14_1).f1))) ∧ w'.cell? ⟨go61, (((rd_T45 l0 x14_1).f2)).toNat, none⟩ = some (.string (rdOf ByteArray.empty x5_1 ((rd_T45 l0 x14_1).f2)))) (ds := [18]) #[false, false, false, false, false, false, false, false, false, false, false, false, false, false, false, false, false, false, false] (by kernel_rfl) rfl rfl ⟨(blk_cell BK222.out 0).trans rfl, (blk_cell BK222.out 1).trans rfl, (blk_cell BK222.out 2).trans rfl, hx230_0, hx231_0⟩ (fun hHeld => ?_); refine with_tabW impl_printed.tab7 impl_printed.bits7 (fun HT_ HW_ => ?_)
                                      generalize w66.drew = w67 at HO_5 BK222 HB GG61 HQ69 hf61_0 hx230_0 hx231_0 hx61_0 hHeld ⊢
                                      refine pure_ (i := 0) (N := some 25) (v := ?_) (a' := ?_) #[true, false, false, false, false, false, false, false, false, false, false, false, false, false, false, false, false, false, false] rfl rfl (any_of HT_.out (by kernel_rfl)) (fun _ _ _ h => h) (Or.inl ⟨by rfl, ?_⟩) ?_ ?_
                                      rotate_left
                                      · intro w'
                                        go_simp
                                        with_reducible rfl
                                      rotate_left
                                      · simp only [Act.put, List.setIfInBounds_toArray, List.set_cons_zero, List.set_cons_succ, i64_w, i32_w]
                                        rfl
                                      refine pure_ (i := 1) (N := some 26) (v := ?_) (a' := ?_) #[true, true, false, false, false, false, false, false, false, false, false, false, false, false, false, false, false, false, false] rfl rfl (any_of HT_.out (by kernel_rfl)) (fun _ _ _ h => h) (Or.inl ⟨by rfl, ?_⟩) ?_ ?_
                                      rotate_left
                                      · intro w'
                                        go_simp
                                        with_reducible rfl
                                      rotate_left
                                      · simp only [Act.put, List.setIfInBounds_toArray, List.set_cons_zero, List.set_cons_succ, i64_w, i32_w]
                                        rfl
                                      refine pure_ (i := 2) (N := some 27) (v := ?_) (a' := ?_) #[true, true, true, false, false, false, false, false, false, false, false, false, false, false, false, false, false, false, false] rfl rfl (any_of HT_.out (by kernel_rfl)) (fun _ _ _ h => h) (Or.inl ⟨by rfl, ?_⟩) ?_ ?_
                                      rotate_left
                                      · intro w'
                                        go_simp
                                        with_reducible rfl
                                      rotate_left
                                      · simp only [Act.put, List.setIfInBounds_toArray, List.set_cons_zero, List.set_cons_succ, i64_w, i32_w]
                                        rfl
                                      refine pure_ (i := 3) (N := some 28) (v := ?_) (a' := ?_) #[true, true, true, true, false, false, false, false, false, false, false, false, false, false, false, false, false, false, false] rfl rfl (any_of HT_.out (by kernel_rfl)) (fun _ _ _ h => h) (Or.inl ⟨by rfl, ?_⟩) ?_ ?_
                                      rotate_left
                                      · intro w'
                                        go_simp
                                        with_reducible rfl
                                      rotate_left
                                      · simp only [Act.put, List.setIfInBounds_toArray, List.set_cons_zero, List.set_cons_succ, i64_w, i32_w]
                                        rfl
                                      refine pure_ (i := 8) (N := some 33) (v := ?_) (a' := ?_) #[true, true, true, true, false, false, false, false, true, false, false, false, false, false, false, false, false, false, false] rfl rfl (any_of HT_.out (by kernel_rfl)) (fun _ _ _ h => h) (Or.inl ⟨by rfl, ?_⟩) ?_ ?_
                                      rotate_left
                                      · intro w'
                                        go_simp
                                        with_reducible rfl
                                      rotate_left
                                      · simp only [Act.put, List.setIfInBounds_toArray, List.set_cons_zero, List.set_cons_succ, i64_w, i32_w]
                                        rfl
                                      refine pure_ (i := 10) (N := some 35) (v := ?_) (a' := ?_) #[true, true, true, true, false, false, false, false, true, false, true, false, false, false, false, false, false, false, false] rfl rfl (any_of HT_.out (by kernel_rfl)) (fun _ _ _ h => h) (Or.inl ⟨by rfl, ?_⟩) ?_ ?_
                                      rotate_left
                                      · intro w'
                                        go_simp
                                        with_reducible rfl
                                      rotate_left
                                      · simp only [Act.put, List.setIfInBounds_toArray, List.set_cons_zero, List.set_cons_succ, i64_w, i32_w]
                                        rfl
                                      refine pure_ (i := 11) (N := some 36) (v := ?_) (a' := ?_) #[true, true, true, true, false, false, false, false, true, false, true, true, false, false, false, false, false, false, false] rfl rfl (any_of HT_.out (by kernel_rfl)) (fun _ _ _ h => h) (Or.inl ⟨by rfl, ?_⟩) ?_ ?_
                                      rotate_left
                                      · intro w'
                                        go_simp
                                        with_reducible rfl
                                      rotate_left
                                      · simp only [Act.put, List.setIfInBounds_toArray, List.set_cons_zero, List.set_cons_succ, i64_w, i32_w]
                                        rfl
                                      refine take_ (i := 4) (N := some 29) (v := ?_) (a' := ?_) #[true, true, true, true, true, false, false, false, true, false, true, true, false, false, false, false, false, false, false] rfl rfl (take_ofW HT_.out HW_.out (by kernel_rfl)) (fun _ _ _ h => h) (Or.inl ⟨by rfl, ?_⟩) hHeld ?_ ?_
                                      rotate_left
                                      · rintro w' ⟨s0, s1, s2, s3, s4⟩
                                        go_simp
                                        with_reducible rfl
                                      rotate_left
                                      · simp only [Act.put, List.setIfInBounds_toArray, List.set_cons_zero, List.set_cons_succ, i64_w, i32_w]
                                        rfl
                                      refine pure_ (i := 5) (N := some 30) (v := ?_) (a' := ?_) #[true, true, true, true, true, true, false, false, true, false, true, true, false, false, false, false, false, false, false] rfl rfl (any_of HT_.out (by kernel_rfl)) (fun _ _ _ h => h) (Or.inl ⟨by rfl, ?_⟩) ?_ ?_
                                      rotate_left
                                      · intro w'
                                        go_simp
                                        with_reducible rfl
                                      rotate_left
                                      · simp only [Act.put, List.setIfInBounds_toArray, List.set_cons_zero, List.set_cons_succ, i64_w, i32_w]
                                        rfl
                                      refine take_ (i := 6) (N := some 31) (v := ?_) (a' := ?_) #[true, true, true, true, true, true, true, false, true, false, true, true, false, false, false, false, false, false, false] rfl rfl (take_ofW HT_.out HW_.out (by kernel_rfl)) (fun _ _ _ h => h) (Or.inl ⟨by rfl, ?_⟩) hHeld ?_ ?_
                                      rotate_left
                                      · rintro w' ⟨s0, s1, s2, s3, s4⟩
                                        go_simp
                                        with_reducible rfl
                                      rotate_left
                                      · simp only [Act.put, List.setIfInBounds_toArray, List.set_cons_zero, List.set_cons_succ, i64_w, i32_w]
                                        rfl
                                      refine pure_ (i := 7) (N := some 32) (v := ?_) (a' := ?_) #[true, true, true, true, true, true, true, true, true, false, true, true, false, false, false, false, false, false, false] rfl rfl (any_of HT_.out (by kernel_rfl)) (fun _ _ _ h => h) (Or.inl ⟨by rfl, ?_⟩) ?_ ?_
                                      rotate_left
                                      · intro w'
                                        go_simp
                                        with_reducible rfl
                                      rotate_left
                                      · simp only [Act.put, List.setIfInBounds_toArray, List.set_cons_zero, List.set_cons_succ, i64_w, i32_w]
                                        rfl
                                      refine pure_ (i := 9) (N := some 34) (v := ?_) (a' := ?_) #[true, true, true, true, true, true, true, true, true, true, true, true, false, false, false, false, false, false, false] rfl rfl (any_of HT_.out (by kernel_rfl)) (fun _ _ _ h => h) (Or.inl ⟨by rfl, ?_⟩) ?_ ?_
                                      rotate_left
                                      · intro w'
                                        go_simp
                                        with_reducible rfl
                                      rotate_left
                                      · simp only [Act.put, List.setIfInBounds_toArray, List.set_cons_zero, List.set_cons_succ, i64_w, i32_w]
                                        rfl
                                      refine take_ (i := 12) (N := some 37) (v := ?_) (a' := ?_) #[true, true, true, true, true, true, true, true, true, true, true, true, true, false, false, false, false, false, false] rfl rfl (take_ofW HT_.out HW_.out (by kernel_rfl)) (fun _ _ _ h => h) (Or.inl ⟨by rfl, ?_⟩) hHeld ?_ ?_
                                      rotate_left
                                      · rintro w' ⟨s0, s1, s2, s3, s4⟩
                                        go_simp
                                        with_reducible rfl
                                      rotate_left
                                      · simp only [Act.put, List.setIfInBounds_toArray, List.set_cons_zero, List.set_cons_succ, i64_w, i32_w]
                                        rfl
                                      refine pure_ (i := 13) (N := some 38) (v := ?_) (a' := ?_) #[true, true, true, true, true, true, true, true, true, true, true, true, true, true, false, false, false, false, false] rfl rfl (any_of HT_.out (by kernel_rfl)) (fun _ _ _ h => h) (Or.inl ⟨by rfl, ?_⟩) ?_ ?_
                                      rotate_left
                                      · intro w'
                                        go_simp
                                        with_reducible rfl
                                      rotate_left
                                      · simp only [Act.put, List.setIfInBounds_toArray, List.set_cons_zero, List.set_cons_succ, i64_w, i32_w]
                                        rfl
                                      refine take_ (i := 14) (N := some 39) (v := ?_) (a' := ?_) #[true, true, true, true, true, true, true, true, true, true, true, true, true, true, true, false, false, false, false] rfl rfl (take_ofW HT_.out HW_.out (by kernel_rfl)) (fun _ _ _ h => h) (Or.inl ⟨by rfl, ?_⟩) hHeld ?_ ?_
                                      rotate_left
                                      · rintro w' ⟨s0, s1, s2, s3, s4⟩
                                        go_simp
                                        with_reducible rfl
                                      rotate_left
                                      · simp only [Act.put, List.setIfInBounds_toArray, List.set_cons_zero, List.set_cons_succ, i64_w, i32_w]
                                        rfl
                                      refine pure_ (i := 15) (N := some 40) (v := ?_) (a' := ?_) #[true, true, true, true, true, true, true, true, true, true, true, true, true, true, true, true, false, false, false] rfl rfl (any_of HT_.out (by kernel_rfl)) (fun _ _ _ h => h) (Or.inl ⟨by rfl, ?_⟩) ?_ ?_
                                      rotate_left
                                      · intro w'
                                        go_simp
                                        with_reducible rfl
                                      rotate_left
                                      · simp only [Act.put, List.setIfInBounds_toArray, List.set_cons_zero, List.set_cons_succ, i64_w, i32_w]
                                        rfl
                                      refine pure_ (i := 16) (N := some 41) (v := ?_) (a' := ?_) #[true, true, true, true, true, true, true, true, true, true, true, true, true, true, true, true, true, false, false] rfl rfl (any_of HT_.out (by kernel_rfl)) (fun _ _ _ h => h) (Or.inl ⟨by rfl, ?_⟩) ?_ ?_
                                      rotate_left
                                      · intro w'
                                        go_simp
                                        with_reducible rfl
                                      rotate_left
                                      · simp only [Act.put, List.setIfInBounds_toArray, List.set_cons_zero, List.set_cons_succ, i64_w, i32_w]
                                        rfl
                                      refine pure_ (i := 17) (N := some 42) (v := ?_) (a' := ?_) #[true, true, true, true, true, true, true, true, true, true, true, true, true, true, true, true, true, true, false] rfl rfl (any_of HT_.out (by kernel_rfl)) (fun _ _ _ h => h) (Or.inl ⟨by rfl, ?_⟩) ?_ ?_
                                      rotate_left
                                      · intro w'
                                        go_simp
                                        with_reducible rfl
                                      rotate_left
                                      · simp only [Act.put, List.setIfInBounds_toArray, List.set_cons_zero, List.set_cons_succ, i64_w, i32_w]
                                        rfl
                                      refine last_ (i := 18) (N := none) #[true, true, true, true, true, true, true, true, true, true, true, true, true, true, true, true, true, true, true] rfl rfl (one_of HT_.out (by kernel_rfl)) (by decide) (fun K hK => ?_)
                                      refine skip_ (w1 := ?_) (by rfl) rfl ?_ ?_
                                      rotate_left
                                      · go_simp
                                        rfl
                                      refine hK.out _ _ ?_
                                      clear hK K
                                      refine done_ (done_of HT_.out (by kernel_rfl)) ?_
                                      try go_wp2
                                      go_roundg k1
                                      case measure => have := HK1.out; omega
                                      case rel => exact ⟨(y232), (wrap64 (x14_1 + 1)), (by first | rfl | (simp; done) | (simp [*]; done) | (rw [Int.tmod_eq_emod_of_nonneg (Int.natCast_nonneg _)]; done)), H', ⟨by have := HK1.out; omega⟩, ⟨by (with_reducible repeat (first | apply Kd.R_alloc | apply Kd.R_drewN | apply Kd.R_drew)); exact HQ69.out⟩, ⟨by repeat (first | (with_reducible first | exact HB.out | apply below_alloc | apply pw_below_drewN | apply below_drew1 | refine below_set ?_ GB61.out | refine below_set ?_ GE222.out) | exact HB.out)⟩⟩
                                    · rw [if_neg c60] at H
                                      exact absurd H (by simp)
                                  · rw [if_neg c59] at H
                                    exact absurd H (by simp)
                                · rw [if_neg c58] at H
                                  exact absurd H (by simp)
                              · rw [if_neg c57] at H
                                exact absurd H (by simp)
                            · rw [if_neg c56] at H
                              exact absurd H (by simp)
                          · rw [if_neg c55] at H
                            exact absurd H (by simp)
                        · rw [if_neg c54] at H
                          exact absurd H (by simp)
                      · rw [if_neg c53] at H
                        exact absurd H (by simp)
                    · rw [if_neg c52] at H
                      exact absurd H (by simp)
              · rw [if_neg c9] at H
                exact absurd H (by simp)
            · rw [if_neg c8] at H
              exact absurd H (by simp)
          · rw [if_neg c7] at H
            have c7b0 : decide (x14_1 < (l0.length : Int)) = false := decide_eq_false c7
            clear c7
            obtain ⟨ji70, hji70⟩ : ∃ j_ : Int, (wrap64 ((l0.length : Int) - 1)) = j_ := ⟨_, rfl⟩
            replace H : (if 0 ≤ (ji70) then (if (ji70) < (x5_1.length : Int) then (some (rdOf ByteArray.empty x5_1 (ji70))) else (none)) else (none)) = some r := by first | (rw [hji70] at H; exact H) | (simp only [hji70] at H ⊢; exact H)
            have hji70w : (IntKind.i64.wrap ((l0.length : Int) - 1)) = ji70 := (i64_w _).trans hji70
            by_cases c71 : 0 ≤ (ji70)
            · rw [if_pos c71] at H
              have c71b0 : decide (0 ≤ (ji70)) = true := decide_eq_true c71
              clear c71
              by_cases c72 : (ji70) < (x5_1.length : Int)
              · rw [if_pos c72] at H
                have c72b0 : decide ((ji70) < (x5_1.length : Int)) = true := decide_eq_true c72
                clear c72
                obtain rfl := Option.some.inj H
                obtain ⟨Ao73, co73, eo73⟩ := Kd.R_slice HO_5.out
                subst eo73
                have p220 : 0 ≤ ((ji70) : Int) := of_decide_eq_true (by first | (with_reducible assumption) | assumption)
                have q220 : (ji70) < (x5_1.length : Int) := of_decide_eq_true (by first | (with_reducible assumption) | assumption)
                obtain ⟨ad220, e220, hx220_0⟩ := Kd.at_string (Kd.R_reads' HO_5.out).2.2 (ji70) p220 q220
                cases e220
                replace p220 := eq_true p220
                replace q220 := eq_true q220
                go_wp2
                go_ret
                exact ⟨by first | rfl | (simp [errW_none, errW_some] <;> rfl) | (simp only [← hji70]; first | rfl | (simp [errW_none, errW_some] <;> rfl)) | (simp [*, errW_none, errW_some] <;> rfl), by repeat (first | (with_reducible first | exact HB.out | apply below_alloc | apply pw_below_drewN | apply below_drew1) | exact HB.out)⟩
              · rw [if_neg c72] at H
                exact absurd H (by simp)
            · rw [if_neg c71] at H
              exact absurd H (by simp)
    · rw [if_neg c4] at H
      exact absurd H (by simp)
  · rw [if_neg c3] at H
    exact absurd H (by simp)

/-! ### impl_ExprPrint: function 25 -/
def impl_ExprPrint.f (k : Nat) (l0 : List (S45)) : Option (ByteArray) := (impl_ExprOk.f k l0).bind fun t233 => (if t233 = true then ((impl_printed.f k l0).bind fun t234 => (some t234)) else (some (⟨#[]⟩ : ByteArray)))
theorem impl_ExprPrint.mono : ∀ a0 k, LeO (impl_ExprPrint.f k a0) (impl_ExprPrint.f (k + 1) a0) := by
  intro a0 k
  unfold impl_ExprPrint.f
  repeat' first
      | (with_reducible exact impl_ExprOk.mono _ _)
      | (with_reducible exact impl_printed.mono _ _)
      | (with_reducible exact LeO.refl _)
      | (with_reducible exact LeO.none _)
      | (with_reducible refine LeO.ite ?_ ?_)
      | (with_reducible refine LeO.bind ?_ (fun _ => ?_))
      | exact impl_ExprOk.mono _ _
      | exact impl_printed.mono _ _
      | exact LeO.none _
      | refine LeO.ite ?_ ?_
      | refine LeO.bind ?_ (fun _ => ?_)
set_option maxHeartbeats 8000000 in
set_option maxRecDepth 100000 in
theorem impl_ExprPrint.calls (k : Nat) (A0 : Option Addr) (c0 : Nat) (l0 : List (S45)) (r : ByteArray) (w : World) (hr0 : Kd.C k45 w A0 l0.length l0) (hc0 : l0.length ≤ c0) (h : impl_ExprPrint.f k l0 = some r) :
    Calls Try.prog 25 #[.slice A0 l0.length c0] w fun e w' => e = .returned (.string r) ∧ Below w.heap.size w w' := by
  have HR0 := Aside0.mk hr0
  have HC0 := Aside0.mk hc0
  clear hr0 hc0
  have HB := Aside0.mk (Below.refl w.heap.size w)
  have H : ((impl_ExprOk.f k l0).bind fun t233 => (if t233 = true then ((impl_printed.f k l0).bind fun t234 => (some t234)) else (some (⟨#[]⟩ : ByteArray)))) = some r := h
  clear h
  replace H := Option.bind_eq_some_iff.mp H
  obtain ⟨t233, A20, H⟩ := H
  replace H : (if t233 = true then ((impl_printed.f k l0).bind fun t234 => (some t234)) else (some (⟨#[]⟩ : ByteArray))) = some r := H
  have A2 := Aside0.mk A20
  clear A20
  by_cases c3 : t233 = true
  · subst c3
    have H1 : ((impl_printed.f k l0).bind fun t234 => (some t234)) = some r := by rw [if_pos rfl] at H; exact H
    clear H
    have H := H1
    clear H1
    replace H := Option.bind_eq_some_iff.mp H
    obtain ⟨t234, A40, H⟩ := H
    replace H : (some t234) = some r := H
    have A4 := Aside0.mk A40
    clear A40
    obtain rfl := Option.some.inj H
    go_enter Try.func25, Try.ntmps25
    go_wp2_with (first | ((with_reducible refine gate_callee (f := 14) rfl ?_); refine goesL_ (some 4) rfl rfl Try.func14 (by kernel_rfl) rfl #[.slice A0 l0.length c0] rfl (by (try simp only [List.map_toArray, List.map_cons, List.map_nil]); first | done | rfl | (simp only [List.length_drop, List.length_take]; rfl)) ?_; (with_reducible refine (impl_ExprOk.calls k _ _ l0 true _ ?side1 ?side2 A2.out).mono ?_); (case side1 => repeat (first | exact HR0.out | (with_reducible refine Kd.C_alloc ?_ _) | (with_reducible refine Kd.C_drewN ?_ _) | (with_reducible refine Kd.C_drew ?_))); (case side2 => exact HC0.out); rintro e w5 ⟨rfl, hb⟩; refine ⟨_, rfl, ?_⟩; have n0_ := Aside0.mk (below_step (by repeat (first | (with_reducible first | exact HB.out | apply below_alloc | apply pw_below_drewN | apply below_drew1) | exact HB.out)) hb); clear HB; have HB := n0_; clear n0_; (try clear hb); (try clear hb2); (try clear hk); (try clear hi)) | ((with_reducible refine gate_callee (f := 58) rfl ?_); refine goesL_ (some 7) rfl rfl Try.func58 (by kernel_rfl) rfl #[.slice A0 l0.length c0, .func (.func 39) #[] #[]] rfl (by (try simp only [List.map_toArray, List.map_cons, List.map_nil]); first | done | rfl | (simp only [List.length_drop, List.length_take]; rfl)) ?_; (with_reducible refine (impl_printed.calls k _ _ l0  t234 _ ?side1 ?side2 A4.out).mono ?_); (case side1 => repeat (first | exact (Kd.C_below HR0.out HB.out) | (with_reducible refine Kd.C_alloc ?_ _) | (with_reducible refine Kd.C_drewN ?_ _) | (with_reducible refine Kd.C_drew ?_))); (case side2 => exact HC0.out); rintro e w6 ⟨rfl, hb⟩; refine ⟨_, rfl, ?_⟩; have n0_ := Aside0.mk (below_step (by repeat (first | (with_reducible first | exact HB.out | apply below_alloc | apply pw_below_drewN | apply below_drew1) | exact HB.out)) hb); clear HB; have HB := n0_; clear n0_; (try clear hb); (try clear hb2); (try clear hk); (try clear hi)))
    go_ret
    exact ⟨by first | rfl | (simp [errW_none, errW_some] <;> rfl) | (simp [*, errW_none, errW_some] <;> rfl), by repeat (first | (with_reducible first | exact HB.out | apply below_alloc | apply pw_below_drewN | apply below_drew1) | exact HB.out)⟩
  · replace c3 := Bool.eq_false_iff.mpr c3
    subst c3
    have H1 : (some (⟨#[]⟩ : ByteArray)) = some r := by rw [if_neg (show ¬ (false = true) by decide)] at H; exact H
    clear H
    have H := H1
    clear H1
    obtain rfl := Option.some.inj H
    go_enter Try.func25, Try.ntmps25
    go_wp2_with (first | ((with_reducible refine gate_callee (f := 14) rfl ?_); refine goesL_ (some 4) rfl rfl Try.func14 (by kernel_rfl) rfl #[.slice A0 l0.length c0] rfl (by (try simp only [List.map_toArray, List.map_cons, List.map_nil]); first | done | rfl | (simp only [List.length_drop, List.length_take]; rfl)) ?_; (with_reducible refine (impl_ExprOk.calls k _ _ l0 false _ ?side1 ?side2 A2.out).mono ?_); (case side1 => repeat (first | exact HR0.out | (with_reducible refine Kd.C_alloc ?_ _) | (with_reducible refine Kd.C_drewN ?_ _) | (with_reducible refine Kd.C_drew ?_))); (case side2 => exact HC0.out); rintro e w7 ⟨rfl, hb⟩; refine ⟨_, rfl, ?_⟩; have n0_ := Aside0.mk (below_step (by repeat (first | (with_reducible first | exact HB.out | apply below_alloc | apply pw_below_drewN | apply below_drew1) | exact HB.out)) hb); clear HB; have HB := n0_; clear n0_; (try clear hb); (try clear hb2); (try clear hk); (try clear hi)))
    go_ret
    exact ⟨by first | rfl | (simp [errW_none, errW_some] <;> rfl) | (simp [*, errW_none, errW_some] <;> rfl), by repeat (first | (with_reducible first | exact HB.out | apply below_alloc | apply pw_below_drewN | apply below_drew1) | exact HB.out)⟩

/-! ### laws_FnExactExprPrint: function 7 -/
def laws_FnExactExprPrint.f (k : Nat) (l0 : List (S49)) : Option (Bool) := (laws_szNodeS.f l0 1048576).bind fun t235 => (if t235 < 0 then (some true) else ((laws_toNodeS.f k l0).bind fun t236 => ((spec_ExprPrint.f k t236).bind fun t239 => ((laws_toNodeS.f k l0).bind fun t240 => ((impl_ExprPrint.f k t240).bind fun t243 => (if t243.toList = t239.toList then ((laws_toNodeS.f k l0).bind fun t244 => ((laws_eqNodeS.f k t240 t244).bind fun t247 => (if t247 = true then (some true) else (some false)))) else (some false)))))))
theorem laws_FnExactExprPrint.mono : ∀ a0 k, LeO (laws_FnExactExprPrint.f k a0) (laws_FnExactExprPrint.f (k + 1) a0) := by
  intro a0 k
  unfold laws_FnExactExprPrint.f
  repeat' first
      | (with_reducible exact impl_ExprPrint.mono _ _)
      | (with_reducible exact laws_eqNodeS.mono _ _ _)
      | (with_reducible exact laws_toNodeS.mono _ _)
      | (with_reducible exact spec_ExprPrint.mono _ _)
      | (with_reducible exact LeO.refl _)
      | (with_reducible exact LeO.none _)
      | (with_reducible refine LeO.ite ?_ ?_)
      | (with_reducible refine LeO.bind ?_ (fun _ => ?_))
      | exact impl_ExprPrint.mono _ _
      | exact laws_eqNodeS.mono _ _ _
      | exact laws_toNodeS.mono _ _
      | exact spec_ExprPrint.mono _ _
      | exact LeO.none _
      | refine LeO.ite ?_ ?_
      | refine LeO.bind ?_ (fun _ => ?_)
set_option maxHeartbeats 8000000 in
set_option maxRecDepth 100000 in
theorem laws_FnExactExprPrint.calls (k : Nat) (A0 : Option Addr) (c0 : Nat) (l0 : List (S49)) (r : Bool) (w : World) (hr0 : Kd.C k49 w A0 l0.length l0) (hc0 : l0.length ≤ c0) (h : laws_FnExactExprPrint.f k l0 = some r) :
    Calls Try.prog 7 #[.slice A0 l0.length c0] w fun e w' => e = .returned (.bool r) ∧ Below w.heap.size w w' := by
  have HR0 := Aside0.mk hr0
  have HC0 := Aside0.mk hc0
  clear hr0 hc0
  have HB := Aside0.mk (Below.refl w.heap.size w)
  have H : ((laws_szNodeS.f l0 1048576).bind fun t235 => (if t235 < 0 then (some true) else ((laws_toNodeS.f k l0).bind fun t236 => ((spec_ExprPrint.f k t236).bind fun t239 => ((laws_toNodeS.f k l0).bind fun t240 => ((impl_ExprPrint.f k t240).bind fun t243 => (if t243.toList = t239.toList then ((laws_toNodeS.f k l0).bind fun t244 => ((laws_eqNodeS.f k t240 t244).bind fun t247 => (if t247 = true then (some true) else (some false)))) else (some false)))))))) = some r := h
  clear h
  replace H := Option.bind_eq_some_iff.mp H
  obtain ⟨t235, A20, H⟩ := H
  replace H : (if t235 < 0 then (some true) else ((laws_toNodeS.f k l0).bind fun t236 => ((spec_ExprPrint.f k t236).bind fun t239 => ((laws_toNodeS.f k l0).bind fun t240 => ((impl_ExprPrint.f k t240).bind fun t243 => (if t243.toList = t239.toList then ((laws_toNodeS.f k l0).bind fun t244 => ((laws_eqNodeS.f k t240 t244).bind fun t247 => (if t247 = true then (some true) else (some false)))) else (some false))))))) = some r := H
  have A2 := Aside0.mk A20
  clear A20
  by_cases c3 : t235 < 0
  · rw [if_pos c3] at H
    have c3b0 : decide (t235 < 0) = true := decide_eq_true c3
    clear c3
    obtain rfl := Option.some.inj H
    go_enter Try.func7, Try.ntmps7
    go_wp2_with (first | ((with_reducible refine gate_callee (f := 11) rfl ?_); refine goesL_ (some 9) rfl rfl Try.func11 (by kernel_rfl) rfl #[.slice A0 l0.length c0, .int .i64 1048576] rfl (by (try simp only [List.map_toArray, List.map_cons, List.map_nil]); first | done | rfl | (simp only [List.length_drop, List.length_take]; rfl)) ?_; (with_reducible refine (laws_szNodeS.calls _ _ l0 1048576 t235 _ ?side1 ?side2 A2.out).mono ?_); (case side1 => repeat (first | exact HR0.out | (with_reducible refine Kd.C_alloc ?_ _) | (with_reducible refine Kd.C_drewN ?_ _) | (with_reducible refine Kd.C_drew ?_))); (case side2 => exact HC0.out); rintro e w' ⟨rfl, ⟨nd, rfl⟩⟩; refine ⟨_, rfl, ?_⟩))
    go_ret
    exact ⟨by first | rfl | (simp [errW_none, errW_some] <;> rfl) | (simp [*, errW_none, errW_some] <;> rfl), by repeat (first | (with_reducible first | exact HB.out | apply below_alloc | apply pw_below_drewN | apply below_drew1) | exact HB.out)⟩
  · rw [if_neg c3] at H
    have c3b0 : decide (t235 < 0) = false := decide_eq_false c3
    clear c3
    replace H := Option.bind_eq_some_iff.mp H
    obtain ⟨t236, A40, H⟩ := H
    replace H : ((spec_ExprPrint.f k t236).bind fun t239 => ((laws_toNodeS.f k l0).bind fun t240 => ((impl_ExprPrint.f k t240).bind fun t243 => (if t243.toList = t239.toList then ((laws_toNodeS.f k l0).bind fun t244 => ((laws_eqNodeS.f k t240 t244).bind fun t247 => (if t247 = true then (some true) else (some false)))) else (some false))))) = some r := H
    have A4 := Aside0.mk A40
    clear A40
    replace H := Option.bind_eq_some_iff.mp H
    obtain ⟨t239, A50, H⟩ := H
    replace H : ((laws_toNodeS.f k l0).bind fun t240 => ((impl_ExprPrint.f k t240).bind fun t243 => (if t243.toList = t239.toList then ((laws_toNodeS.f k l0).bind fun t244 => ((laws_eqNodeS.f k t240 t244).bind fun t247 => (if t247 = true then (some true) else (some false)))) else (some false)))) = some r := H
    have A5 := Aside0.mk A50
    clear A50
    replace H := Option.bind_eq_some_iff.mp H
    obtain ⟨t240, A60, H⟩ := H
    replace H : ((impl_ExprPrint.f k t240).bind fun t243 => (if t243.toList = t239.toList then ((laws_toNodeS.f k l0).bind fun t244 => ((laws_eqNodeS.f k t240 t244).bind fun t247 => (if t247 = true then (some true) else (some false)))) else (some false))) = some r := H
    have A6 := Aside0.mk A60
    clear A60
    replace H := Option.bind_eq_some_iff.mp H
    obtain ⟨t243, A70, H⟩ := H
    replace H : (if t243.toList = t239.toList then ((laws_toNodeS.f k l0).bind fun t244 => ((laws_eqNodeS.f k t240 t244).bind fun t247 => (if t247 = true then (some true) else (some false)))) else (some false)) = some r := H
    have A7 := Aside0.mk A70
    clear A70
    by_cases c8 : t243.toList = t239.toList
    · rw [if_pos c8] at H
      have c8b0 : (t243.toList == t239.toList) = true := beq_iff_eq.mpr c8
      have c8b1 : (t243.toList != t239.toList) = false := bne_eq_false_iff_eq.mpr c8
      clear c8
      replace H := Option.bind_eq_some_iff.mp H
      obtain ⟨t244, A90, H⟩ := H
      replace H : ((laws_eqNodeS.f k t240 t244).bind fun t247 => (if t247 = true then (some true) else (some false))) = some r := H
      have A9 := Aside0.mk A90
      clear A90
      replace H := Option.bind_eq_some_iff.mp H
      obtain ⟨t247, A100, H⟩ := H
      replace H : (if t247 = true then (some true) else (some false)) = some r := H
      have A10 := Aside0.mk A100
      clear A100
      by_cases c11 : t247 = true
      · subst c11
        have H1 : (some true) = some r := by rw [if_pos rfl] at H; exact H
        clear H
        have H := H1
        clear H1
        obtain rfl := Option.some.inj H
        go_enter Try.func7, Try.ntmps7
        go_wp2_with (first | ((with_reducible refine gate_callee (f := 11) rfl ?_); refine goesL_ (some 9) rfl rfl Try.func11 (by kernel_rfl) rfl #[.slice A0 l0.length c0, .int .i64 1048576] rfl (by (try simp only [List.map_toArray, List.map_cons, List.map_nil]); first | done | rfl | (simp only [List.length_drop, List.length_take]; rfl)) ?_; (with_reducible refine (laws_szNodeS.calls _ _ l0 1048576 t235 _ ?side1 ?side2 A2.out).mono ?_); (case side1 => repeat (first | exact HR0.out | (with_reducible refine Kd.C_alloc ?_ _) | (with_reducible refine Kd.C_drewN ?_ _) | (with_reducible refine Kd.C_drew ?_))); (case side2 => exact HC0.out); rintro e w' ⟨rfl, ⟨nd, rfl⟩⟩; refine ⟨_, rfl, ?_⟩) | ((with_reducible refine gate_callee (f := 13) rfl ?_); refine goesL_ (some 13) rfl rfl Try.func13 (by kernel_rfl) rfl #[.slice A0 l0.length c0] rfl (by (try simp only [List.map_toArray, List.map_cons, List.map_nil]); first | done | rfl | (simp only [List.length_drop, List.length_take]; rfl)) ?_; (with_reducible refine (laws_toNodeS.calls k _ _ l0 t236 _ ?side1 ?side2 A4.out).mono ?_); (case side1 => repeat (first | exact HR0.out | (with_reducible refine Kd.C_alloc ?_ _) | (with_reducible refine Kd.C_drewN ?_ _) | (with_reducible refine Kd.C_drew ?_))); (case side2 => exact HC0.out); rintro e w12 ⟨v237, rfl, ho0, hb⟩; refine ⟨_, rfl, ?_⟩; have n0_ := Aside0.mk (Kd.R_lower ho0 (below_size (by repeat (first | (with_reducible first | exact HB.out | apply below_alloc | apply pw_below_drewN | apply below_drew1) | exact HB.out)))); have n1_ := Aside0.mk (below_step (by repeat (first | (with_reducible first | exact HB.out | apply below_alloc | apply pw_below_drewN | apply below_drew1) | exact HB.out)) hb); clear HB; have HO238 := n0_; have HB := n1_; clear n0_ n1_; (try clear hb); (try clear hb2); (try clear hk); (try clear hi); (try clear ho0); obtain ⟨Ao13, co13, eo13⟩ := Kd.R_slice HO238.out; subst eo13) | ((with_reducible refine gate_callee (f := 24) rfl ?_); refine goesL_ (some 14) rfl rfl Try.func24 (by kernel_rfl) rfl #[.slice Ao13 t236.length co13] rfl (by (try simp only [List.map_toArray, List.map_cons, List.map_nil]); first | done | rfl | (simp only [List.length_drop, List.length_take]; rfl)) ?_; (with_reducible refine (spec_ExprPrint.calls k _ _ t236 t239 _ ?side1 ?side2 A5.out).mono ?_); (case side1 => repeat (first | exact (Kd.R_reads' HO238.out).2.2 | (with_reducible refine Kd.C_alloc ?_ _) | (with_reducible refine Kd.C_drewN ?_ _) | (with_reducible refine Kd.C_drew ?_))); (case side2 => exact (Kd.R_reads' HO238.out).2.1); rintro e w14 ⟨rfl, hb⟩; refine ⟨_, rfl, ?_⟩; have n0_ := Aside0.mk (Kd.R_below (by (with_reducible repeat (first | apply Kd.R_alloc | apply Kd.R_drewN | apply Kd.R_drew)); exact HO238.out) hb); have n1_ := Aside0.mk (below_step (by repeat (first | (with_reducible first | exact HB.out | apply below_alloc | apply pw_below_drewN | apply below_drew1) | exact HB.out)) hb); clear HO238; clear HB; have HO238 := n0_; have HB := n1_; clear n0_ n1_; (try clear hb); (try clear hb2); (try clear hk); (try clear hi)) | ((with_reducible refine gate_callee (f := 13) rfl ?_); refine goesL_ (some 16) rfl rfl Try.func13 (by kernel_rfl) rfl #[.slice A0 l0.length c0] rfl (by (try simp only [List.map_toArray, List.map_cons, List.map_nil]); first | done | rfl | (simp only [List.length_drop, List.length_take]; rfl)) ?_; (with_reducible refine (laws_toNodeS.calls k _ _ l0 t240 _ ?side1 ?side2 A6.out).mono ?_); (case side1 => repeat (first | exact (Kd.C_below HR0.out HB.out) | (with_reducible refine Kd.C_alloc ?_ _) | (with_reducible refine Kd.C_drewN ?_ _) | (with_reducible refine Kd.C_drew ?_))); (case side2 => exact HC0.out); rintro e w15 ⟨v241, rfl, ho0, hb⟩; refine ⟨_, rfl, ?_⟩; have n0_ := Aside0.mk (Kd.R_elder' (by (with_reducible repeat (first | apply Kd.R_alloc | apply Kd.R_drewN | apply Kd.R_drew)); exact HO238.out) (Kd.R_base ho0) hb); have n1_ := Aside0.mk (Kd.R_lower (Kd.R_new' ho0 (Kd.R_lt (by (with_reducible repeat (first | apply Kd.R_alloc | apply Kd.R_drewN | apply Kd.R_drew)); exact HO238.out))) (below_size (by repeat (first | (with_reducible first | exact HB.out | apply below_alloc | apply pw_below_drewN | apply below_drew1) | exact HB.out)))); have n2_ := Aside0.mk (below_step (by repeat (first | (with_reducible first | exact HB.out | apply below_alloc | apply pw_below_drewN | apply below_drew1) | exact HB.out)) hb); clear HO238; clear HB; have HO238 := n0_; have HO242 := n1_; have HB := n2_; clear n0_ n1_ n2_; (try clear hb); (try clear hb2); (try clear hk); (try clear hi); (try clear ho0); obtain ⟨Ao16, co16, eo16⟩ := Kd.R_slice HO242.out; subst eo16) | ((with_reducible refine gate_callee (f := 25) rfl ?_); refine goesL_ (some 18) rfl rfl Try.func25 (by kernel_rfl) rfl #[.slice Ao16 t240.length co16] rfl (by (try simp only [List.map_toArray, List.map_cons, List.map_nil]); first | done | rfl | (simp only [List.length_drop, List.length_take]; rfl)) ?_; (with_reducible refine (impl_ExprPrint.calls k _ _ t240 t243 _ ?side1 ?side2 A7.out).mono ?_); (case side1 => repeat (first | exact (Kd.R_reads' HO242.out).2.2 | (with_reducible refine Kd.C_alloc ?_ _) | (with_reducible refine Kd.C_drewN ?_ _) | (with_reducible refine Kd.C_drew ?_))); (case side2 => exact (Kd.R_reads' HO242.out).2.1); rintro e w17 ⟨rfl, hb⟩; refine ⟨_, rfl, ?_⟩; have n0_ := Aside0.mk (Kd.R_below (by (with_reducible repeat (first | apply Kd.R_alloc | apply Kd.R_drewN | apply Kd.R_drew)); exact HO238.out) hb); have n1_ := Aside0.mk (Kd.R_below (by (with_reducible repeat (first | apply Kd.R_alloc | apply Kd.R_drewN | apply Kd.R_drew)); exact HO242.out) hb); have n2_ := Aside0.mk (below_step (by repeat (first | (with_reducible first | exact HB.out | apply below_alloc | apply pw_below_drewN | apply below_drew1) | exact HB.out)) hb); clear HO238; clear HO242; clear HB; have HO238 := n0_; have HO242 := n1_; have HB := n2_; clear n0_ n1_ n2_; (try clear hb); (try clear hb2); (try clear hk); (try clear hi)) | ((with_reducible refine gate_callee (f := 13) rfl ?_); refine goesL_ (some 24) rfl rfl Try.func13 (by kernel_rfl) rfl #[.slice A0 l0.length c0] rfl (by (try simp only [List.map_toArray, List.map_cons, List.map_nil]); first | done | rfl | (simp only [List.length_drop, List.length_take]; rfl)) ?_; (with_reducible refine (laws_toNodeS.calls k _ _ l0 t244 _ ?side1 ?side2 A9.out).mono ?_); (case side1 => repeat (first | exact (Kd.C_below HR0.out HB.out) | (with_reducible refine Kd.C_alloc ?_ _) | (with_reducible refine Kd.C_drewN ?_ _) | (with_reducible refine Kd.C_drew ?_))); (case side2 => exact HC0.out); rintro e w18 ⟨v245, rfl, ho0, hb⟩; refine ⟨_, rfl, ?_⟩; have n0_ := Aside0.mk (Kd.R_elder' (by (with_reducible repeat (first | apply Kd.R_alloc | apply Kd.R_drewN | apply Kd.R_drew)); exact HO238.out) (Kd.R_base ho0) hb); have n1_ := Aside0.mk (Kd.R_elder' (by (with_reducible repeat (first | apply Kd.R_alloc | apply Kd.R_drewN | apply Kd.R_drew)); exact HO242.out) (Kd.R_base ho0) hb); have n2_ := Aside0.mk (Kd.R_lower (Kd.R_new' (Kd.R_new' ho0 (Kd.R_lt (by (with_reducible repeat (first | apply Kd.R_alloc | apply Kd.R_drewN | apply Kd.R_drew)); exact HO238.out))) (Kd.R_lt (by (with_reducible repeat (first | apply Kd.R_alloc | apply Kd.R_drewN | apply Kd.R_drew)); exact HO242.out))) (below_size (by repeat (first | (with_reducible first | exact HB.out | apply below_alloc | apply pw_below_drewN | apply below_drew1) | exact HB.out)))); have n3_ := Aside0.mk (below_step (by repeat (first | (with_reducible first | exact HB.out | apply below_alloc | apply pw_below_drewN | apply below_drew1) | exact HB.out)) hb); clear HO238; clear HO242; clear HB; have HO238 := n0_; have HO242 := n1_; have HO246 := n2_; have HB := n3_; clear n0_ n1_ n2_ n3_; (try clear hb); (try clear hb2); (try clear hk); (try clear hi); (try clear ho0); obtain ⟨Ao19, co19, eo19⟩ := Kd.R_slice HO246.out; subst eo19) | ((with_reducible refine gate_callee (f := 15) rfl ?_); refine goesL_ (some 25) rfl rfl Try.func15 (by kernel_rfl) rfl #[.slice Ao16 t240.length co16, .slice Ao19 t244.length co19] rfl (by (try simp only [List.map_toArray, List.map_cons, List.map_nil]); first | done | rfl | (simp only [List.length_drop, List.length_take]; rfl)) ?_; (with_reducible refine (laws_eqNodeS.calls k _ _ t240 _ _ t244 true _ ?side1 ?side2 ?side3 ?side4 A10.out).mono ?_); (case side1 => repeat (first | exact (Kd.R_reads' HO242.out).2.2 | (with_reducible refine Kd.C_alloc ?_ _) | (with_reducible refine Kd.C_drewN ?_ _) | (with_reducible refine Kd.C_drew ?_))); (case side2 => exact (Kd.R_reads' HO242.out).2.1); (case side3 => repeat (first | exact (Kd.R_reads' HO246.out).2.2 | (with_reducible refine Kd.C_alloc ?_ _) | (with_reducible refine Kd.C_drewN ?_ _) | (with_reducible refine Kd.C_drew ?_))); (case side4 => exact (Kd.R_reads' HO246.out).2.1); rintro e w20 ⟨rfl, hb⟩; refine ⟨_, rfl, ?_⟩; have n0_ := Aside0.mk (Kd.R_below (by (with_reducible repeat (first | apply Kd.R_alloc | apply Kd.R_drewN | apply Kd.R_drew)); exact HO238.out) hb); have n1_ := Aside0.mk (Kd.R_below (by (with_reducible repeat (first | apply Kd.R_alloc | apply Kd.R_drewN | apply Kd.R_drew)); exact HO242.out) hb); have n2_ := Aside0.mk (Kd.R_below (by (with_reducible repeat (first | apply Kd.R_alloc | apply Kd.R_drewN | apply Kd.R_drew)); exact HO246.out) hb); have n3_ := Aside0.mk (below_step (by repeat (first | (with_reducible first | exact HB.out | apply below_alloc | apply pw_below_drewN | apply below_drew1) | exact HB.out)) hb); clear HO238; clear HO242; clear HO246; clear HB; have HO238 := n0_; have HO242 := n1_; have HO246 := n2_; have HB := n3_; clear n0_ n1_ n2_ n3_; (try clear hb); (try clear hb2); (try clear hk); (try clear hi)))
        go_ret
        exact ⟨by first | rfl | (simp [errW_none, errW_some] <;> rfl) | (simp [*, errW_none, errW_some] <;> rfl), by repeat (first | (with_reducible first | exact HB.out | apply below_alloc | apply pw_below_drewN | apply below_drew1) | exact HB.out)⟩
      · replace c11 := Bool.eq_false_iff.mpr c11
        subst c11
        have H1 : (some false) = some r := by rw [if_neg (show ¬ (false = true) by decide)] at H; exact H
        clear H
        have H := H1
        clear H1
        obtain rfl := Option.some.inj H
        go_enter Try.func7, Try.ntmps7
        go_wp2_with (first | ((with_reducible refine gate_callee (f := 11) rfl ?_); refine goesL_ (some 9) rfl rfl Try.func11 (by kernel_rfl) rfl #[.slice A0 l0.length c0, .int .i64 1048576] rfl (by (try simp only [List.map_toArray, List.map_cons, List.map_nil]); first | done | rfl | (simp only [List.length_drop, List.length_take]; rfl)) ?_; (with_reducible refine (laws_szNodeS.calls _ _ l0 1048576 t235 _ ?side1 ?side2 A2.out).mono ?_); (case side1 => repeat (first | exact HR0.out | (with_reducible refine Kd.C_alloc ?_ _) | (with_reducible refine Kd.C_drewN ?_ _) | (with_reducible refine Kd.C_drew ?_))); (case side2 => exact HC0.out); rintro e w' ⟨rfl, ⟨nd, rfl⟩⟩; refine ⟨_, rfl, ?_⟩) | ((with_reducible refine gate_callee (f := 13) rfl ?_); refine goesL_ (some 13) rfl rfl Try.func13 (by kernel_rfl) rfl #[.slice A0 l0.length c0] rfl (by (try simp only [List.map_toArray, List.map_cons, List.map_nil]); first | done | rfl | (simp only [List.length_drop, List.length_take]; rfl)) ?_; (with_reducible refine (laws_toNodeS.calls k _ _ l0 t236 _ ?side1 ?side2 A4.out).mono ?_); (case side1 => repeat (first | exact HR0.out | (with_reducible refine Kd.C_alloc ?_ _) | (with_reducible refine Kd.C_drewN ?_ _) | (with_reducible refine Kd.C_drew ?_))); (case side2 => exact HC0.out); rintro e w21 ⟨v237, rfl, ho0, hb⟩; refine ⟨_, rfl, ?_⟩; have n0_ := Aside0.mk (Kd.R_lower ho0 (below_size (by repeat (first | (with_reducible first | exact HB.out | apply below_alloc | apply pw_below_drewN | apply below_drew1) | exact HB.out)))); have n1_ := Aside0.mk (below_step (by repeat (first | (with_reducible first | exact HB.out | apply below_alloc | apply pw_below_drewN | apply below_drew1) | exact HB.out)) hb); clear HB; have HO238 := n0_; have HB := n1_; clear n0_ n1_; (try clear hb); (try clear hb2); (try clear hk); (try clear hi); (try clear ho0); obtain ⟨Ao22, co22, eo22⟩ := Kd.R_slice HO238.out; subst eo22) | ((with_reducible refine gate_callee (f := 24) rfl ?_); refine goesL_ (some 14) rfl rfl Try.func24 (by kernel_rfl) rfl #[.slice Ao22 t236.length co22] rfl (by (try simp only [List.map_toArray, List.map_cons, List.map_nil]); first | done | rfl | (simp only [List.length_drop, List.length_take]; rfl)) ?_; (with_reducible refine (spec_ExprPrint.calls k _ _ t236 t239 _ ?side1 ?side2 A5.out).mono ?_); (case side1 => repeat (first | exact (Kd.R_reads' HO238.out).2.2 | (with_reducible refine Kd.C_alloc ?_ _) | (with_reducible refine Kd.C_drewN ?_ _) | (with_reducible refine Kd.C_drew ?_))); (case side2 => exact (Kd.R_reads' HO238.out).2.1); rintro e w23 ⟨rfl, hb⟩; refine ⟨_, rfl, ?_⟩; have n0_ := Aside0.mk (Kd.R_below (by (with_reducible repeat (first | apply Kd.R_alloc | apply Kd.R_drewN | apply Kd.R_drew)); exact HO238.out) hb); have n1_ := Aside0.mk (below_step (by repeat (first | (with_reducible first | exact HB.out | apply below_alloc | apply pw_below_drewN | apply below_drew1) | exact HB.out)) hb); clear HO238; clear HB; have HO238 := n0_; have HB := n1_; clear n0_ n1_; (try clear hb); (try clear hb2); (try clear hk); (try clear hi)) | ((with_reducible refine gate_callee (f := 13) rfl ?_); refine goesL_ (some 16) rfl rfl Try.func13 (by kernel_rfl) rfl #[.slice A0 l0.length c0] rfl (by (try simp only [List.map_toArray, List.map_cons, List.map_nil]); first | done | rfl | (simp only [List.length_drop, List.length_take]; rfl)) ?_; (with_reducible refine (laws_toNodeS.calls k _ _ l0 t240 _ ?side1 ?side2 A6.out).mono ?_); (case side1 => repeat (first | exact (Kd.C_below HR0.out HB.out) | (with_reducible refine Kd.C_alloc ?_ _) | (with_reducible refine Kd.C_drewN ?_ _) | (with_reducible refine Kd.C_drew ?_))); (case side2 => exact HC0.out); rintro e w24 ⟨v241, rfl, ho0, hb⟩; refine ⟨_, rfl, ?_⟩; have n0_ := Aside0.mk (Kd.R_elder' (by (with_reducible repeat (first | apply Kd.R_alloc | apply Kd.R_drewN | apply Kd.R_drew)); exact HO238.out) (Kd.R_base ho0) hb); have n1_ := Aside0.mk (Kd.R_lower (Kd.R_new' ho0 (Kd.R_lt (by (with_reducible repeat (first | apply Kd.R_alloc | apply Kd.R_drewN | apply Kd.R_drew)); exact HO238.out))) (below_size (by repeat (first | (with_reducible first | exact HB.out | apply below_alloc | apply pw_below_drewN | apply below_drew1) | exact HB.out)))); have n2_ := Aside0.mk (below_step (by repeat (first | (with_reducible first | exact HB.out | apply below_alloc | apply pw_below_drewN | apply below_drew1) | exact HB.out)) hb); clear HO238; clear HB; have HO238 := n0_; have HO242 := n1_; have HB := n2_; clear n0_ n1_ n2_; (try clear hb); (try clear hb2); (try clear hk); (try clear hi); (try clear ho0); obtain ⟨Ao25, co25, eo25⟩ := Kd.R_slice HO242.out; subst eo25) | ((with_reducible refine gate_callee (f := 25) rfl ?_); refine goesL_ (some 18) rfl rfl Try.func25 (by kernel_rfl) rfl #[.slice Ao25 t240.length co25] rfl (by (try simp only [List.map_toArray, List.map_cons, List.map_nil]); first | done | rfl | (simp only [List.length_drop, List.length_take]; rfl)) ?_; (with_reducible refine (impl_ExprPrint.calls k _ _ t240 t243 _ ?side1 ?side2 A7.out).mono ?_); (case side1 => repeat (first | exact (Kd.R_reads' HO242.out).2.2 | (with_reducible refine Kd.C_alloc ?_ _) | (with_reducible refine Kd.C_drewN ?_ _) | (with_reducible refine Kd.C_drew ?_))); (case side2 => exact (Kd.R_reads' HO242.out).2.1); rintro e w26 ⟨rfl, hb⟩; refine ⟨_, rfl, ?_⟩; have n0_ := Aside0.mk (Kd.R_below (by (with_reducible repeat (first | apply Kd.R_alloc | apply Kd.R_drewN | apply Kd.R_drew)); exact HO238.out) hb); have n1_ := Aside0.mk (Kd.R_below (by (with_reducible repeat (first | apply Kd.R_alloc | apply Kd.R_drewN | apply Kd.R_drew)); exact HO242.out) hb); have n2_ := Aside0.mk (below_step (by repeat (first | (with_reducible first | exact HB.out | apply below_alloc | apply pw_below_drewN | apply below_drew1) | exact HB.out)) hb); clear HO238; clear HO242; clear HB; have HO238 := n0_; have HO242 := n1_; have HB := n2_; clear n0_ n1_ n2_; (try clear hb); (try clear hb2); (try clear hk); (try clear hi)) | ((with_reducible refine gate_callee (f := 13) rfl ?_); refine goesL_ (some 24) rfl rfl Try.func13 (by kernel_rfl) rfl #[.slice A0 l0.length c0] rfl (by (try simp only [List.map_toArray, List.map_cons, List.map_nil]); first | done | rfl | (simp only [List.length_drop, List.length_take]; rfl)) ?_; (with_reducible refine (laws_toNodeS.calls k _ _ l0 t244 _ ?side1 ?side2 A9.out).mono ?_); (case side1 => repeat (first | exact (Kd.C_below HR0.out HB.out) | (with_reducible refine Kd.C_alloc ?_ _) | (with_reducible refine Kd.C_drewN ?_ _) | (with_reducible refine Kd.C_drew ?_))); (case side2 => exact HC0.out); rintro e w27 ⟨v245, rfl, ho0, hb⟩; refine ⟨_, rfl, ?_⟩; have n0_ := Aside0.mk (Kd.R_elder' (by (with_reducible repeat (first | apply Kd.R_alloc | apply Kd.R_drewN | apply Kd.R_drew)); exact HO238.out) (Kd.R_base ho0) hb); have n1_ := Aside0.mk (Kd.R_elder' (by (with_reducible repeat (first | apply Kd.R_alloc | apply Kd.R_drewN | apply Kd.R_drew)); exact HO242.out) (Kd.R_base ho0) hb); have n2_ := Aside0.mk (Kd.R_lower (Kd.R_new' (Kd.R_new' ho0 (Kd.R_lt (by (with_reducible repeat (first | apply Kd.R_alloc | apply Kd.R_drewN | apply Kd.R_drew)); exact HO238.out))) (Kd.R_lt (by (with_reducible repeat (first | apply Kd.R_alloc | apply Kd.R_drewN | apply Kd.R_drew)); exact HO242.out))) (below_size (by repeat (first | (with_reducible first | exact HB.out | apply below_alloc | apply pw_below_drewN | apply below_drew1) | exact HB.out)))); have n3_ := Aside0.mk (below_step (by repeat (first | (with_reducible first | exact HB.out | apply below_alloc | apply pw_below_drewN | apply below_drew1) | exact HB.out)) hb); clear HO238; clear HO242; clear HB; have HO238 := n0_; have HO242 := n1_; have HO246 := n2_; have HB := n3_; clear n0_ n1_ n2_ n3_; (try clear hb); (try clear hb2); (try clear hk); (try clear hi); (try clear ho0); obtain ⟨Ao28, co28, eo28⟩ := Kd.R_slice HO246.out; subst eo28) | ((with_reducible refine gate_callee (f := 15) rfl ?_); refine goesL_ (some 25) rfl rfl Try.func15 (by kernel_rfl) rfl #[.slice Ao25 t240.length co25, .slice Ao28 t244.length co28] rfl (by (try simp only [List.map_toArray, List.map_cons, List.map_nil]); first | done | rfl | (simp only [List.length_drop, List.length_take]; rfl)) ?_; (with_reducible refine (laws_eqNodeS.calls k _ _ t240 _ _ t244 false _ ?side1 ?side2 ?side3 ?side4 A10.out).mono ?_); (case side1 => repeat (first | exact (Kd.R_reads' HO242.out).2.2 | (with_reducible refine Kd.C_alloc ?_ _) | (with_reducible refine Kd.C_drewN ?_ _) | (with_reducible refine Kd.C_drew ?_))); (case side2 => exact (Kd.R_reads' HO242.out).2.1); (case side3 => repeat (first | exact (Kd.R_reads' HO246.out).2.2 | (with_reducible refine Kd.C_alloc ?_ _) | (with_reducible refine Kd.C_drewN ?_ _) | (with_reducible refine Kd.C_drew ?_))); (case side4 => exact (Kd.R_reads' HO246.out).2.1); rintro e w29 ⟨rfl, hb⟩; refine ⟨_, rfl, ?_⟩; have n0_ := Aside0.mk (Kd.R_below (by (with_reducible repeat (first | apply Kd.R_alloc | apply Kd.R_drewN | apply Kd.R_drew)); exact HO238.out) hb); have n1_ := Aside0.mk (Kd.R_below (by (with_reducible repeat (first | apply Kd.R_alloc | apply Kd.R_drewN | apply Kd.R_drew)); exact HO242.out) hb); have n2_ := Aside0.mk (Kd.R_below (by (with_reducible repeat (first | apply Kd.R_alloc | apply Kd.R_drewN | apply Kd.R_drew)); exact HO246.out) hb); have n3_ := Aside0.mk (below_step (by repeat (first | (with_reducible first | exact HB.out | apply below_alloc | apply pw_below_drewN | apply below_drew1) | exact HB.out)) hb); clear HO238; clear HO242; clear HO246; clear HB; have HO238 := n0_; have HO242 := n1_; have HO246 := n2_; have HB := n3_; clear n0_ n1_ n2_ n3_; (try clear hb); (try clear hb2); (try clear hk); (try clear hi)))
        go_ret
        exact ⟨by first | rfl | (simp [errW_none, errW_some] <;> rfl) | (simp [*, errW_none, errW_some] <;> rfl), by repeat (first | (with_reducible first | exact HB.out | apply below_alloc | apply pw_below_drewN | apply below_drew1) | exact HB.out)⟩
    · rw [if_neg c8] at H
      have c8b0 : (t243.toList == t239.toList) = false := beq_eq_false_iff_ne.mpr c8
      have c8b1 : (t243.toList != t239.toList) = true := bne_iff_ne.mpr c8
      obtain rfl := Option.some.inj H
      go_enter Try.func7, Try.ntmps7
      go_wp2_with (first | ((with_reducible refine gate_callee (f := 11) rfl ?_); refine goesL_ (some 9) rfl rfl Try.func11 (by kernel_rfl) rfl #[.slice A0 l0.length c0, .int .i64 1048576] rfl (by (try simp only [List.map_toArray, List.map_cons, List.map_nil]); first | done | rfl | (simp only [List.length_drop, List.length_take]; rfl)) ?_; (with_reducible refine (laws_szNodeS.calls _ _ l0 1048576 t235 _ ?side1 ?side2 A2.out).mono ?_); (case side1 => repeat (first | exact HR0.out | (with_reducible refine Kd.C_alloc ?_ _) | (with_reducible refine Kd.C_drewN ?_ _) | (with_reducible refine Kd.C_drew ?_))); (case side2 => exact HC0.out); rintro e w' ⟨rfl, ⟨nd, rfl⟩⟩; refine ⟨_, rfl, ?_⟩) | ((with_reducible refine gate_callee (f := 13) rfl ?_); refine goesL_ (some 13) rfl rfl Try.func13 (by kernel_rfl) rfl #[.slice A0 l0.length c0] rfl (by (try simp only [List.map_toArray, List.map_cons, List.map_nil]); first | done | rfl | (simp only [List.length_drop, List.length_take]; rfl)) ?_; (with_reducible refine (laws_toNodeS.calls k _ _ l0 t236 _ ?side1 ?side2 A4.out).mono ?_); (case side1 => repeat (first | exact HR0.out | (with_reducible refine Kd.C_alloc ?_ _) | (with_reducible refine Kd.C_drewN ?_ _) | (with_reducible refine Kd.C_drew ?_))); (case side2 => exact HC0.out); rintro e w30 ⟨v237, rfl, ho0, hb⟩; refine ⟨_, rfl, ?_⟩; have n0_ := Aside0.mk (Kd.R_lower ho0 (below_size (by repeat (first | (with_reducible first | exact HB.out | apply below_alloc | apply pw_below_drewN | apply below_drew1) | exact HB.out)))); have n1_ := Aside0.mk (below_step (by repeat (first | (with_reducible first | exact HB.out | apply below_alloc | apply pw_below_drewN | apply below_drew1) | exact HB.out)) hb); clear HB; have HO238 := n0_; have HB := n1_; clear n0_ n1_; (try clear hb); (try clear hb2); (try clear hk); (try clear hi); (try clear ho0); obtain ⟨Ao31, co31, eo31⟩ := Kd.R_slice HO238.out; subst eo31) | ((with_reducible refine gate_callee (f := 24) rfl ?_); refine goesL_ (some 14) rfl rfl Try.func24 (by kernel_rfl) rfl #[.slice Ao31 t236.length co31] rfl (by (try simp only [List.map_toArray, List.map_cons, List.map_nil]); first | done | rfl | (simp only [List.length_drop, List.length_take]; rfl)) ?_; (with_reducible refine (spec_ExprPrint.calls k _ _ t236 t239 _ ?side1 ?side2 A5.out).mono ?_); (case side1 => repeat (first | exact (Kd.R_reads' HO238.out).2.2 | (with_reducible refine Kd.C_alloc ?_ _) | (with_reducible refine Kd.C_drewN ?_ _) | (with_reducible refine Kd.C_drew ?_))); (case side2 => exact (Kd.R_reads' HO238.out).2.1); rintro e w32 ⟨rfl, hb⟩; refine ⟨_, rfl, ?_⟩; have n0_ := Aside0.mk (Kd.R_below (by (with_reducible repeat (first | apply Kd.R_alloc | apply Kd.R_drewN | apply Kd.R_drew)); exact HO238.out) hb); have n1_ := Aside0.mk (below_step (by repeat (first | (with_reducible first | exact HB.out | apply below_alloc | apply pw_below_drewN | apply below_drew1) | exact HB.out)) hb); clear HO238; clear HB; have HO238 := n0_; have HB := n1_; clear n0_ n1_; (try clear hb); (try clear hb2); (try clear hk); (try clear hi)) | ((with_reducible refine gate_callee (f := 13) rfl ?_); refine goesL_ (some 16) rfl rfl Try.func13 (by kernel_rfl) rfl #[.slice A0 l0.length c0] rfl (by (try simp only [List.map_toArray, List.map_cons, List.map_nil]); first | done | rfl | (simp only [List.length_drop, List.length_take]; rfl)) ?_; (with_reducible refine (laws_toNodeS.calls k _ _ l0 t240 _ ?side1 ?side2 A6.out).mono ?_); (case side1 => repeat (first | exact (Kd.C_below HR0.out HB.out) | (with_reducible refine Kd.C_alloc ?_ _) | (with_reducible refine Kd.C_drewN ?_ _) | (with_reducible refine Kd.C_drew ?_))); (case side2 => exact HC0.out); rintro e w33 ⟨v241, rfl, ho0, hb⟩; refine ⟨_, rfl, ?_⟩; have n0_ := Aside0.mk (Kd.R_elder' (by (with_reducible repeat (first | apply Kd.R_alloc | apply Kd.R_drewN | apply Kd.R_drew)); exact HO238.out) (Kd.R_base ho0) hb); have n1_ := Aside0.mk (Kd.R_lower (Kd.R_new' ho0 (Kd.R_lt (by (with_reducible repeat (first | apply Kd.R_alloc | apply Kd.R_drewN | apply Kd.R_drew)); exact HO238.out))) (below_size (by repeat (first | (with_reducible first | exact HB.out | apply below_alloc | apply pw_below_drewN | apply below_drew1) | exact HB.out)))); have n2_ := Aside0.mk (below_step (by repeat (first | (with_reducible first | exact HB.out | apply below_alloc | apply pw_below_drewN | apply below_drew1) | exact HB.out)) hb); clear HO238; clear HB; have HO238 := n0_; have HO242 := n1_; have HB := n2_; clear n0_ n1_ n2_; (try clear hb); (try clear hb2); (try clear hk); (try clear hi); (try clear ho0); obtain ⟨Ao34, co34, eo34⟩ := Kd.R_slice HO242.out; subst eo34) | ((with_reducible refine gate_callee (f := 25) rfl ?_); refine goesL_ (some 18) rfl rfl Try.func25 (by kernel_rfl) rfl #[.slice Ao34 t240.length co34] rfl (by (try simp only [List.map_toArray, List.map_cons, List.map_nil]); first | done | rfl | (simp only [List.length_drop, List.length_take]; rfl)) ?_; (with_reducible refine (impl_ExprPrint.calls k _ _ t240 t243 _ ?side1 ?side2 A7.out).mono ?_); (case side1 => repeat (first | exact (Kd.R_reads' HO242.out).2.2 | (with_reducible refine Kd.C_alloc ?_ _) | (with_reducible refine Kd.C_drewN ?_ _) | (with_reducible refine Kd.C_drew ?_))); (case side2 => exact (Kd.R_reads' HO242.out).2.1); rintro e w35 ⟨rfl, hb⟩; refine ⟨_, rfl, ?_⟩; have n0_ := Aside0.mk (Kd.R_below (by (with_reducible repeat (first | apply Kd.R_alloc | apply Kd.R_drewN | apply Kd.R_drew)); exact HO238.out) hb); have n1_ := Aside0.mk (Kd.R_below (by (with_reducible repeat (first | apply Kd.R_alloc | apply Kd.R_drewN | apply Kd.R_drew)); exact HO242.out) hb); have n2_ := Aside0.mk (below_step (by repeat (first | (with_reducible first | exact HB.out | apply below_alloc | apply pw_below_drewN | apply below_drew1) | exact HB.out)) hb); clear HO238; clear HO242; clear HB; have HO238 := n0_; have HO242 := n1_; have HB := n2_; clear n0_ n1_ n2_; (try clear hb); (try clear hb2); (try clear hk); (try clear hi)))
      go_ret
      exact ⟨by first | rfl | (simp [errW_none, errW_some] <;> rfl) | (simp [*, errW_none, errW_some] <;> rfl), by repeat (first | (with_reducible first | exact HB.out | apply below_alloc | apply pw_below_drewN | apply below_drew1) | exact HB.out)⟩

/-- THE ONE PURE STATEMENT of laws_FnExactExprPrint. -/
def laws_FnExactExprPrint.Pure : Prop := ∀ (l0 : List (S49)), l0.length ≤ 9223372036854775807 → (∀ x ∈ l0, ((Lit.int .i64 x.f0).wf = true ∧ (Lit.int .i64 x.f1).wf = true ∧ (Lit.int .i64 x.f2).wf = true)) → ∃ k, laws_FnExactExprPrint.f k l0 = some true

end Go.Proofs.Ytjnieoogddmmcaa.MFnExactExprPrint
