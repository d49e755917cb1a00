-- Written by a program of this session, out of Lean's print of the translation. Not trusted: Lean checks it.
import Derived.Test.YtigmokdcanebeaaMFnMakex0
import Derived.Test.YtigmokdcanebeaaMFnMakex1
namespace Go.Proofs.Ytigmokdcanebeaa.MFnMake
open Go.RowKit Go.Proofs.YtigmokdcanebeaaW.PrintWords Go.Proofs.YtigmokdcanebeaaW.PrintLast Go.Proofs.YtigmokdcanebeaaW.PrintMore
attribute [local go_sem] max2_int min2_int max_two min_two max_three min_three max_four min_four   -- for this text's walks alone
set_option linter.unusedVariables false
set_option linter.unusedSimpArgs false

section
open Go.Proofs.Ytigmokdcanebeaa.Short2.T
abbrev impl_compareEdges.bl0 : Array Bool := #[f, f, f, f, f, f, f, f, f, f, f, f, f, f, f, f, f, f]
abbrev impl_compareEdges.bl1 : Array Bool := #[t, f, f, f, f, f, f, f, f, f, f, f, f, f, f, f, f, f]
abbrev impl_compareEdges.bl2 : Array Bool := #[t, f, t, f, f, f, f, f, f, f, f, f, f, f, f, f, f, f]
abbrev impl_compareEdges.bl3 : Array Bool := #[t, f, t, f, f, t, f, f, f, f, f, f, f, f, f, f, f, f]
abbrev impl_compareEdges.bl4 : Array Bool := #[t, f, t, f, f, t, f, t, f, f, f, f, f, f, f, f, f, f]
abbrev impl_compareEdges.bl5 : Array Bool := #[t, f, t, f, f, t, f, t, f, f, t, f, f, f, f, f, f, f]
abbrev impl_compareEdges.bl6 : Array Bool := #[t, f, t, f, f, t, f, t, f, f, t, f, t, f, f, f, f, f]
abbrev impl_compareEdges.bl7 : Array Bool := #[t, t, t, f, f, t, f, t, f, f, t, f, t, f, f, f, f, f]
abbrev impl_compareEdges.bl8 : Array Bool := #[t, t, t, t, f, t, f, t, f, f, t, f, t, f, f, f, f, f]
abbrev impl_compareEdges.bl9 : Array Bool := #[t, t, t, t, f, t, t, t, f, f, t, f, t, f, f, f, f, f]
abbrev impl_compareEdges.bl10 : Array Bool := #[t, t, t, t, f, t, t, t, t, f, t, f, t, f, f, f, f, f]
abbrev impl_compareEdges.bl11 : Array Bool := #[t, t, t, t, f, t, t, t, t, f, t, t, t, f, f, f, f, f]
abbrev impl_compareEdges.bl12 : Array Bool := #[t, t, t, t, f, t, t, t, t, f, t, t, t, t, f, f, f, f]
abbrev impl_compareEdges.bl13 : Array Bool := #[t, t, t, t, t, t, t, t, t, f, t, t, t, t, f, f, f, f]
abbrev impl_compareEdges.bl14 : Array Bool := #[t, t, t, t, t, t, t, t, t, t, t, t, t, t, f, f, f, f]
abbrev impl_compareEdges.bl15 : Array Bool := #[t, t, t, t, t, t, t, t, t, t, t, t, t, t, t, f, f, f]
abbrev impl_compareEdges.bl16 : Array Bool := #[t, t, t, t, t, t, t, t, t, t, t, t, t, t, t, t, f, f]
abbrev impl_compareEdges.bl17 : Array Bool := #[t, t, t, t, t, t, t, t, t, t, t, t, t, t, t, t, t, f]
abbrev impl_compareEdges.bl18 : Array Bool := #[t, t, t, t, t, t, t, t, t, t, t, t, t, t, t, t, t, t]
end
/-! ### impl_compareEdges: function 31 -/
def impl_compareEdges.f (k : Nat) (a0_0 : Int) (a0_1 : Int) (a0_2 : Int) (a0_3 : Bool) (a1_0 : Int) (a1_1 : Int) (a1_2 : Int) (a1_3 : Bool) : Option (Int) := (cmp_Compare_int.f a0_0 a1_0).bind fun t223 => ((cmp_Compare_int.f a0_1 a1_1).bind fun t224 => ((cmp_Compare_int.f a0_2 a1_2).bind fun t225 => ((cmp_Or_int.f k (([t223, t224, t225] : List Int))).bind fun t229 => (some t229))))
theorem impl_compareEdges.mono : ∀ a0 a1 a2 a3 a4 a5 a6 a7 k, LeO (impl_compareEdges.f k a0 a1 a2 a3 a4 a5 a6 a7) (impl_compareEdges.f (k + 1) a0 a1 a2 a3 a4 a5 a6 a7) := by
 intro a0 a1 a2 a3 a4 a5 a6 a7 k
 unfold impl_compareEdges.f
 repeat' first
   | (with_reducible exact cmp_Or_int.mono _ _)
   | (with_reducible exact LeO.refl _)
   | (with_reducible exact LeO.none _)
   | (with_reducible refine LeO.ite ?_ ?_)
   | (with_reducible refine LeO.bind ?_ (fun _ => ?_))
   | exact cmp_Or_int.mono _ _
   | exact LeO.none _
   | refine LeO.ite ?_ ?_
   | refine LeO.bind ?_ (fun _ => ?_)
def impl_compareEdges.T1 : Bool × List (List Nat × List Nat) := (true, [([], []), ([0], [0]), ([], []), ([2], [2]), ([1, 3], [1, 3]), ([], []), ([5], [5]), ([], []), ([7], [7]), ([6, 8, 4], [6, 8]), ([], []), ([10], [10]), ([], []), ([12], [12]), ([11, 13, 9], [11, 13]), ([4, 9, 14], [4, 9, 14]), ([15, 14], [15]), ([16, 16, 0, 1, 2, 3, 4, 5, 6, 7, 8, 9, 10, 11, 12, 13, 14, 15, 16], [16])])
def impl_compareEdges.B1 : List Nat := [0, 1, 0, 4, 15, 0, 32, 0, 128, 511, 0, 1024, 0, 4096, 16383, 32767, 65535, 131071]
theorem impl_compareEdges.tab1 : rtab .any (opsOf Try.f31 1) = impl_compareEdges.T1 := by kernel_rfl
theorem impl_compareEdges.bits1 : waitsOk impl_compareEdges.T1.2 impl_compareEdges.B1 = true := by kernel_rfl
open Go.Proofs.Ytigmokdcanebeaa.Short2 Go.Proofs.Ytigmokdcanebeaa.Short6 in
set_option maxHeartbeats 8000000 in
set_option maxRecDepth 100000 in
theorem impl_compareEdges.calls (k : Nat) (a0_0 : Int) (a0_1 : Int) (a0_2 : Int) (a0_3 : Bool) (a1_0 : Int) (a1_1 : Int) (a1_2 : Int) (a1_3 : Bool) (r : Int) (w : World) (h : impl_compareEdges.f k a0_0 a0_1 a0_2 a0_3 a1_0 a1_1 a1_2 a1_3 = some r) :
  Calls Try.prog 31 #[.agg #[.int .i64 a0_0, .int .i64 a0_1, .int .i64 a0_2, .bool a0_3], .agg #[.int .i64 a1_0, .int .i64 a1_1, .int .i64 a1_2, .bool a1_3]] w fun e w' => e = .returned (.int .i64 r) ∧ Below w.heap.size w w' := by
 have hu33 := Try.underlying33; have HB := Aside0.mk (Below.refl w.heap.size w); have H : ((cmp_Compare_int.f a0_0 a1_0).bind fun af => ((cmp_Compare_int.f a0_1 a1_1).bind fun ad => ((cmp_Compare_int.f a0_2 a1_2).bind fun ac => ((cmp_Or_int.f k (([af, ad, ac] : List Int))).bind fun ae => (some ae))))) = some r := h; clear h; replace H := Option.bind_eq_some_iff.mp H; obtain ⟨af, ap, H⟩ := H; replace H : ((cmp_Compare_int.f a0_1 a1_1).bind fun ad => ((cmp_Compare_int.f a0_2 a1_2).bind fun ac => ((cmp_Or_int.f k (([af, ad, ac] : List Int))).bind fun ae => (some ae)))) = some r := H; have A3 := Aside0.mk ap; clear ap; replace H := Option.bind_eq_some_iff.mp H; obtain ⟨ad, aq, H⟩ := H; replace H : ((cmp_Compare_int.f a0_2 a1_2).bind fun ac => ((cmp_Or_int.f k (([af, ad, ac] : List Int))).bind fun ae => (some ae))) = some r := H; have A4 := Aside0.mk aq; clear aq; replace H := Option.bind_eq_some_iff.mp H; obtain ⟨ac, ar, H⟩ := H; replace H : ((cmp_Or_int.f k (([af, ad, ac] : List Int))).bind fun ae => (some ae)) = some r := H; have A5 := Aside0.mk ar; clear ar; obtain ⟨ak, ag⟩ : ∃ y_ : List Int, y_ = (([af, ad, ac] : List Int)) := ⟨_, rfl⟩
 replace H : ((cmp_Or_int.f k ak).bind fun ae => (some ae)) = some r := by first | (rw [ag]; with_reducible exact H) | (have H2_ := (Option.bind_some _ _).symm.trans H; rw [ag]; with_reducible exact H2_) | (have H2_ := (Option.bind_some _ _).symm.trans H; with_reducible exact H2_) | with_reducible exact H | (rw [ag]; exact H) | exact H
 have al := Aside0.mk ag; clear ag; replace H := Option.bind_eq_some_iff.mp H; obtain ⟨ae, au, H⟩ := H; replace H : (some ae) = some r := H; have A6 := Aside0.mk au; clear au; obtain rfl := Option.some.inj H
 go_enter Try.func31, Try.ntmps31
 try go_wp2_with (first | ((with_reducible refine gate_dst (N := 2) rfl ?_); refine box_event ?hg (N := 2) ?hd (cs := #[.int .i64 a0_0, .int .i64 a0_1, .int .i64 a0_2, .bool a0_3]) (t := 33) ?hr ?_; (case hd => rfl); (case hg => rfl); (case hr => first | (go_simp; done) | (go_simp; rfl)); intro ah hg w7 hbox hb; have aa := Aside0.mk (hbox); have az := xG HB hg; have an := xG HB hg; replace HB := xS HB hb; clear hb hbox hg) | ((with_reducible refine gate_dst (N := 3) rfl ?_); refine box_event ?hg (N := 3) ?hd (cs := #[.int .i64 a1_0, .int .i64 a1_1, .int .i64 a1_2, .bool a1_3]) (t := 33) ?hr ?_; (case hd => rfl); (case hg => rfl); (case hr => first | (go_simp; done) | (go_simp; rfl)); intro ai hg w8 hbox hb; have ab := Aside0.mk (hbox); have aA := xG HB hg; have ao := xG HB hg; replace HB := xS HB hb; have av := xN aa hg; have aw := xM aa hg; replace aa := xB aa hb; clear hb hbox hg))
 replace aa := Aside0.mk (blk_drew aa.out); replace ab := Aside0.mk (blk_drew ab.out); replace HB := Aside0.mk (below_drew1 HB.out); refine start_ (n := 18) (S := fun w' => w'.cell? ⟨ah, 0, none⟩ = some (.int .i64 a0_0) ∧ w'.cell? ⟨ah, 1, none⟩ = some (.int .i64 a0_1) ∧ w'.cell? ⟨ah, 2, none⟩ = some (.int .i64 a0_2) ∧ w'.cell? ⟨ah, 3, none⟩ = some (.bool a0_3) ∧ w'.cell? ⟨ai, 0, none⟩ = some (.int .i64 a1_0) ∧ w'.cell? ⟨ai, 1, none⟩ = some (.int .i64 a1_1) ∧ w'.cell? ⟨ai, 2, none⟩ = some (.int .i64 a1_2) ∧ w'.cell? ⟨ai, 3, none⟩ = some (.bool a1_3)) (ds := []) bl0 (by kernel_rfl) rfl rfl ⟨b1 aa 0, b1 aa 1, b1 aa 2, b1 aa 3, b1 ab 0, b1 ab 1, b1 ab 2, b1 ab 3⟩ (fun hHeld => ?_); refine with_tabW impl_compareEdges.tab1 impl_compareEdges.bits1 (fun HT_ HW_ => ?_); generalize w8.drew = w9 at aa ab HB hHeld ⊢
 refine pv_ 0 (some 5) bl1 HT_ ?_
 refine pv_ 2 (some 7) bl2 HT_ ?_
 refine pv_ 5 (some 10) bl3 HT_ ?_
 refine pv_ 7 (some 12) bl4 HT_ ?_
 refine pv_ 10 (some 15) bl5 HT_ ?_
 refine pv_ 12 (some 17) bl6 HT_ ?_
 refine tk_ 1 (some 6) bl7 HT_ HW_ hHeld ?_
 refine tk_ 3 (some 8) bl8 HT_ HW_ hHeld ?_
 refine tk_ 6 (some 11) bl9 HT_ HW_ hHeld ?_
 refine tk_ 8 (some 13) bl10 HT_ HW_ hHeld ?_
 refine tk_ 11 (some 16) bl11 HT_ HW_ hHeld ?_
 refine tk_ 13 (some 18) bl12 HT_ HW_ hHeld ?_
 refine on_ 4 (some 9) bl13 HT_ (fun K hK => ?_); refine gs_ Try.func45 #[.int .i64 a0_0, .int .i64 a1_0] ?_
 with_reducible refine (cmp_Compare_int.calls a0_0 a1_0 af _ A3.out).mono ?_
 rintro e w' ⟨rfl, ⟨nd, rfl⟩⟩; refine ⟨_, rfl, ?_⟩; refine hK.out _ _ ⟨b1 aa 0, b1 aa 1, b1 aa 2, b1 aa 3, b1 ab 0, b1 ab 1, b1 ab 2, b1 ab 3⟩ (fun hHeld => ?_); clear hK K; refine norm_ (a' := ?_) ?_ ?_; rotate_left
 ·show Act.put _ (some 9) _ = _; simp only [Act.put, q5]; rfl
 refine on_ 9 (some 14) bl14 HT_ (fun K hK => ?_); refine gs_ Try.func45 #[.int .i64 a0_1, .int .i64 a1_1] ?_
 with_reducible refine (cmp_Compare_int.calls a0_1 a1_1 ad _ A4.out).mono ?_
 rintro e w' ⟨rfl, ⟨nd, rfl⟩⟩; refine ⟨_, rfl, ?_⟩; refine hK.out _ _ ⟨b1 aa 0, b1 aa 1, b1 aa 2, b1 aa 3, b1 ab 0, b1 ab 1, b1 ab 2, b1 ab 3⟩ (fun hHeld => ?_); clear hK K; refine norm_ (a' := ?_) ?_ ?_; rotate_left
 ·show Act.put _ (some 14) _ = _; simp only [Act.put, q5]; rfl
 refine on_ 14 (some 19) bl15 HT_ (fun K hK => ?_); refine gs_ Try.func45 #[.int .i64 a0_2, .int .i64 a1_2] ?_
 with_reducible refine (cmp_Compare_int.calls a0_2 a1_2 ac _ A5.out).mono ?_
 rintro e w' ⟨rfl, ⟨nd, rfl⟩⟩; refine ⟨_, rfl, ?_⟩; refine hK.out _ _ ⟨b1 aa 0, b1 aa 1, b1 aa 2, b1 aa 3, b1 ab 0, b1 ab 1, b1 ab 2, b1 ab 3⟩ (fun hHeld => ?_); clear hK K; refine norm_ (a' := ?_) ?_ ?_; rotate_left
 ·show Act.put _ (some 19) _ = _; simp only [Act.put, q5]; rfl
 refine on_ 15 (some 20) bl16 HT_ (fun K hK => ?_)
 refine Kd.R_lit_step (Kd.int .i64) _ 3 ?hg (N := 20) ?hd (xs := ([af, ad, ac] : List Int)) (inner := [.int .i64 af, .int .i64 ad, .int .i64 ac]) (ok := fun _ => True) (okp := fun _ => True) ?hr ?hp (fun _ hk => hk) trivial (Below.refl _ _) (Nat.le_refl _) (by simp) ?_; (case hd => rfl); (case hg => rfl); (case hr => first | (go_simp; done) | (go_simp; rfl)); (case hp => exact (Reps.one (show Kd.M (Kd.int .i64) _ _ _ af [.int .i64 af] from rfl) (Reps.one (show Kd.M (Kd.int .i64) _ _ _ ad [.int .i64 ad] from rfl) (Reps.one (show Kd.M (Kd.int .i64) _ _ _ ac [.int .i64 ac] from rfl) (Reps.none _ _)))))
 intro aB aC ho11 hb hg_ hnew_; clear hg_ hnew_
 (first | rw [← al.out] at ho11 | (simp only [Int.reduceToNat] at ho11; rw [← al.out] at ho11))
 have aj := Aside0.mk (Kd.R_lower ho11 (below_size (zS HB.out))); replace aa := xB aa hb; replace ab := xB ab hb; replace HB := xS HB hb; clear hb ho11; obtain ⟨ax, ay, am⟩ := Kd.R_slice aj.out
 (first | subst am | (injection am with f1_ f2_ f3_; have f4_ := f1_.symm; have f5_ := f3_.symm; clear f1_ f2_ f3_; subst f4_; subst f5_))
 refine hK.out _ _ ⟨b1 aa 0, b1 aa 1, b1 aa 2, b1 aa 3, b1 ab 0, b1 ab 1, b1 ab 2, b1 ab 3⟩ (fun hHeld => ?_); clear hK K; refine norm_ (a' := ?_) ?_ ?_; rotate_left
 ·show Act.put _ (some 20) _ = _; simp only [Act.put, q5]; rfl
 refine on_ 16 (some 21) bl17 HT_ (fun K hK => ?_); refine gs_ Try.func44 #[.slice ax ak.length ay] ?_
 with_reducible refine (cmp_Or_int.calls k _ _ ak ae _ ?side1 ?side2 A6.out).mono ?_
 (case side1 => exact zC (Kd.R_reads' aj.out).2.2)
 (case side2 => exact (Kd.R_reads' aj.out).2.1)
 rintro e w' ⟨rfl, ⟨nd, rfl⟩⟩; refine ⟨_, rfl, ?_⟩; refine hK.out _ _ ⟨b1 aa 0, b1 aa 1, b1 aa 2, b1 aa 3, b1 ab 0, b1 ab 1, b1 ab 2, b1 ab 3⟩ (fun hHeld => ?_); clear hK K; refine norm_ (a' := ?_) ?_ ?_; rotate_left
 ·show Act.put _ (some 21) _ = _; simp only [Act.put, q5]; rfl
 refine pv_ 17 (some 4) bl18 HT_ ?_
 refine done_ (done_of HT_.out (by kernel_rfl)) ?_
 try go_wp2
 go_ret; exact ⟨by first | rfl | (simp [errW_none, errW_some] <;> rfl) | (simp [*, errW_none, errW_some] <;> rfl), by repeat (first | (with_reducible first | exact HB.out | apply below_alloc | apply pw_below_drewN | apply below_drew1 | refine below_set ?_ an.out | refine below_set ?_ ao.out) | exact HB.out)⟩

section
open Go.Proofs.Ytigmokdcanebeaa.Short2.T
abbrev impl_AutoOk.bl0 : Array Bool := #[f, f, f, f, f, f, f, f, f, f, f, f, f]
abbrev impl_AutoOk.bl1 : Array Bool := #[t, f, f, f, f, f, f, f, f, f, f, f, f]
abbrev impl_AutoOk.bl2 : Array Bool := #[t, t, f, f, f, f, f, f, f, f, f, f, f]
abbrev impl_AutoOk.bl3 : Array Bool := #[t, t, t, f, f, f, f, f, f, f, f, f, f]
abbrev impl_AutoOk.bl4 : Array Bool := #[t, t, t, t, f, f, f, f, f, f, f, f, f]
abbrev impl_AutoOk.bl5 : Array Bool := #[t, t, t, t, f, t, f, f, f, f, f, f, f]
abbrev impl_AutoOk.bl6 : Array Bool := #[t, t, t, t, f, t, t, f, f, f, f, f, f]
abbrev impl_AutoOk.bl7 : Array Bool := #[t, t, t, t, t, t, t, f, f, f, f, f, f]
abbrev impl_AutoOk.bl8 : Array Bool := #[t, t, t, t, t, t, t, t, f, f, f, f, f]
abbrev impl_AutoOk.bl9 : Array Bool := #[t, t, t, t, t, t, t, t, t, f, f, f, f]
abbrev impl_AutoOk.bl10 : Array Bool := #[t, t, t, t, t, t, t, t, t, t, f, f, f]
abbrev impl_AutoOk.bl11 : Array Bool := #[t, t, t, t, t, t, t, t, t, t, t, f, f]
abbrev impl_AutoOk.bl12 : Array Bool := #[t, t, t, t, t, t, t, t, t, t, t, t, f]
abbrev impl_AutoOk.bl13 : Array Bool := #[t, t, t, t, t, t, t, t, t, t, t, t, t]
abbrev impl_AutoOk.bl14 : Array Bool := #[t, t, t, t, t, f, f, f, f, f, f, f, f]
abbrev impl_AutoOk.bl15 : Array Bool := #[t, t, t, t, t, t, f, f, f, f, f, f, f]
end
/-! ### impl_AutoOk: function 9 -/
mutual
def impl_AutoOk.j0 : Nat → Bool → Int → Int → Int → List (S33) → Option (Bool)
 | 0, _, _, _, _, _ => none
 | k + 1, x18, x231000, x231001, x231002, x231003 => if x18 = true then (some false) else (impl_AutoOk.l0 k x231003 (x231003.length : Int) 0 x231000 x231001 x231002 x231003)
def impl_AutoOk.l0 : Nat → List (S33) → Int → Int → Int → Int → Int → List (S33) → Option (Bool)
 | 0, _, _, _, _, _, _, _ => none
 | k + 1, x20, x21, x22, x231000, x231001, x231002, x231003 => if x22 < x21 then (if 0 ≤ x22 then (if x22 < (x20.length : Int) then ((impl_inRange.f ((rd_T33 x20 x22).f0) 0 (wrap64 (x231001 - 1))).bind fun t234 => (if t234 = true then ((impl_inRange.f ((rd_T33 x20 x22).f2) 0 (wrap64 (x231001 - 1))).bind fun t235 => (if t235 = true then ((impl_inRange.f ((rd_T33 x20 x22).f1) 0 (wrap64 (x231000 - 1))).bind fun t236 => (impl_AutoOk.j2 k x22 x20 x21 x22 (!t236) x231000 x231001 x231002 x231003 ((rd_T33 x20 x22).f0) ((rd_T33 x20 x22).f1) ((rd_T33 x20 x22).f2) ((rd_T33 x20 x22).f3))) else (impl_AutoOk.j2 k x22 x20 x21 x22 true x231000 x231001 x231002 x231003 ((rd_T33 x20 x22).f0) ((rd_T33 x20 x22).f1) ((rd_T33 x20 x22).f2) ((rd_T33 x20 x22).f3)))) else (impl_AutoOk.j2 k x22 x20 x21 x22 true x231000 x231001 x231002 x231003 ((rd_T33 x20 x22).f0) ((rd_T33 x20 x22).f1) ((rd_T33 x20 x22).f2) ((rd_T33 x20 x22).f3)))) else (none)) else (none)) else (some true)
def impl_AutoOk.j2 : Nat → Int → List (S33) → Int → Int → Bool → Int → Int → Int → List (S33) → Int → Int → Int → Bool → Option (Bool)
 | 0, _, _, _, _, _, _, _, _, _, _, _, _, _ => none
 | k + 1, x3, x20, x21, x22, x51, x231000, x231001, x231002, x231003, x234000, x234001, x234002, x234003 => if x51 = true then (some false) else (if x3 > 0 then (if 0 ≤ (wrap64 (x3 - 1)) then (if (wrap64 (x3 - 1)) < (x231003.length : Int) then ((impl_compareEdges.f k ((rd_T33 x231003 (wrap64 (x3 - 1))).f0) ((rd_T33 x231003 (wrap64 (x3 - 1))).f1) ((rd_T33 x231003 (wrap64 (x3 - 1))).f2) ((rd_T33 x231003 (wrap64 (x3 - 1))).f3) x234000 x234001 x234002 x234003).bind fun t238 => (if t238 ≥ 0 then (some false) else (impl_AutoOk.l0 k x20 x21 (wrap64 (x22 + 1)) x231000 x231001 x231002 x231003))) else (none)) else (none)) else (impl_AutoOk.l0 k x20 x21 (wrap64 (x22 + 1)) x231000 x231001 x231002 x231003))
end
def impl_AutoOk.f (k : Nat) (a0_0 : Int) (a0_1 : Int) (a0_2 : Int) (l0_3 : List (S33)) : Option (Bool) := (impl_headOk.f a0_0 a0_1 a0_2).bind fun t231 => (if t231 = true then (impl_AutoOk.j0 k (decide ((l0_3.length : Int) > 2000)) a0_0 a0_1 a0_2 l0_3) else (impl_AutoOk.j0 k true a0_0 a0_1 a0_2 l0_3))
theorem impl_AutoOk.mono_l : ∀ k, (∀ y0 y1 y2 y3 y4, LeO (impl_AutoOk.j0 k y0 y1 y2 y3 y4) (impl_AutoOk.j0 (k + 1) y0 y1 y2 y3 y4)) ∧ (∀ y0 y1 y2 y3 y4 y5 y6, LeO (impl_AutoOk.l0 k y0 y1 y2 y3 y4 y5 y6) (impl_AutoOk.l0 (k + 1) y0 y1 y2 y3 y4 y5 y6)) ∧ (∀ y0 y1 y2 y3 y4 y5 y6 y7 y8 y9 y10 y11 y12, LeO (impl_AutoOk.j2 k y0 y1 y2 y3 y4 y5 y6 y7 y8 y9 y10 y11 y12) (impl_AutoOk.j2 (k + 1) y0 y1 y2 y3 y4 y5 y6 y7 y8 y9 y10 y11 y12))
 | 0 => ⟨fun _ _ _ _ _ r h => by simp [impl_AutoOk.j0] at h, fun _ _ _ _ _ _ _ r h => by simp [impl_AutoOk.l0] at h, fun _ _ _ _ _ _ _ _ _ _ _ _ _ r h => by simp [impl_AutoOk.j2] at h⟩
 | k + 1 => by
  obtain ⟨ih0, ih1, ih2⟩ := impl_AutoOk.mono_l k
  refine ⟨?_, ?_, ?_⟩
  ·intro y0 y1 y2 y3 y4
   unfold impl_AutoOk.j0
   repeat' first
   | (with_reducible exact ih0 _ _ _ _ _)
   | (with_reducible exact ih1 _ _ _ _ _ _ _)
   | (with_reducible exact ih2 _ _ _ _ _ _ _ _ _ _ _ _ _)
   | (with_reducible exact impl_compareEdges.mono _ _ _ _ _ _ _ _ _)
   | (with_reducible exact LeO.refl _)
   | (with_reducible exact LeO.none _)
   | (with_reducible refine LeO.ite ?_ ?_)
   | (with_reducible refine LeO.bind ?_ (fun _ => ?_))
   | exact ih0 _ _ _ _ _
   | exact ih1 _ _ _ _ _ _ _
   | exact ih2 _ _ _ _ _ _ _ _ _ _ _ _ _
   | exact impl_compareEdges.mono _ _ _ _ _ _ _ _ _
   | exact LeO.none _
   | refine LeO.ite ?_ ?_
   | refine LeO.bind ?_ (fun _ => ?_)
  ·intro y0 y1 y2 y3 y4 y5 y6
   unfold impl_AutoOk.l0
   repeat' first
   | (with_reducible exact ih0 _ _ _ _ _)
   | (with_reducible exact ih1 _ _ _ _ _ _ _)
   | (with_reducible exact ih2 _ _ _ _ _ _ _ _ _ _ _ _ _)
   | (with_reducible exact impl_compareEdges.mono _ _ _ _ _ _ _ _ _)
   | (with_reducible exact LeO.refl _)
   | (with_reducible exact LeO.none _)
   | (with_reducible refine LeO.ite ?_ ?_)
   | (with_reducible refine LeO.bind ?_ (fun _ => ?_))
   | exact ih0 _ _ _ _ _
   | exact ih1 _ _ _ _ _ _ _
   | exact ih2 _ _ _ _ _ _ _ _ _ _ _ _ _
   | exact impl_compareEdges.mono _ _ _ _ _ _ _ _ _
   | exact LeO.none _
   | refine LeO.ite ?_ ?_
   | refine LeO.bind ?_ (fun _ => ?_)
  ·intro y0 y1 y2 y3 y4 y5 y6 y7 y8 y9 y10 y11 y12
   unfold impl_AutoOk.j2
   repeat' first
   | (with_reducible exact ih0 _ _ _ _ _)
   | (with_reducible exact ih1 _ _ _ _ _ _ _)
   | (with_reducible exact ih2 _ _ _ _ _ _ _ _ _ _ _ _ _)
   | (with_reducible exact impl_compareEdges.mono _ _ _ _ _ _ _ _ _)
   | (with_reducible exact LeO.refl _)
   | (with_reducible exact LeO.none _)
   | (with_reducible refine LeO.ite ?_ ?_)
   | (with_reducible refine LeO.bind ?_ (fun _ => ?_))
   | exact ih0 _ _ _ _ _
   | exact ih1 _ _ _ _ _ _ _
   | exact ih2 _ _ _ _ _ _ _ _ _ _ _ _ _
   | exact impl_compareEdges.mono _ _ _ _ _ _ _ _ _
   | exact LeO.none _
   | refine LeO.ite ?_ ?_
   | refine LeO.bind ?_ (fun _ => ?_)
theorem impl_AutoOk.mono : ∀ a0 a1 a2 a3 k, LeO (impl_AutoOk.f k a0 a1 a2 a3) (impl_AutoOk.f (k + 1) a0 a1 a2 a3) := by
 intro a0 a1 a2 a3 k
 obtain ⟨ih0, ih1, ih2⟩ := impl_AutoOk.mono_l k
 unfold impl_AutoOk.f
 repeat' first
   | (with_reducible exact ih0 _ _ _ _ _)
   | (with_reducible exact ih1 _ _ _ _ _ _ _)
   | (with_reducible exact ih2 _ _ _ _ _ _ _ _ _ _ _ _ _)
   | (with_reducible exact impl_compareEdges.mono _ _ _ _ _ _ _ _ _)
   | (with_reducible exact LeO.refl _)
   | (with_reducible exact LeO.none _)
   | (with_reducible refine LeO.ite ?_ ?_)
   | (with_reducible refine LeO.bind ?_ (fun _ => ?_))
   | exact ih0 _ _ _ _ _
   | exact ih1 _ _ _ _ _ _ _
   | exact ih2 _ _ _ _ _ _ _ _ _ _ _ _ _
   | exact impl_compareEdges.mono _ _ _ _ _ _ _ _ _
   | exact LeO.none _
   | refine LeO.ite ?_ ?_
   | refine LeO.bind ?_ (fun _ => ?_)
def impl_AutoOk.T8 : Bool × List (List Nat × List Nat) := (true, [([], []), ([0], [0]), ([1], [1]), ([2], [2]), ([3, 2], [2, 3]), ([2], [2]), ([5, 2], [2, 5]), ([4, 6, 2], [2, 4, 6]), ([7, 2], [2, 7]), ([2], [2]), ([8, 9, 2, 2], [2, 8, 9]), ([10, 2], [2, 10]), ([2, 11], [2, 11])])
def impl_AutoOk.B8 : List Nat := [0, 1, 3, 7, 15, 7, 39, 127, 255, 7, 1023, 2047, 4095]
theorem impl_AutoOk.tab8 : rtab .any (opsOf Try.f9 8) = impl_AutoOk.T8 := by kernel_rfl
theorem impl_AutoOk.bits8 : waitsOk impl_AutoOk.T8.2 impl_AutoOk.B8 = true := by kernel_rfl
open Go.Proofs.Ytigmokdcanebeaa.Short2 Go.Proofs.Ytigmokdcanebeaa.Short6 in
set_option maxHeartbeats 8000000 in
set_option maxRecDepth 100000 in
theorem impl_AutoOk.calls (k : Nat) (a0_0 : Int) (a0_1 : Int) (a0_2 : Int) (A0_3 : Option Addr) (c0_3 : Nat) (l0_3 : List (S33)) (r : Bool) (w : World) (hr0_3 : Kd.C k33 w A0_3 l0_3.length l0_3) (hc0_3 : l0_3.length ≤ c0_3) (h : impl_AutoOk.f k a0_0 a0_1 a0_2 l0_3 = some r) :
  Calls Try.prog 9 #[.agg #[.int .i64 a0_0, .int .i64 a0_1, .int .i64 a0_2, .slice A0_3 l0_3.length c0_3]] w fun e w' => e = .returned (.bool r) ∧ Below w.heap.size w w' := by
 have hu28 := Try.underlying28; have hu33 := Try.underlying33; have HR0_3 := Aside0.mk hr0_3; have HC0_3 := Aside0.mk hc0_3; clear hr0_3 hc0_3; have HB := Aside0.mk (Below.refl w.heap.size w); have H : ((impl_headOk.f a0_0 a0_1 a0_2).bind fun aR => (if aR = true then (impl_AutoOk.j0 k (decide ((l0_3.length : Int) > 2000)) a0_0 a0_1 a0_2 l0_3) else (impl_AutoOk.j0 k true a0_0 a0_1 a0_2 l0_3))) = some r := h; clear h; have HC2 := Aside0.mk H; clear H
 go_enter Try.func9, Try.ntmps9
 go_upto_region 1 with (first | ((with_reducible refine gate_dst (N := 1) rfl ?_); (try (refine gate_guard (by rfl) ?_; dsimp only)); refine box_event ?hg (N := 1) ?hd (cs := #[.int .i64 a0_0, .int .i64 a0_1, .int .i64 a0_2, .slice A0_3 l0_3.length c0_3]) (t := 28) ?hr ?_; (case hd => rfl); (case hg => rfl); (case hr => first | (go_simp; done) | (go_simp; rfl)); intro ah hg w3 hbox hb; have ab := Aside0.mk (hbox); have cH := xG HB hg; have aw := xG HB hg; replace HB := xS HB hb; clear hb hbox hg))
 (try simp only [Act.put, q3])
 go_cut [18] (fun cD wc => ∃ (kq : Nat) (ax : Bool), cD = .bool ax ∧ Aside0 (impl_AutoOk.j0 kq ax a0_0 a0_1 a0_2 l0_3 = some r) ∧ Aside0 (kq ≤ k) ∧ Aside0 (wc.heap[ah]? = some (.cells #[.int .i64 a0_0, .int .i64 a0_1, .int .i64 a0_2, (.slice A0_3 l0_3.length c0_3)] 28 (0, 0))) ∧ Aside0 (Below w.heap.size w wc))
 case first =>
  have H := HC2.out; clear HC2; replace H := Option.bind_eq_some_iff.mp H; obtain ⟨aR, cA, H⟩ := H; replace H : (if aR = true then (impl_AutoOk.j0 k (decide ((l0_3.length : Int) > 2000)) a0_0 a0_1 a0_2 l0_3) else (impl_AutoOk.j0 k true a0_0 a0_1 a0_2 l0_3)) = some r := H; have A4 := Aside0.mk cA; clear cA
  by_cases c5 : aR = true
  ·subst c5
   have H1 : (impl_AutoOk.j0 k (decide ((l0_3.length : Int) > 2000)) a0_0 a0_1 a0_2 l0_3) = some r := by rw [if_pos rfl] at H; exact H
   clear H; have H := H1; clear H1; have H' := Aside0.mk H; clear H; obtain ⟨ay, az, aA, aB, aC, aD, aE, aF⟩ := cz4 ab
   go_wp2_with (first | ((with_reducible refine gate_callee (f := 29) rfl ?_); refine gl_ (some 11) Try.func29 #[.int .i64 a0_0, .int .i64 a0_1, .int .i64 a0_2] ?_; (with_reducible refine (impl_headOk.calls a0_0 a0_1 a0_2 true _ A4.out).mono ?_); rintro e w' ⟨rfl, ⟨nd, rfl⟩⟩; refine ⟨_, rfl, ?_⟩))
   go_meet
   case rel => exact ⟨_, (decide ((l0_3.length : Int) > 2000)), (by first | rfl | (simp; done) | (simp [*]; done) | (rw [Int.tmod_eq_emod_of_nonneg (Int.natCast_nonneg _)]; done)), H', ⟨by first | omega | exact Nat.le_refl _⟩, ⟨zB ab.out⟩, ⟨zS HB.out⟩⟩
  ·replace c5 := Bool.eq_false_iff.mpr c5; subst c5
   have H1 : (impl_AutoOk.j0 k true a0_0 a0_1 a0_2 l0_3) = some r := by rw [if_neg (show ¬ (false = true) by decide)] at H; exact H
   clear H; have H := H1; clear H1; have H' := Aside0.mk H; clear H; obtain ⟨aG, aH, aI, aJ, aK, aL, aM, aN⟩ := cz4 ab
   go_wp2_with (first | ((with_reducible refine gate_callee (f := 29) rfl ?_); refine gl_ (some 11) Try.func29 #[.int .i64 a0_0, .int .i64 a0_1, .int .i64 a0_2] ?_; (with_reducible refine (impl_headOk.calls a0_0 a0_1 a0_2 false _ A4.out).mono ?_); rintro e w' ⟨rfl, ⟨nd, rfl⟩⟩; refine ⟨_, rfl, ?_⟩))
   go_meet
   case rel => exact ⟨_, (true), (by first | rfl | (simp; done) | (simp [*]; done) | (rw [Int.tmod_eq_emod_of_nonneg (Int.natCast_nonneg _)]; done)), H', ⟨by first | omega | exact Nat.le_refl _⟩, ⟨zB ab.out⟩, ⟨zS HB.out⟩⟩
 case rest =>
  clear HC2
  try clear c2
  try clear p2
  try clear c5
  try clear ay az aA aB
  try clear aG aH aI aJ
  try clear aC
  try clear aD
  try clear aE
  try clear aF
  try clear aK
  try clear aL
  try clear aM
  try clear aN
  obtain ⟨kq, ax, rfl, HA, HJ1, ab, HB⟩ := hcut
  cases kq with
  | zero => exact absurd HA.out (by simp [impl_AutoOk.j0])
  | succ kj1 =>
   have H := HA.out; clear HA; simp only [impl_AutoOk.j0] at H
   by_cases c8 : ax = true
   ·subst c8
    have H1 : (some false) = some r := by rw [if_pos rfl] at H; exact H
    clear H; have H := H1; clear H1; obtain rfl := Option.some.inj H
    go_wp2
    go_ret; exact ⟨by first | rfl | (simp [errW_none, errW_some] <;> rfl) | (simp [*, errW_none, errW_some] <;> rfl), by repeat (first | (with_reducible first | exact HB.out | apply below_alloc | apply pw_below_drewN | apply below_drew1 | refine below_set ?_ aw.out) | exact HB.out)⟩
   ·replace c8 := Bool.eq_false_iff.mpr c8; subst c8
    have H1 : (impl_AutoOk.l0 kj1 l0_3 (l0_3.length : Int) 0 a0_0 a0_1 a0_2 l0_3) = some r := by rw [if_neg (show ¬ (false = true) by decide)] at H; exact H
    clear H; have H := H1; clear H1; have H' := Aside0.mk H; clear H; obtain ⟨aT, aU, aV, aW, aX, aY, aZ, ba⟩ := cz4 ab
    go_wp2
    go_loopg [22] kj1 (fun kq cE w' => ∃ (aa : Int), cE = .int .i64 aa ∧ Aside0 (impl_AutoOk.l0 kq l0_3 (l0_3.length : Int) aa a0_0 a0_1 a0_2 l0_3 = some r) ∧ Aside0 (kq ≤ kj1) ∧ Aside0 (w'.heap[ah]? = some (.cells #[.int .i64 a0_0, .int .i64 a0_1, .int .i64 a0_2, (.slice A0_3 l0_3.length c0_3)] 28 (0, 0))) ∧ Aside0 (Below w.heap.size w w'))
    case atStart => exact ⟨(0), (by first | rfl | (simp; done) | (simp [*]; done) | (rw [Int.tmod_eq_emod_of_nonneg (Int.natCast_nonneg _)]; done)), H', ⟨Nat.le_refl _⟩, ⟨zB ab.out⟩, ⟨zS HB.out⟩⟩
    case round =>
     clear H'
     try clear c2
     try clear p2
     try clear c5
     try clear c8
     try clear c9
     try clear ay az aA aB
     try clear aG aH aI aJ
     try clear aT aU aV aW
     try clear aC
     try clear aD
     try clear aE
     try clear aF
     try clear aK
     try clear aL
     try clear aM
     try clear aN
     try clear aX
     try clear aY
     try clear aZ
     try clear ba
     try clear p2
     obtain ⟨aa, rfl, HA, HK2, ab, HB⟩ := hrel
     cases gk with
     | zero => exact absurd HA.out (by simp [impl_AutoOk.l0])
     | succ k2 =>
      have H := HA.out; clear HA; simp only [impl_AutoOk.l0] at H
      by_cases aO : aa < (l0_3.length : Int)
      ·rw [if_pos aO] at H; have bf : decide (aa < (l0_3.length : Int)) = true := decide_eq_true aO; clear aO
       by_cases bb : 0 ≤ aa
       ·rw [if_pos bb] at H; have cw : decide (0 ≤ aa) = true := decide_eq_true bb; clear bb
        by_cases bc : aa < (l0_3.length : Int)
        ·rw [if_pos bc] at H; have cx : decide (aa < (l0_3.length : Int)) = true := decide_eq_true bc; clear bc; have HC13 := Aside0.mk H; clear H; have aS : 0 ≤ (aa : Int) := of_decide_eq_true (by first | (with_reducible assumption) | assumption); have q232 : aa < (l0_3.length : Int) := of_decide_eq_true (by first | (with_reducible assumption) | assumption); obtain ⟨ad232, e232, an, ao, ap, aq⟩ := at_T33 HR0_3.out aa aS q232
         cases e232
         replace an := (HB.out.cell (World.block_lt_of_cell? w _ an)).trans an; replace ao := (HB.out.cell (World.block_lt_of_cell? w _ ao)).trans ao; replace ap := (HB.out.cell (World.block_lt_of_cell? w _ ap)).trans ap; replace aq := (HB.out.cell (World.block_lt_of_cell? w _ aq)).trans aq; replace aS := eq_true aS; replace q232 := eq_true q232
         go_upto_region 6 with (first | ((with_reducible refine gate_dst (N := 4) rfl ?_); (try (refine gate_guard (by rfl) ?_; dsimp only)); refine box_event ?hg (N := 4) ?hd (cs := #[.int .i64 0, .int .i64 0, .int .i64 0, .bool false]) (t := 33) ?hr ?_; (case hd => rfl); (case hg => rfl); (case hr => first | (go_simp; done) | (go_simp; rfl)); intro ai hg cU hbox hb; have ac := Aside0.mk (hbox); have cI := xG HB hg; have bg := xG HB hg; replace HB := xS HB hb; have ak := xN ab hg; have al := xM ab hg; replace ab := xB ab hb; clear hb hbox hg; have cJ := al.out; have cK := ak.out; obtain ⟨bk, bl, bm, bn, bo, bp, bq, br⟩ := cz4 ac))
         (try simp only [Act.put, q3])
         go_cut [51] (fun cF wc => ∃ (kq : Nat) (au : Bool), cF = .bool au ∧ Aside0 (impl_AutoOk.j2 kq aa l0_3 (l0_3.length : Int) aa au a0_0 a0_1 a0_2 l0_3 ((rd_T33 l0_3 aa).f0) ((rd_T33 l0_3 aa).f1) ((rd_T33 l0_3 aa).f2) ((rd_T33 l0_3 aa).f3) = some r) ∧ Aside0 (kq ≤ k2) ∧ Aside0 (wc.heap[ah]? = some (.cells #[.int .i64 a0_0, .int .i64 a0_1, .int .i64 a0_2, (.slice (some ad232) l0_3.length c0_3)] 28 (0, 0))) ∧ Aside0 (wc.heap[ai]? = some (.cells #[.int .i64 ((rd_T33 l0_3 aa).f0), .int .i64 ((rd_T33 l0_3 aa).f1), .int .i64 ((rd_T33 l0_3 aa).f2), .bool ((rd_T33 l0_3 aa).f3)] 33 (0, 0))) ∧ Aside0 (Below w.heap.size w wc))
         case first =>
          have H := HC13.out; clear HC13; replace H := Option.bind_eq_some_iff.mp H; obtain ⟨cp, cq, H⟩ := H; replace H : (if cp = true then ((impl_inRange.f ((rd_T33 l0_3 aa).f2) 0 (wrap64 (a0_1 - 1))).bind fun av => (if av = true then ((impl_inRange.f ((rd_T33 l0_3 aa).f1) 0 (wrap64 (a0_0 - 1))).bind fun aj => (impl_AutoOk.j2 k2 aa l0_3 (l0_3.length : Int) aa (!aj) a0_0 a0_1 a0_2 l0_3 ((rd_T33 l0_3 aa).f0) ((rd_T33 l0_3 aa).f1) ((rd_T33 l0_3 aa).f2) ((rd_T33 l0_3 aa).f3))) else (impl_AutoOk.j2 k2 aa l0_3 (l0_3.length : Int) aa true a0_0 a0_1 a0_2 l0_3 ((rd_T33 l0_3 aa).f0) ((rd_T33 l0_3 aa).f1) ((rd_T33 l0_3 aa).f2) ((rd_T33 l0_3 aa).f3)))) else (impl_AutoOk.j2 k2 aa l0_3 (l0_3.length : Int) aa true a0_0 a0_1 a0_2 l0_3 ((rd_T33 l0_3 aa).f0) ((rd_T33 l0_3 aa).f1) ((rd_T33 l0_3 aa).f2) ((rd_T33 l0_3 aa).f3))) = some r := H; have cr := Aside0.mk cq; clear cq
          by_cases bd : cp = true
          ·subst bd
           have H1 : ((impl_inRange.f ((rd_T33 l0_3 aa).f2) 0 (wrap64 (a0_1 - 1))).bind fun av => (if av = true then ((impl_inRange.f ((rd_T33 l0_3 aa).f1) 0 (wrap64 (a0_0 - 1))).bind fun aj => (impl_AutoOk.j2 k2 aa l0_3 (l0_3.length : Int) aa (!aj) a0_0 a0_1 a0_2 l0_3 ((rd_T33 l0_3 aa).f0) ((rd_T33 l0_3 aa).f1) ((rd_T33 l0_3 aa).f2) ((rd_T33 l0_3 aa).f3))) else (impl_AutoOk.j2 k2 aa l0_3 (l0_3.length : Int) aa true a0_0 a0_1 a0_2 l0_3 ((rd_T33 l0_3 aa).f0) ((rd_T33 l0_3 aa).f1) ((rd_T33 l0_3 aa).f2) ((rd_T33 l0_3 aa).f3)))) = some r := by rw [if_pos rfl] at H; exact H
           clear H; have H := H1; clear H1; replace H := Option.bind_eq_some_iff.mp H; obtain ⟨av, ct, H⟩ := H; replace H : (if av = true then ((impl_inRange.f ((rd_T33 l0_3 aa).f1) 0 (wrap64 (a0_0 - 1))).bind fun aj => (impl_AutoOk.j2 k2 aa l0_3 (l0_3.length : Int) aa (!aj) a0_0 a0_1 a0_2 l0_3 ((rd_T33 l0_3 aa).f0) ((rd_T33 l0_3 aa).f1) ((rd_T33 l0_3 aa).f2) ((rd_T33 l0_3 aa).f3))) else (impl_AutoOk.j2 k2 aa l0_3 (l0_3.length : Int) aa true a0_0 a0_1 a0_2 l0_3 ((rd_T33 l0_3 aa).f0) ((rd_T33 l0_3 aa).f1) ((rd_T33 l0_3 aa).f2) ((rd_T33 l0_3 aa).f3))) = some r := H; have cB := Aside0.mk ct; clear ct
           by_cases be : av = true
           ·subst be
            have H1 : ((impl_inRange.f ((rd_T33 l0_3 aa).f1) 0 (wrap64 (a0_0 - 1))).bind fun aj => (impl_AutoOk.j2 k2 aa l0_3 (l0_3.length : Int) aa (!aj) a0_0 a0_1 a0_2 l0_3 ((rd_T33 l0_3 aa).f0) ((rd_T33 l0_3 aa).f1) ((rd_T33 l0_3 aa).f2) ((rd_T33 l0_3 aa).f3))) = some r := by rw [if_pos rfl] at H; exact H
            clear H; have H := H1; clear H1; replace H := Option.bind_eq_some_iff.mp H; obtain ⟨aj, cu, H⟩ := H; replace H : (impl_AutoOk.j2 k2 aa l0_3 (l0_3.length : Int) aa (!aj) a0_0 a0_1 a0_2 l0_3 ((rd_T33 l0_3 aa).f0) ((rd_T33 l0_3 aa).f1) ((rd_T33 l0_3 aa).f2) ((rd_T33 l0_3 aa).f3)) = some r := H; have cG := Aside0.mk cu; clear cu; have H' := Aside0.mk H; clear H; have cL := al.out; have cM := ak.out; obtain ⟨bs, bt, bu, bv, bw, bx, bz, bA⟩ := cz4 ac; obtain ⟨bB, bC, bD, bE, bF, bG, bH, bI⟩ := cz4 ab
            go_wp2_with (first | ((with_reducible refine gate_callee (f := 30) rfl ?_); refine gl_ (some 32) Try.func30 #[.int .i64 ((rd_T33 l0_3 aa).f0), .int .i64 0, .int .i64 (wrap64 (a0_1 - 1))] ?_; (with_reducible refine (impl_inRange.calls ((rd_T33 l0_3 aa).f0) 0 (wrap64 (a0_1 - 1)) true _ cr.out).mono ?_); rintro e w' ⟨rfl, ⟨nd, rfl⟩⟩; refine ⟨_, rfl, ?_⟩) | (go_at_call 30; (with_reducible refine (impl_inRange.calls ((rd_T33 l0_3 aa).f2) 0 (wrap64 (a0_1 - 1)) true _ cB.out).mono ?_); rintro e w' ⟨rfl, ⟨nd, rfl⟩⟩) | (go_at_call 30; (with_reducible refine (impl_inRange.calls ((rd_T33 l0_3 aa).f1) 0 (wrap64 (a0_0 - 1)) aj _ cG.out).mono ?_); rintro e w' ⟨rfl, ⟨nd, rfl⟩⟩))
            go_meet
            case rel => exact ⟨_, (!aj), (by first | rfl | (simp; done) | (simp [*]; done) | (rw [Int.tmod_eq_emod_of_nonneg (Int.natCast_nonneg _)]; done)), H', ⟨by have := HJ1.out; have := HK2.out; first | omega | exact Nat.le_refl _⟩, ⟨zB ab.out⟩, ⟨by (with_reducible repeat (first | refine blk_drewN ?_ _ | refine blk_drew ?_ | refine blk_alloc ?_ _)); refine blk_put (cs := #[.int .i64 ((rd_T33 l0_3 aa).f0), .int .i64 ((rd_T33 l0_3 aa).f1), .int .i64 ((rd_T33 l0_3 aa).f2), .bool false]) ?_ 3 _ rfl; (with_reducible repeat (first | refine blk_drewN ?_ _ | refine blk_drew ?_ | refine blk_alloc ?_ _)); refine blk_put (cs := #[.int .i64 ((rd_T33 l0_3 aa).f0), .int .i64 ((rd_T33 l0_3 aa).f1), .int .i64 0, .bool false]) ?_ 2 _ rfl; (with_reducible repeat (first | refine blk_drewN ?_ _ | refine blk_drew ?_ | refine blk_alloc ?_ _)); refine blk_put (cs := #[.int .i64 ((rd_T33 l0_3 aa).f0), .int .i64 0, .int .i64 0, .bool false]) ?_ 1 _ rfl; (with_reducible repeat (first | refine blk_drewN ?_ _ | refine blk_drew ?_ | refine blk_alloc ?_ _)); refine blk_put (cs := #[.int .i64 0, .int .i64 0, .int .i64 0, .bool false]) ?_ 0 _ rfl; (with_reducible repeat (first | refine blk_drewN ?_ _ | refine blk_drew ?_ | refine blk_alloc ?_ _)); exact ac.out⟩, ⟨zS HB.out⟩⟩
           ·replace be := Bool.eq_false_iff.mpr be; subst be
            have H1 : (impl_AutoOk.j2 k2 aa l0_3 (l0_3.length : Int) aa true a0_0 a0_1 a0_2 l0_3 ((rd_T33 l0_3 aa).f0) ((rd_T33 l0_3 aa).f1) ((rd_T33 l0_3 aa).f2) ((rd_T33 l0_3 aa).f3)) = some r := by rw [if_neg (show ¬ (false = true) by decide)] at H; exact H
            clear H; have H := H1; clear H1; have H' := Aside0.mk H; clear H; have cN := al.out; have cO := ak.out; obtain ⟨bJ, bK, bL, bM, bN, bO, bP, bQ⟩ := cz4 ac; obtain ⟨bR, bS, bT, bU, bV, bW, bX, bY⟩ := cz4 ab
            go_wp2_with (first | ((with_reducible refine gate_callee (f := 30) rfl ?_); refine gl_ (some 32) Try.func30 #[.int .i64 ((rd_T33 l0_3 aa).f0), .int .i64 0, .int .i64 (wrap64 (a0_1 - 1))] ?_; (with_reducible refine (impl_inRange.calls ((rd_T33 l0_3 aa).f0) 0 (wrap64 (a0_1 - 1)) true _ cr.out).mono ?_); rintro e w' ⟨rfl, ⟨nd, rfl⟩⟩; refine ⟨_, rfl, ?_⟩) | (go_at_call 30; (with_reducible refine (impl_inRange.calls ((rd_T33 l0_3 aa).f2) 0 (wrap64 (a0_1 - 1)) false _ cB.out).mono ?_); rintro e w' ⟨rfl, ⟨nd, rfl⟩⟩))
            go_meet
            case rel => exact ⟨_, (true), (by first | rfl | (simp; done) | (simp [*]; done) | (rw [Int.tmod_eq_emod_of_nonneg (Int.natCast_nonneg _)]; done)), H', ⟨by have := HJ1.out; have := HK2.out; first | omega | exact Nat.le_refl _⟩, ⟨zB ab.out⟩, ⟨by (with_reducible repeat (first | refine blk_drewN ?_ _ | refine blk_drew ?_ | refine blk_alloc ?_ _)); refine blk_put (cs := #[.int .i64 ((rd_T33 l0_3 aa).f0), .int .i64 ((rd_T33 l0_3 aa).f1), .int .i64 ((rd_T33 l0_3 aa).f2), .bool false]) ?_ 3 _ rfl; (with_reducible repeat (first | refine blk_drewN ?_ _ | refine blk_drew ?_ | refine blk_alloc ?_ _)); refine blk_put (cs := #[.int .i64 ((rd_T33 l0_3 aa).f0), .int .i64 ((rd_T33 l0_3 aa).f1), .int .i64 0, .bool false]) ?_ 2 _ rfl; (with_reducible repeat (first | refine blk_drewN ?_ _ | refine blk_drew ?_ | refine blk_alloc ?_ _)); refine blk_put (cs := #[.int .i64 ((rd_T33 l0_3 aa).f0), .int .i64 0, .int .i64 0, .bool false]) ?_ 1 _ rfl; (with_reducible repeat (first | refine blk_drewN ?_ _ | refine blk_drew ?_ | refine blk_alloc ?_ _)); refine blk_put (cs := #[.int .i64 0, .int .i64 0, .int .i64 0, .bool false]) ?_ 0 _ rfl; (with_reducible repeat (first | refine blk_drewN ?_ _ | refine blk_drew ?_ | refine blk_alloc ?_ _)); exact ac.out⟩, ⟨zS HB.out⟩⟩
          ·replace bd := Bool.eq_false_iff.mpr bd; subst bd
           have H1 : (impl_AutoOk.j2 k2 aa l0_3 (l0_3.length : Int) aa true a0_0 a0_1 a0_2 l0_3 ((rd_T33 l0_3 aa).f0) ((rd_T33 l0_3 aa).f1) ((rd_T33 l0_3 aa).f2) ((rd_T33 l0_3 aa).f3)) = some r := by rw [if_neg (show ¬ (false = true) by decide)] at H; exact H
           clear H; have H := H1; clear H1; have H' := Aside0.mk H; clear H; have cP := al.out; have cQ := ak.out; obtain ⟨bZ, ca, cb, cc, cd, ce, cf, cg⟩ := cz4 ac; obtain ⟨ch, ci, cj, ck, cl, cm, cn, co⟩ := cz4 ab
           go_wp2_with (first | ((with_reducible refine gate_callee (f := 30) rfl ?_); refine gl_ (some 32) Try.func30 #[.int .i64 ((rd_T33 l0_3 aa).f0), .int .i64 0, .int .i64 (wrap64 (a0_1 - 1))] ?_; (with_reducible refine (impl_inRange.calls ((rd_T33 l0_3 aa).f0) 0 (wrap64 (a0_1 - 1)) false _ cr.out).mono ?_); rintro e w' ⟨rfl, ⟨nd, rfl⟩⟩; refine ⟨_, rfl, ?_⟩))
           go_meet
           case rel => exact ⟨_, (true), (by first | rfl | (simp; done) | (simp [*]; done) | (rw [Int.tmod_eq_emod_of_nonneg (Int.natCast_nonneg _)]; done)), H', ⟨by have := HJ1.out; have := HK2.out; first | omega | exact Nat.le_refl _⟩, ⟨zB ab.out⟩, ⟨by (with_reducible repeat (first | refine blk_drewN ?_ _ | refine blk_drew ?_ | refine blk_alloc ?_ _)); refine blk_put (cs := #[.int .i64 ((rd_T33 l0_3 aa).f0), .int .i64 ((rd_T33 l0_3 aa).f1), .int .i64 ((rd_T33 l0_3 aa).f2), .bool false]) ?_ 3 _ rfl; (with_reducible repeat (first | refine blk_drewN ?_ _ | refine blk_drew ?_ | refine blk_alloc ?_ _)); refine blk_put (cs := #[.int .i64 ((rd_T33 l0_3 aa).f0), .int .i64 ((rd_T33 l0_3 aa).f1), .int .i64 0, .bool false]) ?_ 2 _ rfl; (with_reducible repeat (first | refine blk_drewN ?_ _ | refine blk_drew ?_ | refine blk_alloc ?_ _)); refine blk_put (cs := #[.int .i64 ((rd_T33 l0_3 aa).f0), .int .i64 0, .int .i64 0, .bool false]) ?_ 1 _ rfl; (with_reducible repeat (first | refine blk_drewN ?_ _ | refine blk_drew ?_ | refine blk_alloc ?_ _)); refine blk_put (cs := #[.int .i64 0, .int .i64 0, .int .i64 0, .bool false]) ?_ 0 _ rfl; (with_reducible repeat (first | refine blk_drewN ?_ _ | refine blk_drew ?_ | refine blk_alloc ?_ _)); exact ac.out⟩, ⟨zS HB.out⟩⟩
         case rest =>
          clear HC13
          try clear c1
          try clear c2
          try clear p2
          try clear q2
          try clear hx2
          try clear c3
          try clear c5
          try clear p6
          try clear c8
          try clear c9
          try clear aO
          try clear bf
          try clear bb
          try clear cw
          try clear bc
          try clear cx
          try clear cV
          try clear bd
          try clear be
          try clear cW
          try clear cX
          try clear q23
          try clear hx23
          try clear cY
          try clear cZ
          try clear da
          try clear db
          try clear bk bl bm bn
          try clear bs bt bu bv
          try clear bB bC bD bE
          try clear bJ bK bL bM
          try clear bR bS bT bU
          try clear bZ ca cb cc
          try clear ch ci cj ck
          try clear ay az aA aB
          try clear aG aH aI aJ
          try clear aT aU aV aW
          try clear bo
          try clear bp
          try clear bq
          try clear br
          try clear bw
          try clear bx
          try clear bz
          try clear bA
          try clear bF
          try clear bG
          try clear bH
          try clear bI
          try clear bN
          try clear bO
          try clear bP
          try clear bQ
          try clear bV
          try clear bW
          try clear bX
          try clear bY
          try clear cd
          try clear ce
          try clear cf
          try clear cg
          try clear cl
          try clear cm
          try clear cn
          try clear co
          try clear aC
          try clear aD
          try clear aE
          try clear aF
          try clear aK
          try clear aL
          try clear aM
          try clear aN
          try clear aX
          try clear aY
          try clear aZ
          try clear ba
          try clear an
          try clear ao
          try clear ap
          try clear aq
          try clear p2
          try clear aS
          try clear q232
          obtain ⟨kq, au, rfl, HA, HJ12, ab, ac, HB⟩ := hcut
          cases kq with
          | zero => exact absurd HA.out (by simp [impl_AutoOk.j2])
          | succ kj12 =>
           have H := HA.out; clear HA; simp only [impl_AutoOk.j2] at H
           by_cases bh : au = true
           ·subst bh
            have H1 : (some false) = some r := by rw [if_pos rfl] at H; exact H
            clear H; have H := H1; clear H1; obtain rfl := Option.some.inj H
            go_wp2
            go_ret; exact ⟨by first | rfl | (simp [errW_none, errW_some] <;> rfl) | (simp [*, errW_none, errW_some] <;> rfl), by repeat (first | (with_reducible first | exact HB.out | apply below_alloc | apply pw_below_drewN | apply below_drew1 | refine below_set ?_ aw.out | refine below_set ?_ bg.out) | exact HB.out)⟩
           ·replace bh := Bool.eq_false_iff.mpr bh; subst bh
            have H1 : (if aa > 0 then (if 0 ≤ (wrap64 (aa - 1)) then (if (wrap64 (aa - 1)) < (l0_3.length : Int) then ((impl_compareEdges.f kj12 ((rd_T33 l0_3 (wrap64 (aa - 1))).f0) ((rd_T33 l0_3 (wrap64 (aa - 1))).f1) ((rd_T33 l0_3 (wrap64 (aa - 1))).f2) ((rd_T33 l0_3 (wrap64 (aa - 1))).f3) ((rd_T33 l0_3 aa).f0) ((rd_T33 l0_3 aa).f1) ((rd_T33 l0_3 aa).f2) ((rd_T33 l0_3 aa).f3)).bind fun am => (if am ≥ 0 then (some false) else (impl_AutoOk.l0 kj12 l0_3 (l0_3.length : Int) (wrap64 (aa + 1)) a0_0 a0_1 a0_2 l0_3))) else (none)) else (none)) else (impl_AutoOk.l0 kj12 l0_3 (l0_3.length : Int) (wrap64 (aa + 1)) a0_0 a0_1 a0_2 l0_3)) = some r := by rw [if_neg (show ¬ (false = true) by decide)] at H; exact H
            clear H; have H := H1; clear H1
            by_cases aP : aa > 0
            ·rw [if_pos aP] at H; have cy : decide (0 < aa) = true := decide_eq_true aP; clear aP; obtain ⟨ji33, hji33⟩ : ∃ j_ : Int, (wrap64 (aa - 1)) = j_ := ⟨_, rfl⟩
             replace H : (if 0 ≤ (ji33) then (if (ji33) < (l0_3.length : Int) then ((impl_compareEdges.f kj12 ((rd_T33 l0_3 (ji33)).f0) ((rd_T33 l0_3 (ji33)).f1) ((rd_T33 l0_3 (ji33)).f2) ((rd_T33 l0_3 (ji33)).f3) ((rd_T33 l0_3 aa).f0) ((rd_T33 l0_3 aa).f1) ((rd_T33 l0_3 aa).f2) ((rd_T33 l0_3 aa).f3)).bind fun am => (if am ≥ 0 then (some false) else (impl_AutoOk.l0 kj12 l0_3 (l0_3.length : Int) (wrap64 (aa + 1)) a0_0 a0_1 a0_2 l0_3))) else (none)) else (none)) = some r := by first | (rw [hji33] at H; exact H) | (simp only [hji33] at H ⊢; exact H)
             have hji33w : (IntKind.i64.wrap (aa - 1)) = ji33 := (i64_w _).trans hji33
             by_cases bi : 0 ≤ (ji33)
             ·rw [if_pos bi] at H; have cR : decide (0 ≤ (ji33)) = true := decide_eq_true bi; clear bi
              by_cases bj : (ji33) < (l0_3.length : Int)
              ·rw [if_pos bj] at H; have cS : decide ((ji33) < (l0_3.length : Int)) = true := decide_eq_true bj; clear bj; replace H := Option.bind_eq_some_iff.mp H; obtain ⟨am, cv, H⟩ := H; replace H : (if am ≥ 0 then (some false) else (impl_AutoOk.l0 kj12 l0_3 (l0_3.length : Int) (wrap64 (aa + 1)) a0_0 a0_1 a0_2 l0_3)) = some r := H; have cC := Aside0.mk cv; clear cv
               by_cases aQ : am ≥ 0
               ·rw [if_pos aQ] at H; have cz : decide (0 ≤ am) = true := decide_eq_true aQ; clear aQ; obtain rfl := Option.some.inj H
                try go_wp2
                replace ab := Aside0.mk (blk_drew ab.out); replace ac := Aside0.mk (blk_drew ac.out); replace HB := Aside0.mk (below_drew1 HB.out); have ar : 0 ≤ ((ji33) : Int) := of_decide_eq_true (by first | (with_reducible assumption) | assumption); have q237 : (ji33) < (l0_3.length : Int) := of_decide_eq_true (by first | (with_reducible assumption) | assumption); obtain ⟨ad237, e237, ad, ae, af, ag⟩ := at_T33 HR0_3.out (ji33) ar q237; have hw237_3 := ag; have hw237_2 := af; have hw237_1 := ae; have hw237_0 := ad; obtain rfl : ad232 = ad237 := (by injection e237); replace ad := (HB.out.cell (World.block_lt_of_cell? w _ ad)).trans ad; replace ae := (HB.out.cell (World.block_lt_of_cell? w _ ae)).trans ae; replace af := (HB.out.cell (World.block_lt_of_cell? w _ af)).trans af; replace ag := (HB.out.cell (World.block_lt_of_cell? w _ ag)).trans ag; replace ar := eq_true ar; replace q237 := eq_true q237; refine start_ (n := 13) (S := fun w' => w'.cell? ⟨ah, 0, none⟩ = some (.int .i64 a0_0) ∧ w'.cell? ⟨ah, 1, none⟩ = some (.int .i64 a0_1) ∧ w'.cell? ⟨ah, 2, none⟩ = some (.int .i64 a0_2) ∧ w'.cell? ⟨ah, 3, none⟩ = some (.slice (some ad232) l0_3.length c0_3) ∧ w'.cell? ⟨ai, 0, none⟩ = some (.int .i64 ((rd_T33 l0_3 aa).f0)) ∧ w'.cell? ⟨ai, 1, none⟩ = some (.int .i64 ((rd_T33 l0_3 aa).f1)) ∧ w'.cell? ⟨ai, 2, none⟩ = some (.int .i64 ((rd_T33 l0_3 aa).f2)) ∧ w'.cell? ⟨ai, 3, none⟩ = some (.bool ((rd_T33 l0_3 aa).f3)) ∧ w'.cell? (ad232.add (((ji33)).toNat * 4)) = some (.int .i64 ((rd_T33 l0_3 (ji33)).f0)) ∧ w'.cell? ⟨(ad232.add (((ji33)).toNat * 4)).block, (ad232.add (((ji33)).toNat * 4)).off + 1, none⟩ = some (.int .i64 ((rd_T33 l0_3 (ji33)).f1)) ∧ w'.cell? ⟨(ad232.add (((ji33)).toNat * 4)).block, (ad232.add (((ji33)).toNat * 4)).off + 2, none⟩ = some (.int .i64 ((rd_T33 l0_3 (ji33)).f2)) ∧ w'.cell? ⟨(ad232.add (((ji33)).toNat * 4)).block, (ad232.add (((ji33)).toNat * 4)).off + 3, none⟩ = some (.bool ((rd_T33 l0_3 (ji33)).f3))) (ds := []) bl0 (by kernel_rfl) rfl rfl ⟨b1 ab 0, b1 ab 1, b1 ab 2, b1 ab 3, b1 ac 0, b1 ac 1, b1 ac 2, b1 ac 3, ((HB.out.cell (World.block_lt_of_cell? w _ hw237_0)).trans hw237_0), ((HB.out.cell (World.block_lt_of_cell? w _ hw237_1)).trans hw237_1), ((HB.out.cell (World.block_lt_of_cell? w _ hw237_2)).trans hw237_2), ((HB.out.cell (World.block_lt_of_cell? w _ hw237_3)).trans hw237_3)⟩ (fun hHeld => ?_); refine with_tabW impl_AutoOk.tab8 impl_AutoOk.bits8 (fun HT_ HW_ => ?_); generalize wc.drew = dc at ab ac HB ad ae af ag hHeld ⊢
                refine pv_ 0 (some 52) bl1 HT_ ?_
                refine pv_ 1 (some 53) bl2 HT_ ?_
                refine pv_ 2 (some 54) bl3 HT_ ?_
                refine pv_ 3 (some 55) bl4 HT_ ?_
                refine pv_ 5 (some 57) bl5 HT_ ?_
                refine pv_ 6 (some 58) bl6 HT_ ?_
                refine tk_ 4 (some 56) bl7 HT_ HW_ hHeld ?_
                refine pv_ 7 (some 59) bl8 HT_ ?_
                refine tk_ 8 (some 60) bl9 HT_ HW_ hHeld ?_
                refine tk_ 9 (some 61) bl10 HT_ HW_ hHeld ?_
                refine on_ 10 (some 62) bl11 HT_ (fun K hK => ?_); refine goes_ Try.func31 (by kernel_rfl) rfl #[.agg #[.int .i64 ((rd_T33 l0_3 (ji33)).f0), .int .i64 ((rd_T33 l0_3 (ji33)).f1), .int .i64 ((rd_T33 l0_3 (ji33)).f2), .bool ((rd_T33 l0_3 (ji33)).f3)], .agg #[.int .i64 ((rd_T33 l0_3 aa).f0), .int .i64 ((rd_T33 l0_3 aa).f1), .int .i64 ((rd_T33 l0_3 aa).f2), .bool ((rd_T33 l0_3 aa).f3)]] (by rfl) rfl rfl (by (try simp only [m3]); first | done | (simp only [hji33]; rfl) | rfl | (simp only [d2]; rfl)) ?_
                with_reducible refine (impl_compareEdges.calls kj12 ((rd_T33 l0_3 (ji33)).f0) ((rd_T33 l0_3 (ji33)).f1) ((rd_T33 l0_3 (ji33)).f2) ((rd_T33 l0_3 (ji33)).f3) ((rd_T33 l0_3 aa).f0) ((rd_T33 l0_3 aa).f1) ((rd_T33 l0_3 aa).f2) ((rd_T33 l0_3 aa).f3) am _ cC.out).mono ?_
                rintro e dd ⟨rfl, hb⟩; refine ⟨_, rfl, ?_⟩; replace ab := xB ab hb; replace ac := xB ac hb; replace HB := xS HB hb
                (try clear hb)
                (try clear hb2)
                (try clear hk)
                (try clear hi)
                refine hK.out _ _ ⟨b1 ab 0, b1 ab 1, b1 ab 2, b1 ab 3, b1 ac 0, b1 ac 1, b1 ac 2, b1 ac 3, ((HB.out.cell (World.block_lt_of_cell? w _ hw237_0)).trans hw237_0), ((HB.out.cell (World.block_lt_of_cell? w _ hw237_1)).trans hw237_1), ((HB.out.cell (World.block_lt_of_cell? w _ hw237_2)).trans hw237_2), ((HB.out.cell (World.block_lt_of_cell? w _ hw237_3)).trans hw237_3)⟩ (fun hHeld => ?_); clear hK K; refine norm_ (a' := ?_) ?_ ?_; rotate_left
                ·show Act.put _ (some 62) _ = _; simp only [Act.put, q5]; rfl
                refine pv_ 11 (some 63) bl12 HT_ ?_
                refine pv_ 12 (some 64) bl13 HT_ ?_
                refine done_ (done_of HT_.out (by kernel_rfl)) ?_
                try go_wp2
                go_ret; exact ⟨by first | rfl | (simp [errW_none, errW_some] <;> rfl) | (simp only [← hji33]; first | rfl | (simp [errW_none, errW_some] <;> rfl)) | (simp [*, errW_none, errW_some] <;> rfl), by repeat (first | (with_reducible first | exact HB.out | apply below_alloc | apply pw_below_drewN | apply below_drew1 | refine below_set ?_ aw.out | refine below_set ?_ bg.out) | exact HB.out)⟩
               ·rw [if_neg aQ] at H; have cz : decide (0 ≤ am) = false := decide_eq_false aQ; clear aQ; have H' := Aside0.mk H; clear H
                try go_wp2
                replace ab := Aside0.mk (blk_drew ab.out); replace ac := Aside0.mk (blk_drew ac.out); replace HB := Aside0.mk (below_drew1 HB.out); have ar : 0 ≤ ((ji33) : Int) := of_decide_eq_true (by first | (with_reducible assumption) | assumption); have q237 : (ji33) < (l0_3.length : Int) := of_decide_eq_true (by first | (with_reducible assumption) | assumption); obtain ⟨ad237, e237, ad, ae, af, ag⟩ := at_T33 HR0_3.out (ji33) ar q237; have hw237_3 := ag; have hw237_2 := af; have hw237_1 := ae; have hw237_0 := ad; obtain rfl : ad232 = ad237 := (by injection e237); replace ad := (HB.out.cell (World.block_lt_of_cell? w _ ad)).trans ad; replace ae := (HB.out.cell (World.block_lt_of_cell? w _ ae)).trans ae; replace af := (HB.out.cell (World.block_lt_of_cell? w _ af)).trans af; replace ag := (HB.out.cell (World.block_lt_of_cell? w _ ag)).trans ag; replace ar := eq_true ar; replace q237 := eq_true q237; refine start_ (n := 13) (S := fun w' => w'.cell? ⟨ah, 0, none⟩ = some (.int .i64 a0_0) ∧ w'.cell? ⟨ah, 1, none⟩ = some (.int .i64 a0_1) ∧ w'.cell? ⟨ah, 2, none⟩ = some (.int .i64 a0_2) ∧ w'.cell? ⟨ah, 3, none⟩ = some (.slice (some ad232) l0_3.length c0_3) ∧ w'.cell? ⟨ai, 0, none⟩ = some (.int .i64 ((rd_T33 l0_3 aa).f0)) ∧ w'.cell? ⟨ai, 1, none⟩ = some (.int .i64 ((rd_T33 l0_3 aa).f1)) ∧ w'.cell? ⟨ai, 2, none⟩ = some (.int .i64 ((rd_T33 l0_3 aa).f2)) ∧ w'.cell? ⟨ai, 3, none⟩ = some (.bool ((rd_T33 l0_3 aa).f3)) ∧ w'.cell? (ad232.add (((ji33)).toNat * 4)) = some (.int .i64 ((rd_T33 l0_3 (ji33)).f0)) ∧ w'.cell? ⟨(ad232.add (((ji33)).toNat * 4)).block, (ad232.add (((ji33)).toNat * 4)).off + 1, none⟩ = some (.int .i64 ((rd_T33 l0_3 (ji33)).f1)) ∧ w'.cell? ⟨(ad232.add (((ji33)).toNat * 4)).block, (ad232.add (((ji33)).toNat * 4)).off + 2, none⟩ = some (.int .i64 ((rd_T33 l0_3 (ji33)).f2)) ∧ w'.cell? ⟨(ad232.add (((ji33)).toNat * 4)).block, (ad232.add (((ji33)).toNat * 4)).off + 3, none⟩ = some (.bool ((rd_T33 l0_3 (ji33)).f3))) (ds := []) bl0 (by kernel_rfl) rfl rfl ⟨b1 ab 0, b1 ab 1, b1 ab 2, b1 ab 3, b1 ac 0, b1 ac 1, b1 ac 2, b1 ac 3, ((HB.out.cell (World.block_lt_of_cell? w _ hw237_0)).trans hw237_0), ((HB.out.cell (World.block_lt_of_cell? w _ hw237_1)).trans hw237_1), ((HB.out.cell (World.block_lt_of_cell? w _ hw237_2)).trans hw237_2), ((HB.out.cell (World.block_lt_of_cell? w _ hw237_3)).trans hw237_3)⟩ (fun hHeld => ?_); refine with_tabW impl_AutoOk.tab8 impl_AutoOk.bits8 (fun HT_ HW_ => ?_); generalize wc.drew = de at ab ac HB ad ae af ag hHeld ⊢
                refine pv_ 0 (some 52) bl1 HT_ ?_
                refine pv_ 1 (some 53) bl2 HT_ ?_
                refine pv_ 2 (some 54) bl3 HT_ ?_
                refine pv_ 3 (some 55) bl4 HT_ ?_
                refine pv_ 5 (some 57) bl5 HT_ ?_
                refine pv_ 6 (some 58) bl6 HT_ ?_
                refine tk_ 4 (some 56) bl7 HT_ HW_ hHeld ?_
                refine pv_ 7 (some 59) bl8 HT_ ?_
                refine tk_ 8 (some 60) bl9 HT_ HW_ hHeld ?_
                refine tk_ 9 (some 61) bl10 HT_ HW_ hHeld ?_
                refine on_ 10 (some 62) bl11 HT_ (fun K hK => ?_); refine goes_ Try.func31 (by kernel_rfl) rfl #[.agg #[.int .i64 ((rd_T33 l0_3 (ji33)).f0), .int .i64 ((rd_T33 l0_3 (ji33)).f1), .int .i64 ((rd_T33 l0_3 (ji33)).f2), .bool ((rd_T33 l0_3 (ji33)).f3)], .agg #[.int .i64 ((rd_T33 l0_3 aa).f0), .int .i64 ((rd_T33 l0_3 aa).f1), .int .i64 ((rd_T33 l0_3 aa).f2), .bool ((rd_T33 l0_3 aa).f3)]] (by rfl) rfl rfl (by (try simp only [m3]); first | done | (simp only [hji33]; rfl) | rfl | (simp only [d2]; rfl)) ?_
                with_reducible refine (impl_compareEdges.calls kj12 ((rd_T33 l0_3 (ji33)).f0) ((rd_T33 l0_3 (ji33)).f1) ((rd_T33 l0_3 (ji33)).f2) ((rd_T33 l0_3 (ji33)).f3) ((rd_T33 l0_3 aa).f0) ((rd_T33 l0_3 aa).f1) ((rd_T33 l0_3 aa).f2) ((rd_T33 l0_3 aa).f3) am _ cC.out).mono ?_
                rintro e df ⟨rfl, hb⟩; refine ⟨_, rfl, ?_⟩; replace ab := xB ab hb; replace ac := xB ac hb; replace HB := xS HB hb
                (try clear hb)
                (try clear hb2)
                (try clear hk)
                (try clear hi)
                refine hK.out _ _ ⟨b1 ab 0, b1 ab 1, b1 ab 2, b1 ab 3, b1 ac 0, b1 ac 1, b1 ac 2, b1 ac 3, ((HB.out.cell (World.block_lt_of_cell? w _ hw237_0)).trans hw237_0), ((HB.out.cell (World.block_lt_of_cell? w _ hw237_1)).trans hw237_1), ((HB.out.cell (World.block_lt_of_cell? w _ hw237_2)).trans hw237_2), ((HB.out.cell (World.block_lt_of_cell? w _ hw237_3)).trans hw237_3)⟩ (fun hHeld => ?_); clear hK K; refine norm_ (a' := ?_) ?_ ?_; rotate_left
                ·show Act.put _ (some 62) _ = _; simp only [Act.put, q5]; rfl
                refine pv_ 11 (some 63) bl12 HT_ ?_
                refine pv_ 12 (some 64) bl13 HT_ ?_
                refine done_ (done_of HT_.out (by kernel_rfl)) ?_
                try go_wp2
                (first | go_roundg kj12 | ((try simp only [← hji33]); go_roundg kj12))
                case measure => have := HJ1.out; have := HK2.out; have := HJ12.out; omega
                case rel => exact ⟨(wrap64 (aa + 1)), (by first | rfl | (simp; done) | (simp [*]; done) | (rw [Int.tmod_eq_emod_of_nonneg (Int.natCast_nonneg _)]; done)), (by first | exact H' | (have h_ := H'; (try simp only [← hji33] at h_); (try simp only [← hji33]); exact h_)), ⟨by have := HJ1.out; have := HK2.out; have := HJ12.out; omega⟩, ⟨zB ab.out⟩, ⟨zS HB.out⟩⟩
              ·rw [if_neg bj] at H; exact absurd H (by simp)
             ·rw [if_neg bi] at H; exact absurd H (by simp)
            ·rw [if_neg aP] at H; have cy : decide (0 < aa) = false := decide_eq_false aP; clear aP; have H' := Aside0.mk H; clear H
             try go_wp2
             replace ab := Aside0.mk (blk_drew ab.out); replace ac := Aside0.mk (blk_drew ac.out); replace HB := Aside0.mk (below_drew1 HB.out); refine start_ (n := 13) (S := fun w' => True) (ds := []) bl0 (by kernel_rfl) rfl rfl trivial (fun hHeld => ?_); refine with_tabW impl_AutoOk.tab8 impl_AutoOk.bits8 (fun HT_ HW_ => ?_); generalize wc.drew = dg at ab ac HB hHeld ⊢
             refine pv_ 0 (some 52) bl1 HT_ ?_
             refine pv_ 1 (some 53) bl2 HT_ ?_
             refine pv_ 2 (some 54) bl3 HT_ ?_
             refine pn_ 3 (some 55) bl4 HT_ ?_
             refine pn_ 4 (some 56) bl14 HT_ ?_
             refine pn_ 5 (some 57) bl15 HT_ ?_
             refine pn_ 6 (some 58) bl7 HT_ ?_
             refine pn_ 7 (some 59) bl8 HT_ ?_
             refine pn_ 8 (some 60) bl9 HT_ ?_
             refine pn_ 9 (some 61) bl10 HT_ ?_
             refine pn_ 10 (some 62) bl11 HT_ ?_
             refine pn_ 11 (some 63) bl12 HT_ ?_
             refine pv_ 12 (some 64) bl13 HT_ ?_
             refine done_ (done_of HT_.out (by kernel_rfl)) ?_
             try go_wp2
             go_roundg kj12
             case measure => have := HJ1.out; have := HK2.out; have := HJ12.out; omega
             case rel => exact ⟨(wrap64 (aa + 1)), (by first | rfl | (simp; done) | (simp [*]; done) | (rw [Int.tmod_eq_emod_of_nonneg (Int.natCast_nonneg _)]; done)), H', ⟨by have := HJ1.out; have := HK2.out; have := HJ12.out; omega⟩, ⟨zB ab.out⟩, ⟨zS HB.out⟩⟩
        ·rw [if_neg bc] at H; exact absurd H (by simp)
       ·rw [if_neg bb] at H; exact absurd H (by simp)
      ·rw [if_neg aO] at H; have bf : decide (aa < (l0_3.length : Int)) = false := decide_eq_false aO; clear aO; obtain rfl := Option.some.inj H
       go_wp2
       go_ret; exact ⟨by first | rfl | (simp [errW_none, errW_some] <;> rfl) | (simp [*, errW_none, errW_some] <;> rfl), by repeat (first | (with_reducible first | exact HB.out | apply below_alloc | apply pw_below_drewN | apply below_drew1 | refine below_set ?_ aw.out) | exact HB.out)⟩


/-! ### impl_rightAuto: function 24 -/
def impl_rightAuto.f (k : Nat) (a0_0 : Int) (a0_1 : Int) (a0_2 : Int) (l0_3 : List (S33)) : Option (Int × Int × Int × (List (S33)) × Bool) := (impl_AutoOk.f k a0_0 a0_1 a0_2 l0_3).bind fun t241 => (if t241 = true then (some (a0_0, a0_1, a0_2, l0_3, true)) else (some (0, 0, 0, ([] : List (S33)), false)))
theorem impl_rightAuto.mono : ∀ a0 a1 a2 a3 k, LeO (impl_rightAuto.f k a0 a1 a2 a3) (impl_rightAuto.f (k + 1) a0 a1 a2 a3) := by
 intro a0 a1 a2 a3 k
 unfold impl_rightAuto.f
 repeat' first
   | (with_reducible exact impl_AutoOk.mono _ _ _ _ _)
   | (with_reducible exact LeO.refl _)
   | (with_reducible exact LeO.none _)
   | (with_reducible refine LeO.ite ?_ ?_)
   | (with_reducible refine LeO.bind ?_ (fun _ => ?_))
   | exact impl_AutoOk.mono _ _ _ _ _
   | exact LeO.none _
   | refine LeO.ite ?_ ?_
   | refine LeO.bind ?_ (fun _ => ?_)
open Go.Proofs.Ytigmokdcanebeaa.Short2 Go.Proofs.Ytigmokdcanebeaa.Short6 in
set_option maxHeartbeats 8000000 in
set_option maxRecDepth 100000 in
theorem impl_rightAuto.calls (k : Nat) (a0_0 : Int) (a0_1 : Int) (a0_2 : Int) (P0_3_ : Nat → Prop) (u9000_ : Value) (l0_3 : List (S33)) (r1 : Int) (r2 : Int) (r3 : Int) (r4 : List (S33)) (r5 : Bool) (w0 w : World) (hB : Below w0.heap.size w0 w) (ho0_3 : Kd.R k33 33 w w0.heap.size P0_3_ u9000_ l0_3) (h : impl_rightAuto.f k a0_0 a0_1 a0_2 l0_3 = some (r1, r2, r3, r4, r5)) :
  Calls Try.prog 24 #[.agg #[.int .i64 a0_0, .int .i64 a0_1, .int .i64 a0_2, u9000_]] w fun e w' => ∃ v3_ : Value, e = .returned (.tuple #[.agg #[.int .i64 r1, .int .i64 r2, .int .i64 r3, v3_], .bool r5]) ∧ Kd.R k33 33 w' w0.heap.size (fun k_ => (P0_3_ k_ ∨ w.heap.size ≤ k_)) v3_ r4 ∧ Below w0.heap.size w0 w' ∧ Kept w w' (fun k_ => P0_3_ k_) := by
 have hu28 := Try.underlying28; have HO0_3 := Aside0.mk (show Kd.R k33 33 w w0.heap.size (fun k_ => (P0_3_ k_ ∨ w.heap.size ≤ k_)) u9000_ l0_3 from Kd.R_mono ho0_3 (fun k_ hk => (.inl hk))); have HK := Aside0.mk (Kept.refl w (fun k_ => P0_3_ k_)); have HW0 := Aside0.mk hB.size; have HB := Aside0.mk hB; clear hB; have H : ((impl_AutoOk.f k a0_0 a0_1 a0_2 l0_3).bind fun ao => (if ao = true then (some (a0_0, a0_1, a0_2, l0_3, true)) else (some (0, 0, 0, ([] : List (S33)), false)))) = some (r1, r2, r3, r4, r5) := h; clear h; replace H := Option.bind_eq_some_iff.mp H; obtain ⟨ao, aA, H⟩ := H; replace H : (if ao = true then (some (a0_0, a0_1, a0_2, l0_3, true)) else (some (0, 0, 0, ([] : List (S33)), false))) = some (r1, r2, r3, r4, r5) := H; have A2 := Aside0.mk aA; clear aA
 by_cases c3 : ao = true
 ·subst c3
  have H1 : (some (a0_0, a0_1, a0_2, l0_3, true)) = some (r1, r2, r3, r4, r5) := by rw [if_pos rfl] at H; exact H
  clear H; have H := H1; clear H1; simp only [Option.some.injEq, Prod.mk.injEq] at H; obtain ⟨rfl, rfl, rfl, rfl, rfl⟩ := H; obtain ⟨aw, ax, bi⟩ := Kd.R_slice HO0_3.out; subst bi
  go_enter Try.func24, Try.ntmps24
  go_wp2_with (first | ((with_reducible refine gate_dst (N := 1) rfl ?_); refine box_event ?hg (N := 1) ?hd (cs := #[.int .i64 a0_0, .int .i64 a0_1, .int .i64 a0_2, .slice aw l0_3.length ax]) (t := 28) ?hr ?_; (case hd => rfl); (case hg => rfl); (case hr => first | (go_simp; done) | (go_simp; rfl)); intro am hg w5 hbox hb; have ad := xR HO0_3 hb; have ae := Aside0.mk (Kept.below (S := (fun k_ => P0_3_ k_)) (by repeat (first | (with_reducible first | exact HK.out | apply Kept.alloc | apply Kept.drewN | apply Kept.drew) | exact HK.out)) hb); have af := xS HB hb; have ag := Aside0.mk (hbox); have ah := Aside0.mk ((by rw [hg]; exact (by first | exact HK.out.1 | exact (show Kept w _ (fun k_ => P0_3_ k_) from by repeat (first | (with_reducible first | exact HK.out | apply Kept.alloc | apply Kept.drewN | apply Kept.drew) | exact HK.out)).1) : w.heap.size ≤ am)); have aj := Aside0.mk ((by rw [hg]; exact (below_size (zS HB.out)) : w0.heap.size ≤ am)); clear HO0_3; clear HK; clear HB; have HO0_3 := ad; have HK := ae; have HB := af; have aa := ag; have ai := ah; have ap := aj; clear ad ae af ag ah aj; clear hb hbox hg) | ((with_reducible refine gate_dst (N := 2) rfl ?_); refine box_event ?hg (N := 2) ?hd (cs := #[.int .i64 0, .int .i64 0, .int .i64 0, .slice none 0 0]) (t := 28) ?hr ?_; (case hd => rfl); (case hg => rfl); (case hr => first | (go_simp; done) | (go_simp; rfl)); intro ac hg w6 hbox hb; have ad := xR HO0_3 hb; have ae := xB aa hb; have af := Aside0.mk (Kept.below (S := (fun k_ => P0_3_ k_)) (by repeat (first | (with_reducible first | exact HK.out | apply Kept.alloc | apply Kept.drewN | apply Kept.drew | refine Kept.setCell ?_ (.inr ai.out) _) | exact HK.out)) hb); have ag := xS HB hb; have ah := Aside0.mk (hbox); have aj := Aside0.mk ((by rw [hg]; exact (by first | exact HK.out.1 | exact (show Kept w _ (fun k_ => P0_3_ k_) from by repeat (first | (with_reducible first | exact HK.out | apply Kept.alloc | apply Kept.drewN | apply Kept.drew | refine Kept.setCell ?_ (.inr ai.out) _) | exact HK.out)).1) : w.heap.size ≤ ac)); have ar := Aside0.mk ((by rw [hg]; exact (below_size (zS HB.out)) : w0.heap.size ≤ ac)); have au := xN aa hg; have av := xM aa hg; clear HO0_3; clear aa; clear HK; clear HB; have HO0_3 := ad; have aa := ae; have HK := af; have HB := ag; have ab := ah; have an := aj; have aq := ar; have ak := au; have al := av; clear ad ae af ag ah aj ar au av; clear hb hbox hg; have bt := ak.out; have bu := al.out; obtain ⟨bj, bk, bl, bm, bn, bo, bp, bq⟩ := cz4 aa) | ((with_reducible refine gate_callee (f := 9) rfl ?_); refine gl_ (some 5) Try.func9 #[.agg #[.int .i64 a0_0, .int .i64 a0_1, .int .i64 a0_2, .slice aw l0_3.length ax]] ?_; (with_reducible refine (impl_AutoOk.calls k a0_0 a0_1 a0_2 _ _ l0_3 true _ ?side1 ?side2 A2.out).mono ?_); (case side1 => exact zC (Kd.R_reads' HO0_3.out).2.2); (case side2 => exact (Kd.R_reads' HO0_3.out).2.1); rintro e w9 ⟨rfl, hb⟩; refine ⟨_, rfl, ?_⟩; have ad := xR HO0_3 hb; have ae := xB aa hb; have af := xB ab hb; have ag := Aside0.mk (Kept.below (S := (fun k_ => P0_3_ k_)) (by repeat (first | (with_reducible first | exact HK.out | apply Kept.alloc | apply Kept.drewN | apply Kept.drew | refine Kept.setCell ?_ (.inr ai.out) _ | refine Kept.setCell ?_ (.inr an.out) _) | exact HK.out)) hb); have ah := xS HB hb; clear HO0_3; clear aa; clear ab; clear HK; clear HB; have HO0_3 := ad; have aa := ae; have ab := af; have HK := ag; have HB := ah; clear ad ae af ag ah; (try clear hb); (try clear hb2); (try clear hk); (try clear hi); obtain ⟨aC, aD, aE, aF, aG, aH, aI, aJ⟩ := cz4 aa; obtain ⟨aK, aL, aM, aN, aO, aP, aQ, aR⟩ := cz4 ab))
  refine bodyPost_ret (results_ct rfl _ _ ac 28 #[.int .i64 a0_0, .int .i64 a0_1, .int .i64 a0_2, .slice aw l0_3.length ax] (0, 0) _ rfl (xP4 ab.out) Try.underlying28 rfl (by kernel_rfl)) rfl ?_; exact ⟨_, by first | rfl | (simp [errW_none, errW_some] <;> rfl) | (simp [*, errW_none, errW_some] <;> rfl), by (with_reducible repeat (first | apply Kd.R_alloc | apply Kd.R_drewN | apply Kd.R_drew)); exact Kd.R_mono (Kd.R_far (p := ⟨ac, 3, none⟩) (Kd.R_far (p := ⟨ac, 2, none⟩) (Kd.R_far (p := ⟨ac, 1, none⟩) (Kd.R_far (p := ⟨ac, 0, none⟩) (Kd.R_types HO0_3.out ab.out (by decide)) (fun _ hk => hk.2) (.int .i64 a0_0)) (fun _ hk => hk.2) (.int .i64 a0_1)) (fun _ hk => hk.2) (.int .i64 a0_2)) (fun _ hk => hk.2) (.slice aw l0_3.length ax)) (fun _ hk => hk.1), by repeat (first | (with_reducible first | exact HB.out | apply below_alloc | apply pw_below_drewN | apply below_drew1 | refine below_set ?_ ap.out | refine below_set ?_ aq.out) | exact HB.out), by repeat (first | (with_reducible first | exact HK.out | apply Kept.alloc | apply Kept.drewN | apply Kept.drew | refine Kept.setCell ?_ (.inr ai.out) _ | refine Kept.setCell ?_ (.inr an.out) _) | exact HK.out)⟩
 ·replace c3 := Bool.eq_false_iff.mpr c3; subst c3
  have H1 : (some (0, 0, 0, ([] : List (S33)), false)) = some (r1, r2, r3, r4, r5) := by rw [if_neg (show ¬ (false = true) by decide)] at H; exact H
  clear H; have H := H1; clear H1; simp only [Option.some.injEq, Prod.mk.injEq] at H; obtain ⟨rfl, rfl, rfl, rfl, rfl⟩ := H; obtain ⟨ay, az, aB⟩ := Kd.R_slice HO0_3.out; subst aB
  go_enter Try.func24, Try.ntmps24
  go_wp2_with (first | ((with_reducible refine gate_dst (N := 1) rfl ?_); refine box_event ?hg (N := 1) ?hd (cs := #[.int .i64 a0_0, .int .i64 a0_1, .int .i64 a0_2, .slice ay l0_3.length az]) (t := 28) ?hr ?_; (case hd => rfl); (case hg => rfl); (case hr => first | (go_simp; done) | (go_simp; rfl)); intro am hg bv hbox hb; have ad := xR HO0_3 hb; have ae := Aside0.mk (Kept.below (S := (fun k_ => P0_3_ k_)) (by repeat (first | (with_reducible first | exact HK.out | apply Kept.alloc | apply Kept.drewN | apply Kept.drew) | exact HK.out)) hb); have af := xS HB hb; have ag := Aside0.mk (hbox); have ah := Aside0.mk ((by rw [hg]; exact (by first | exact HK.out.1 | exact (show Kept w _ (fun k_ => P0_3_ k_) from by repeat (first | (with_reducible first | exact HK.out | apply Kept.alloc | apply Kept.drewN | apply Kept.drew) | exact HK.out)).1) : w.heap.size ≤ am)); have aj := Aside0.mk ((by rw [hg]; exact (below_size (zS HB.out)) : w0.heap.size ≤ am)); clear HO0_3; clear HK; clear HB; have HO0_3 := ad; have HK := ae; have HB := af; have aa := ag; have ai := ah; have ap := aj; clear ad ae af ag ah aj; clear hb hbox hg) | ((with_reducible refine gate_dst (N := 2) rfl ?_); refine box_event ?hg (N := 2) ?hd (cs := #[.int .i64 0, .int .i64 0, .int .i64 0, .slice none 0 0]) (t := 28) ?hr ?_; (case hd => rfl); (case hg => rfl); (case hr => first | (go_simp; done) | (go_simp; rfl)); intro ac hg bw hbox hb; have ad := xR HO0_3 hb; have ae := xB aa hb; have af := Aside0.mk (Kept.below (S := (fun k_ => P0_3_ k_)) (by repeat (first | (with_reducible first | exact HK.out | apply Kept.alloc | apply Kept.drewN | apply Kept.drew | refine Kept.setCell ?_ (.inr ai.out) _) | exact HK.out)) hb); have ag := xS HB hb; have ah := Aside0.mk (hbox); have aj := Aside0.mk ((by rw [hg]; exact (by first | exact HK.out.1 | exact (show Kept w _ (fun k_ => P0_3_ k_) from by repeat (first | (with_reducible first | exact HK.out | apply Kept.alloc | apply Kept.drewN | apply Kept.drew | refine Kept.setCell ?_ (.inr ai.out) _) | exact HK.out)).1) : w.heap.size ≤ ac)); have ar := Aside0.mk ((by rw [hg]; exact (below_size (zS HB.out)) : w0.heap.size ≤ ac)); have au := xN aa hg; have av := xM aa hg; clear HO0_3; clear aa; clear HK; clear HB; have HO0_3 := ad; have aa := ae; have HK := af; have HB := ag; have ab := ah; have an := aj; have aq := ar; have ak := au; have al := av; clear ad ae af ag ah aj ar au av; clear hb hbox hg; have br := ak.out; have bs := al.out; obtain ⟨aS, aT, aU, aV, aW, aX, aY, aZ⟩ := cz4 aa) | ((with_reducible refine gate_callee (f := 9) rfl ?_); refine gl_ (some 5) Try.func9 #[.agg #[.int .i64 a0_0, .int .i64 a0_1, .int .i64 a0_2, .slice ay l0_3.length az]] ?_; (with_reducible refine (impl_AutoOk.calls k a0_0 a0_1 a0_2 _ _ l0_3 false _ ?side1 ?side2 A2.out).mono ?_); (case side1 => exact zC (Kd.R_reads' HO0_3.out).2.2); (case side2 => exact (Kd.R_reads' HO0_3.out).2.1); rintro e bx ⟨rfl, hb⟩; refine ⟨_, rfl, ?_⟩; have ad := xR HO0_3 hb; have ae := xB aa hb; have af := xB ab hb; have ag := Aside0.mk (Kept.below (S := (fun k_ => P0_3_ k_)) (by repeat (first | (with_reducible first | exact HK.out | apply Kept.alloc | apply Kept.drewN | apply Kept.drew | refine Kept.setCell ?_ (.inr ai.out) _ | refine Kept.setCell ?_ (.inr an.out) _) | exact HK.out)) hb); have ah := xS HB hb; clear HO0_3; clear aa; clear ab; clear HK; clear HB; have HO0_3 := ad; have aa := ae; have ab := af; have HK := ag; have HB := ah; clear ad ae af ag ah; (try clear hb); (try clear hb2); (try clear hk); (try clear hi); obtain ⟨ba, bb, bc, bd, be, bf, bg, bh⟩ := cz4 ab))
  refine bodyPost_ret (results_ct rfl _ _ ac 28 #[.int .i64 0, .int .i64 0, .int .i64 0, .slice none 0 0] (0, 0) _ rfl (xP4 ab.out) Try.underlying28 rfl (by kernel_rfl)) rfl ?_; exact ⟨_, by first | rfl | (simp [errW_none, errW_some] <;> rfl) | (simp [*, errW_none, errW_some] <;> rfl), by first | exact Kd.R_nil _ _ _ _ _ | exact Kd.N_nil _ _ _ _ _ | exact Kd.V_nil _ _ _ _ _ | exact Kd.Q_nil _ _ _ _ _ | exact Kd.S_nil _ _ _ _ _, by repeat (first | (with_reducible first | exact HB.out | apply below_alloc | apply pw_below_drewN | apply below_drew1 | refine below_set ?_ ap.out | refine below_set ?_ aq.out) | exact HB.out), by repeat (first | (with_reducible first | exact HK.out | apply Kept.alloc | apply Kept.drewN | apply Kept.drew | refine Kept.setCell ?_ (.inr ai.out) _ | refine Kept.setCell ?_ (.inr an.out) _) | exact HK.out)⟩

/-! ### impl_Edge_37: function 37 -/
def impl_Edge_37.f (l0 : List S33) : Option (List S33) := if l0.length < 4398046511104 then some l0 else none
set_option maxHeartbeats 8000000 in
set_option maxRecDepth 100000 in
theorem impl_Edge_37.calls (A0 : Option Addr) (c0 : Nat) (l0 : List S33) (r : List S33) (w : World) (hr0 : Kd.C k33 w A0 l0.length l0) (hc0 : l0.length ≤ c0) (h : impl_Edge_37.f l0 = some r) :
    Calls Try.prog 37 #[.slice A0 l0.length c0] w fun e w' => ∃ v0_ : Value, e = .returned (v0_) ∧ Kd.R k33 33 w' w.heap.size (fun _ => True) v0_ r ∧ Below w.heap.size w w' := by
  unfold impl_Edge_37.f at h
  by_cases hl : l0.length < 4398046511104
  · rw [if_pos hl] at h
    obtain rfl := Option.some.inj h
    have hinf : (Try.prog.info? 33).map (fun i => (i.zero, i.size, i.bytes)) = some (some (.agg #[(.int .i64 0), (.int .i64 0), (.int .i64 0), (.bool false)]), 4, 32) := by kernel_rfl
    have HINF := Aside0.mk hinf
    have HL := Aside0.mk hl
    have HR0 := Aside0.mk hr0
    have HC0 := Aside0.mk hc0
    clear hl h hr0 hc0 hinf
    have heq := fun (w : World) (a : Option Addr) (n c : Nat) => Lib.run_eql_slice_nil (P := Try.prog) w 24 33 a n c 0 0 Try.underlying24
    rcases A0 with _ | ad
    · have hl0 : l0 = [] := by
        rcases Nat.eq_zero_or_pos l0.length with h0 | h0
        · exact List.eq_nil_of_length_eq_zero h0
        · obtain ⟨ad, he, _⟩ := HR0.out.2.2 h0
          cases he
      subst hl0
      go_enter Try.func37, Try.ntmps37
      go_wp2
      go_ret
      exact ⟨_, rfl, Kd.R_nil _ _ _ _ _, Below.refl _ _⟩
    · go_enter Try.func37, Try.ntmps37
      go_wp2_with (first
        | ((with_reducible refine gate_dst (N := 5) rfl ?_); refine Kd.R_lit k33 _ 33 ?hg (N := 5) ?hd (xs := ([] : List S33)) (inner := []) (ok := fun _ => True) (okp := fun _ => True) ?hr ?hp (fun _ hk => hk) trivial (Below.refl _ _) (Nat.le_refl _) (by simp) ?_; (case hd => rfl); (case hg => rfl); (case hr => first | (go_simp; done) | (go_simp; rfl)); (case hp => exact (Reps.none _ _)); intro v1 w1 ho1 hb1 _ _; have aa := Aside0.mk ho1; have HB1 := Aside0.mk hb1; clear ho1 hb1)
        | (at_builtin; refine Kd.R_append_rows k33 (w0 := w) w.heap.size rfl (.tmp 5) (.tmp 6) 24 33 (.agg #[(.int .i64 0), (.int .i64 0), (.int .i64 0), (.bool false)]) 32 rfl Try.underlying24 HINF.out rfl (by decide) (by omega) v1 [] l0 _ _ _ (fun _ => True) (fun _ => False) rfl rfl ?aO ?aR (fun _ _ h => h) (fun _ h => h.elim) ?aF ?aB ?aS ?aL ?_; (case aR => exact Kd.C_below HR0.out HB1.out); (case aB => exact HB1.out); (case aF => exact (fun _ _ => trivial)); (case aO => exact aa.out); (case aS => exact HB1.out.size); (case aL => have := HL.out; simp; omega); intro v2 w2 ho hb hg hat; have ab := Aside0.mk ho; have HB2 := Aside0.mk hb; clear ho hb hg hat))
      go_ret
      exact ⟨_, rfl, ab.out, HB2.out⟩
  · rw [if_neg hl] at h
    cases h

end Go.Proofs.Ytigmokdcanebeaa.MFnMake
