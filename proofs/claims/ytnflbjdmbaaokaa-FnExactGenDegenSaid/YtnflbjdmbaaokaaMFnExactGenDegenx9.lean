-- Written by a program of this session, out of Lean's print of the translation. Not trusted: Lean checks it.
import Derived.Test.YtnflbjdmbaaokaaMFnExactGenDegenx0
import Derived.Test.YtnflbjdmbaaokaaMFnExactGenDegenx7
namespace Go.Proofs.Ytnflbjdmbaaokaa.MFnExactGenDegen
open Go.RowKit Go.Proofs.YtnflbjdmbaaokaaW.PrintWords Go.Proofs.YtnflbjdmbaaokaaW.PrintLast Go.Proofs.YtnflbjdmbaaokaaW.PrintMore Go.Proofs.Ytnflbjdmbaaokaa.Short6
attribute [local go_sem] max2_int min2_int max_two min_two max_three min_three max_four min_four   -- for this text's walks alone
set_option linter.unusedVariables false
set_option linter.unusedSimpArgs false

/-! ### impl_Edge_42: function 42 -/
def impl_Edge_42.f (l0 : List S48) : Option (List S48) := if l0.length < 4398046511104 then some l0 else none
set_option maxHeartbeats 8000000 in
set_option maxRecDepth 100000 in
theorem impl_Edge_42.calls (A0 : Option Addr) (c0 : Nat) (l0 : List S48) (r : List S48) (w : World) (hr0 : Kd.C k48 w A0 l0.length l0) (hc0 : l0.length ≤ c0) (h : impl_Edge_42.f l0 = some r) :
    Calls Try.prog 42 #[.slice A0 l0.length c0] w fun e w' => ∃ v0_ : Value, e = .returned (v0_) ∧ Kd.R k48 48 w' w.heap.size (fun _ => True) v0_ r ∧ Below w.heap.size w w' := by
  unfold impl_Edge_42.f at h
  by_cases hl : l0.length < 4398046511104
  · rw [if_pos hl] at h
    obtain rfl := Option.some.inj h
    have hinf : (Try.prog.info? 48).map (fun i => (i.zero, i.size, i.bytes)) = some (some (.agg #[(.int .i64 0), (.int .i64 0), (.int .i64 0), (.bool false)]), 4, 32) := by kernel_rfl
    have HINF := Aside0.mk hinf
    have HL := Aside0.mk hl
    have HR0 := Aside0.mk hr0
    have HC0 := Aside0.mk hc0
    clear hl h hr0 hc0 hinf
    have heq := fun (w : World) (a : Option Addr) (n c : Nat) => Lib.run_eql_slice_nil (P := Try.prog) w 26 48 a n c 0 0 Try.underlying26
    rcases A0 with _ | ad
    · have hl0 : l0 = [] := by
        rcases Nat.eq_zero_or_pos l0.length with h0 | h0
        · exact List.eq_nil_of_length_eq_zero h0
        · obtain ⟨ad, he, _⟩ := HR0.out.2.2 h0
          cases he
      subst hl0
      go_enter Try.func42, Try.ntmps42
      go_wp2
      go_ret
      exact ⟨_, rfl, Kd.R_nil _ _ _ _ _, Below.refl _ _⟩
    · go_enter Try.func42, Try.ntmps42
      go_wp2_with (first
        | ((with_reducible refine gate_dst (N := 5) rfl ?_); refine Kd.R_lit k48 _ 48 ?hg (N := 5) ?hd (xs := ([] : List S48)) (inner := []) (ok := fun _ => True) (okp := fun _ => True) ?hr ?hp (fun _ hk => hk) trivial (Below.refl _ _) (Nat.le_refl _) (by simp) ?_; (case hd => rfl); (case hg => rfl); (case hr => first | (go_simp; done) | (go_simp; rfl)); (case hp => exact (Reps.none _ _)); intro v1 w1 ho1 hb1 _ _; have aa := Aside0.mk ho1; have HB1 := Aside0.mk hb1; clear ho1 hb1)
        | (at_builtin; refine Kd.R_append_rows k48 (w0 := w) w.heap.size rfl (.tmp 5) (.tmp 6) 26 48 (.agg #[(.int .i64 0), (.int .i64 0), (.int .i64 0), (.bool false)]) 32 rfl Try.underlying26 HINF.out rfl (by decide) (by omega) v1 [] l0 _ _ _ (fun _ => True) (fun _ => False) rfl rfl ?aO ?aR (fun _ _ h => h) (fun _ h => h.elim) ?aF ?aB ?aS ?aL ?_; (case aR => exact Kd.C_below HR0.out HB1.out); (case aB => exact HB1.out); (case aF => exact (fun _ _ => trivial)); (case aO => exact aa.out); (case aS => exact HB1.out.size); (case aL => have := HL.out; simp; omega); intro v2 w2 ho hb hg hat; have ab := Aside0.mk ho; have HB2 := Aside0.mk hb; clear ho hb hg hat))
      go_ret
      exact ⟨_, rfl, ab.out, HB2.out⟩
  · rw [if_neg hl] at h
    cases h

section
open Go.Proofs.Ytnflbjdmbaaokaa.Short2.T
abbrev impl_compareEdges.bl0 : Array Bool := #[f, f, f, f, f, f, f, f, f, f, f, f, f, f, f, f, f, f]
abbrev impl_compareEdges.bl1 : Array Bool := #[t, f, f, f, f, f, f, f, f, f, f, f, f, f, f, f, f, f]
abbrev impl_compareEdges.bl2 : Array Bool := #[t, f, t, f, f, f, f, f, f, f, f, f, f, f, f, f, f, f]
abbrev impl_compareEdges.bl3 : Array Bool := #[t, f, t, f, f, t, f, f, f, f, f, f, f, f, f, f, f, f]
abbrev impl_compareEdges.bl4 : Array Bool := #[t, f, t, f, f, t, f, t, f, f, f, f, f, f, f, f, f, f]
abbrev impl_compareEdges.bl5 : Array Bool := #[t, f, t, f, f, t, f, t, f, f, t, f, f, f, f, f, f, f]
abbrev impl_compareEdges.bl6 : Array Bool := #[t, f, t, f, f, t, f, t, f, f, t, f, t, f, f, f, f, f]
abbrev impl_compareEdges.bl7 : Array Bool := #[t, t, t, f, f, t, f, t, f, f, t, f, t, f, f, f, f, f]
abbrev impl_compareEdges.bl8 : Array Bool := #[t, t, t, t, f, t, f, t, f, f, t, f, t, f, f, f, f, f]
abbrev impl_compareEdges.bl9 : Array Bool := #[t, t, t, t, f, t, t, t, f, f, t, f, t, f, f, f, f, f]
abbrev impl_compareEdges.bl10 : Array Bool := #[t, t, t, t, f, t, t, t, t, f, t, f, t, f, f, f, f, f]
abbrev impl_compareEdges.bl11 : Array Bool := #[t, t, t, t, f, t, t, t, t, f, t, t, t, f, f, f, f, f]
abbrev impl_compareEdges.bl12 : Array Bool := #[t, t, t, t, f, t, t, t, t, f, t, t, t, t, f, f, f, f]
abbrev impl_compareEdges.bl13 : Array Bool := #[t, t, t, t, t, t, t, t, t, f, t, t, t, t, f, f, f, f]
abbrev impl_compareEdges.bl14 : Array Bool := #[t, t, t, t, t, t, t, t, t, t, t, t, t, t, f, f, f, f]
abbrev impl_compareEdges.bl15 : Array Bool := #[t, t, t, t, t, t, t, t, t, t, t, t, t, t, t, f, f, f]
abbrev impl_compareEdges.bl16 : Array Bool := #[t, t, t, t, t, t, t, t, t, t, t, t, t, t, t, t, f, f]
abbrev impl_compareEdges.bl17 : Array Bool := #[t, t, t, t, t, t, t, t, t, t, t, t, t, t, t, t, t, f]
abbrev impl_compareEdges.bl18 : Array Bool := #[t, t, t, t, t, t, t, t, t, t, t, t, t, t, t, t, t, t]
end
/-! ### impl_compareEdges: function 44 -/
def impl_compareEdges.f (k : Nat) (a0_0 : Int) (a0_1 : Int) (a0_2 : Int) (a0_3 : Bool) (a1_0 : Int) (a1_1 : Int) (a1_2 : Int) (a1_3 : Bool) : Option (Int) := (cmp_Compare_int.f a0_0 a1_0).bind fun t249 => ((cmp_Compare_int.f a0_1 a1_1).bind fun t250 => ((cmp_Compare_int.f a0_2 a1_2).bind fun t251 => ((cmp_Or_int.f k (([t249, t250, t251] : List Int))).bind fun t255 => (some t255))))
theorem impl_compareEdges.mono : ∀ a0 a1 a2 a3 a4 a5 a6 a7 k, LeO (impl_compareEdges.f k a0 a1 a2 a3 a4 a5 a6 a7) (impl_compareEdges.f (k + 1) a0 a1 a2 a3 a4 a5 a6 a7) := by
 intro a0 a1 a2 a3 a4 a5 a6 a7 k
 unfold impl_compareEdges.f
 repeat' first
   | (with_reducible exact cmp_Or_int.mono _ _)
   | (with_reducible exact LeO.refl _)
   | (with_reducible exact LeO.none _)
   | (with_reducible refine LeO.ite ?_ ?_)
   | (with_reducible refine LeO.bind ?_ (fun _ => ?_))
   | exact cmp_Or_int.mono _ _
   | exact LeO.none _
   | refine LeO.ite ?_ ?_
   | refine LeO.bind ?_ (fun _ => ?_)
def impl_compareEdges.T1 : Bool × List (List Nat × List Nat) := (true, [([], []), ([0], [0]), ([], []), ([2], [2]), ([1, 3], [1, 3]), ([], []), ([5], [5]), ([], []), ([7], [7]), ([6, 8, 4], [6, 8]), ([], []), ([10], [10]), ([], []), ([12], [12]), ([11, 13, 9], [11, 13]), ([4, 9, 14], [4, 9, 14]), ([15, 14], [15]), ([16, 16, 0, 1, 2, 3, 4, 5, 6, 7, 8, 9, 10, 11, 12, 13, 14, 15, 16], [16])])
def impl_compareEdges.B1 : List Nat := [0, 1, 0, 4, 15, 0, 32, 0, 128, 511, 0, 1024, 0, 4096, 16383, 32767, 65535, 131071]
theorem impl_compareEdges.tab1 : rtab .any (opsOf Try.f44 1) = impl_compareEdges.T1 := by kernel_rfl
theorem impl_compareEdges.bits1 : waitsOk impl_compareEdges.T1.2 impl_compareEdges.B1 = true := by kernel_rfl
open Go.Proofs.Ytnflbjdmbaaokaa.Short2 in
set_option maxHeartbeats 8000000 in
set_option maxRecDepth 100000 in
theorem impl_compareEdges.calls (k : Nat) (a0_0 : Int) (a0_1 : Int) (a0_2 : Int) (a0_3 : Bool) (a1_0 : Int) (a1_1 : Int) (a1_2 : Int) (a1_3 : Bool) (r : Int) (w : World) (h : impl_compareEdges.f k a0_0 a0_1 a0_2 a0_3 a1_0 a1_1 a1_2 a1_3 = some r) :
  Calls Try.prog 44 #[.agg #[.int .i64 a0_0, .int .i64 a0_1, .int .i64 a0_2, .bool a0_3], .agg #[.int .i64 a1_0, .int .i64 a1_1, .int .i64 a1_2, .bool a1_3]] w fun e w' => e = .returned (.int .i64 r) ∧ Below w.heap.size w w' := by
 have hu48 := Try.underlying48; have HB := Aside0.mk (Below.refl w.heap.size w); have H : ((cmp_Compare_int.f a0_0 a1_0).bind fun af => ((cmp_Compare_int.f a0_1 a1_1).bind fun ad => ((cmp_Compare_int.f a0_2 a1_2).bind fun ac => ((cmp_Or_int.f k (([af, ad, ac] : List Int))).bind fun ae => (some ae))))) = some r := h; clear h; replace H := bI H; obtain ⟨af, an, H⟩ := H; replace H : ((cmp_Compare_int.f a0_1 a1_1).bind fun ad => ((cmp_Compare_int.f a0_2 a1_2).bind fun ac => ((cmp_Or_int.f k (([af, ad, ac] : List Int))).bind fun ae => (some ae)))) = some r := H; have A3 := Aside0.mk an; clear an; replace H := bI H; obtain ⟨ad, ao, H⟩ := H; replace H : ((cmp_Compare_int.f a0_2 a1_2).bind fun ac => ((cmp_Or_int.f k (([af, ad, ac] : List Int))).bind fun ae => (some ae))) = some r := H; have A4 := Aside0.mk ao; clear ao; replace H := bI H; obtain ⟨ac, ap, H⟩ := H; replace H : ((cmp_Or_int.f k (([af, ad, ac] : List Int))).bind fun ae => (some ae)) = some r := H; have A5 := Aside0.mk ap; clear ap; obtain ⟨ak, ag⟩ : ∃ y_ : List Int, y_ = (([af, ad, ac] : List Int)) := ⟨_, rfl⟩
 replace H : ((cmp_Or_int.f k ak).bind fun ae => (some ae)) = some r := by first | (rw [ag]; with_reducible exact H) | (have H2_ := (Option.bind_some _ _).symm.trans H; rw [ag]; with_reducible exact H2_) | (have H2_ := (Option.bind_some _ _).symm.trans H; with_reducible exact H2_) | with_reducible exact H | (rw [ag]; exact H) | exact H
 have al := Aside0.mk ag; clear ag; replace H := bI H; obtain ⟨ae, aq, H⟩ := H; replace H : (some ae) = some r := H; have A6 := Aside0.mk aq; clear aq; obtain rfl := Option.some.inj H
 go_enter Try.func44, Try.ntmps44
 try go_wp2_with (first | ((with_reducible refine gate_dst (N := 2) rfl ?_); refine bx_ 2 #[.int .i64 a0_0, .int .i64 a0_1, .int .i64 a0_2, .bool a0_3] 48 ?_; intro ah hg w7 hbox hb; have aa := Aside0.mk (hbox); have ax := xG HB hg; have ay := xG HB hg; replace HB := xS HB hb; clear hb hbox hg) | ((with_reducible refine gate_dst (N := 3) rfl ?_); refine bx_ 3 #[.int .i64 a1_0, .int .i64 a1_1, .int .i64 a1_2, .bool a1_3] 48 ?_; intro ai hg w8 hbox hb; have ab := Aside0.mk (hbox); have az := xG HB hg; have aA := xG HB hg; replace HB := xS HB hb; have ar := xN aa hg; have au := xM aa hg; replace aa := xB aa hb; clear hb hbox hg))
 replace aa := Aside0.mk (blk_drew aa.out); replace ab := Aside0.mk (blk_drew ab.out); replace HB := Aside0.mk (below_drew1 HB.out); refine start_ (n := 18) (S := fun w' => w'.cell? ⟨ah, 0, none⟩ = some (.int .i64 a0_0) ∧ w'.cell? ⟨ah, 1, none⟩ = some (.int .i64 a0_1) ∧ w'.cell? ⟨ah, 2, none⟩ = some (.int .i64 a0_2) ∧ w'.cell? ⟨ah, 3, none⟩ = some (.bool a0_3) ∧ w'.cell? ⟨ai, 0, none⟩ = some (.int .i64 a1_0) ∧ w'.cell? ⟨ai, 1, none⟩ = some (.int .i64 a1_1) ∧ w'.cell? ⟨ai, 2, none⟩ = some (.int .i64 a1_2) ∧ w'.cell? ⟨ai, 3, none⟩ = some (.bool a1_3)) (ds := []) bl0 (by kernel_rfl) rfl rfl ⟨b1 aa 0, b1 aa 1, b1 aa 2, b1 aa 3, b1 ab 0, b1 ab 1, b1 ab 2, b1 ab 3⟩ (fun hHeld => ?_); refine with_tabW impl_compareEdges.tab1 impl_compareEdges.bits1 (fun HT_ HW_ => ?_); generalize w8.drew = w9 at aa ab HB hHeld ⊢
 refine pv_ 0 (some 5) bl1 HT_ ?_
 refine pv_ 2 (some 7) bl2 HT_ ?_
 refine pv_ 5 (some 10) bl3 HT_ ?_
 refine pv_ 7 (some 12) bl4 HT_ ?_
 refine pv_ 10 (some 15) bl5 HT_ ?_
 refine pv_ 12 (some 17) bl6 HT_ ?_
 refine tk_ 1 (some 6) bl7 HT_ HW_ hHeld ?_
 refine tk_ 3 (some 8) bl8 HT_ HW_ hHeld ?_
 refine tk_ 6 (some 11) bl9 HT_ HW_ hHeld ?_
 refine tk_ 8 (some 13) bl10 HT_ HW_ hHeld ?_
 refine tk_ 11 (some 16) bl11 HT_ HW_ hHeld ?_
 refine tk_ 13 (some 18) bl12 HT_ HW_ hHeld ?_
 refine on_ 4 (some 9) bl13 HT_ (fun K hK => ?_); refine gs_ Try.func52 #[.int .i64 a0_0, .int .i64 a1_0] ?_
 with_reducible refine (cmp_Compare_int.calls a0_0 a1_0 af _ A3.out).mono ?_
 rintro e w' ⟨rfl, ⟨nd, rfl⟩⟩; refine ⟨_, rfl, ?_⟩; refine hK.out _ _ ⟨b1 aa 0, b1 aa 1, b1 aa 2, b1 aa 3, b1 ab 0, b1 ab 1, b1 ab 2, b1 ab 3⟩ (fun hHeld => ?_); clear hK K; refine nr_ (some 9) ?_
 refine on_ 9 (some 14) bl14 HT_ (fun K hK => ?_); refine gs_ Try.func52 #[.int .i64 a0_1, .int .i64 a1_1] ?_
 with_reducible refine (cmp_Compare_int.calls a0_1 a1_1 ad _ A4.out).mono ?_
 rintro e w' ⟨rfl, ⟨nd, rfl⟩⟩; refine ⟨_, rfl, ?_⟩; refine hK.out _ _ ⟨b1 aa 0, b1 aa 1, b1 aa 2, b1 aa 3, b1 ab 0, b1 ab 1, b1 ab 2, b1 ab 3⟩ (fun hHeld => ?_); clear hK K; refine nr_ (some 14) ?_
 refine on_ 14 (some 19) bl15 HT_ (fun K hK => ?_); refine gs_ Try.func52 #[.int .i64 a0_2, .int .i64 a1_2] ?_
 with_reducible refine (cmp_Compare_int.calls a0_2 a1_2 ac _ A5.out).mono ?_
 rintro e w' ⟨rfl, ⟨nd, rfl⟩⟩; refine ⟨_, rfl, ?_⟩; refine hK.out _ _ ⟨b1 aa 0, b1 aa 1, b1 aa 2, b1 aa 3, b1 ab 0, b1 ab 1, b1 ab 2, b1 ab 3⟩ (fun hHeld => ?_); clear hK K; refine nr_ (some 19) ?_
 refine on_ 15 (some 20) bl16 HT_ (fun K hK => ?_)
 refine rl_ (Kd.int .i64) 3 20 ([af, ad, ac] : List Int) [.int .i64 af, .int .i64 ad, .int .i64 ac] (Reps.one (show Kd.M (Kd.int .i64) _ _ _ af [.int .i64 af] from rfl) (Reps.one (show Kd.M (Kd.int .i64) _ _ _ ad [.int .i64 ad] from rfl) (Reps.one (show Kd.M (Kd.int .i64) _ _ _ ac [.int .i64 ac] from rfl) (Reps.none _ _)))) ?_
 intro aB aC ho11 hb hg_ hnew_; clear hg_ hnew_
 (first | rw [← al.out] at ho11 | (simp only [Int.reduceToNat] at ho11; rw [← al.out] at ho11))
 have aj := rW0 ho11 HB; replace aa := xB aa hb; replace ab := xB ab hb; replace HB := xS HB hb; clear hb ho11; obtain ⟨av, aw, am⟩ := Kd.R_slice aj.out
 (first | subst am | (injection am with f1_ f2_ f3_; have f4_ := f1_.symm; have f5_ := f3_.symm; clear f1_ f2_ f3_; subst f4_; subst f5_))
 refine hK.out _ _ ⟨b1 aa 0, b1 aa 1, b1 aa 2, b1 aa 3, b1 ab 0, b1 ab 1, b1 ab 2, b1 ab 3⟩ (fun hHeld => ?_); clear hK K; refine nr_ (some 20) ?_
 refine on_ 16 (some 21) bl17 HT_ (fun K hK => ?_); refine gs_ Try.func51 #[.slice av ak.length aw] ?_
 with_reducible refine (cmp_Or_int.calls k _ _ ak ae _ ?side1 ?side2 A6.out).mono ?_
 (case side1 => exact sC aj)
 (case side2 => exact sL aj)
 rintro e w' ⟨rfl, ⟨nd, rfl⟩⟩; refine ⟨_, rfl, ?_⟩; refine hK.out _ _ ⟨b1 aa 0, b1 aa 1, b1 aa 2, b1 aa 3, b1 ab 0, b1 ab 1, b1 ab 2, b1 ab 3⟩ (fun hHeld => ?_); clear hK K; refine nr_ (some 21) ?_
 refine pv_ 17 (some 4) bl18 HT_ ?_
 refine done_ (done_of HT_.out (by kernel_rfl)) ?_
 try go_wp2
 go_ret; exact ⟨vw, zS HB.out⟩

/-! ### impl_Edge_43: function 43 -/
def impl_Edge_43.lays_ren : Go.Shelf.Ren := ⟨fun | 6 => 43 | 15 => 54 | 14 => 53 | 28 => 64 | 29 => 65 | 20 => 56 | 21 => 57 | 22 => 58 | 23 => 59 | 24 => 60 | 25 => 61 | 26 => 62 | 27 => 63 | 46 => 66 | 47 => 67 | 48 => 68 | 49 => 69 | 50 => 70 | 57 => 71 | n => n, fun | 22 => 26 | 24 => 48 | 25 => 70 | 3 => 3 | 39 => 68 | 0 => 0 | 53 => 83 | 55 => 85 | 4 => 4 | 46 => 77 | 45 => 76 | 50 => 53 | 5 => 5 | 9 => 9 | 66 => 86 | 70 => 90 | 76 => 92 | 77 => 93 | n => n, fun | n => n⟩
theorem impl_Edge_43.lays : Go.Proofs.SlLaysF0.n6 Try.prog impl_Edge_43.lays_ren := {
  mixed := by kernel_rfl
  f6 := ⟨Try.f43.name, by decide, Try.func43.trans (congrArg some (by kernel_rfl))⟩
  f14 := ⟨Try.f53.name, by decide, Try.func53.trans (congrArg some (by kernel_rfl))⟩
  f15 := Try.func54.trans (congrArg some (by kernel_rfl))
  f20 := ⟨Try.f56.name, by decide, Try.func56.trans (congrArg some (by kernel_rfl))⟩
  f21 := ⟨Try.f57.name, by decide, Try.func57.trans (congrArg some (by kernel_rfl))⟩
  f22 := ⟨Try.f58.name, by decide, Try.func58.trans (congrArg some (by kernel_rfl))⟩
  f23 := ⟨Try.f59.name, by decide, Try.func59.trans (congrArg some (by kernel_rfl))⟩
  f24 := ⟨Try.f60.name, by decide, Try.func60.trans (congrArg some (by kernel_rfl))⟩
  f25 := ⟨Try.f61.name, by decide, Try.func61.trans (congrArg some (by kernel_rfl))⟩
  f26 := ⟨Try.f62.name, by decide, Try.func62.trans (congrArg some (by kernel_rfl))⟩
  f27 := ⟨Try.f63.name, by decide, Try.func63.trans (congrArg some (by kernel_rfl))⟩
  f28 := Try.func64.trans (congrArg some (by kernel_rfl))
  f29 := Try.func65.trans (congrArg some (by kernel_rfl))
  f46 := ⟨Try.f66.name, by decide, Try.func66.trans (congrArg some (by kernel_rfl))⟩
  f47 := Try.func67.trans (congrArg some (by kernel_rfl))
  f48 := Try.func68.trans (congrArg some (by kernel_rfl))
  f49 := ⟨Try.f69.name, by decide, Try.func69.trans (congrArg some (by kernel_rfl))⟩
  f50 := ⟨Try.f70.name, by decide, Try.func70.trans (congrArg some (by kernel_rfl))⟩
  f57 := ⟨Try.f71.name, by decide, Try.func71.trans (congrArg some (by kernel_rfl))⟩
  t0 := Try.underlying0
  a0 := Try.isAgg0
  z0 := Try.sizeOf0
  v0 := Try.zeroValue0
  t3 := Try.underlying3
  a3 := Try.isAgg3
  z3 := Try.sizeOf3
  v3 := Try.zeroValue3
  t4 := Try.underlying4
  a4 := Try.isAgg4
  z4 := Try.sizeOf4
  v4 := Try.zeroValue4
  t5 := Try.underlying5
  a5 := Try.isAgg5
  z5 := Try.sizeOf5
  v5 := Try.zeroValue5
  t9 := Try.underlying9
  a9 := Try.isAgg9
  z9 := Try.sizeOf9
  v9 := Try.zeroValue9
  t22 := Try.underlying26
  a22 := Try.isAgg26
  z22 := Try.sizeOf26
  v22 := Try.zeroValue26
  t25 := Try.underlying70
  a25 := Try.isAgg70
  z25 := Try.sizeOf70
  v25 := Try.zeroValue70
  t39 := Try.underlying68
  a39 := Try.isAgg68
  z39 := Try.sizeOf68
  v39 := Try.zeroValue68
  t45 := Try.underlying76
  a45 := Try.isAgg76
  z45 := Try.sizeOf76
  v45 := Try.zeroValue76
  t46 := Try.underlying77
  a46 := Try.isAgg77
  z46 := Try.sizeOf77
  v46 := Try.zeroValue77
  t50 := Try.underlying53
  a50 := Try.isAgg53
  z50 := Try.sizeOf53
  v50 := Try.zeroValue53
  t53 := Try.underlying83
  a53 := Try.isAgg83
  z53 := Try.sizeOf83
  v53 := Try.zeroValue83
  t55 := Try.underlying85
  a55 := Try.isAgg85
  z55 := Try.sizeOf85
  v55 := Try.zeroValue85
  t66 := Try.underlying86
  a66 := Try.isAgg86
  z66 := Try.sizeOf86
  v66 := Try.zeroValue86
  t70 := Try.underlying90
  a70 := Try.isAgg90
  z70 := Try.sizeOf90
  v70 := Try.zeroValue90
  t76 := Try.underlying92
  a76 := Try.isAgg92
  z76 := Try.sizeOf92
  v76 := Try.zeroValue92
  t77 := Try.underlying93
  a77 := Try.isAgg93
  z77 := Try.sizeOf93
  v77 := Try.zeroValue93 }

theorem impl_Edge_43.dr_drewN {w w' : World} (h : w.drawn ≤ w'.drawn) (n : Nat) : w.drawn ≤ (w'.drewN n).drawn := Nat.le_trans h (Nat.le_add_right _ _)
theorem impl_Edge_43.dr_drew {w w' : World} (h : w.drawn ≤ w'.drawn) : w.drawn ≤ w'.drew.drawn := Nat.le_trans h (Nat.le_add_right _ _)
section
variable {P : Program} {ops : Array Oper} {Q : Exit → Act → World → Prop} {rest : List Oper} {o : Oper} {a : Act} {Kc : Act → World → Prop} {α : Type}
theorem impl_Edge_43.box_event_d {W : World} (hgd : o.guard = none) {N : Tmp} (_hd : o.dst = some N) {cs : Array Value} {t : TypeId}
    (hrun : (execOp a.eval o).run P W = .ok (.value (.pointer (some ⟨W.heap.size, 0, none⟩))) (W.alloc (.cells cs t (0, 0))))
    (h : ∀ g, g = W.heap.size → ∀ w1, w1.heap[g]? = some (.cells cs t (0, 0)) → Below W.heap.size W w1 → W.drawn ≤ w1.drawn → wpList P ops Q rest (a.put o.dst (.pointer (some ⟨g, 0, none⟩))) w1) : wpList P ops Q (o :: rest) a W :=
  Kd.event_run hgd hrun (h _ rfl _ (blk_new W _) (below_alloc (Below.refl _ _) _) (Nat.le_refl _))
theorem impl_Edge_43.R_lit_step_d (d : Kd α) {w0 W : World} (base e : Nat) (hw : Region.wanted o (yielded ops a.tmps) = true) {N : Tmp} (_hd : o.dst = some N) {xs : List α} {inner : List Value} {ok okp : Nat → Prop}
    (hrun : (execOp a.eval o).run P W = .ok (.value (.slice (some ⟨W.heap.size, 0, none⟩) xs.length xs.length)) (W.alloc (.cells inner.toArray e)))
    (hrep : Reps (d.M W base okp) d.sz xs inner) (hok : ∀ k, okp k → ok k) (hfresh : ok W.heap.size) (HB : Below base w0 W) (hbase : base ≤ W.heap.size) (hm : xs.length ≤ 9223372036854775807)
    (h : ∀ v1 w1, d.R e w1 base ok v1 xs → Below base w0 w1 → W.grownBy w1 none → (∃ b, v1.ownBlock = some b ∧ W.heap.size ≤ b) → W.drawn ≤ w1.drawn → Kc (a.put o.dst v1) w1) : if Region.wanted o (yielded ops a.tmps) = true then Oper.wp P o a W Kc Q else Kc (a.put o.dst undef) W := by
  refine event_step hw hrun (h _ _ ⟨fun k hk => ?_, inner, ?_, ?_⟩ (HB.alloc hbase _) (World.grownBy_alloc W _ none) ⟨W.heap.size, by simp [Value.ownBlock], Nat.le_refl _⟩ (Nat.le_refl _))
  · have : W.heap.size = k := by simpa [Value.ownBlock] using hk
    subst this
    exact hfresh
  · have h2 := World.ownsRow_lit (base := base) (e := e) (size := d.sz) W inner.toArray xs.length hbase (by simpa [maxLen] using hm) (by simpa using hrep.1)
    simpa using h2
  · refine hrep.imp_ (fun p c hp => d.M_mono (fun k hk => ⟨hok k hk.1, fun he => ?_⟩) (Kd.M_below (d.M_bound hp) (below_alloc (Below.refl _ _) _)))
    have h3 : k = W.heap.size := by simpa [Value.ownBlock] using he
    have := hk.2.2.1
    omega
end
set_option maxHeartbeats 8000000 in
set_option maxRecDepth 100000 in
open Go.Proofs.Ytnflbjdmbaaokaa.Short2 in
theorem impl_compareEdges.drawn (k : Nat) (a0_0 : Int) (a0_1 : Int) (a0_2 : Int) (a0_3 : Bool) (a1_0 : Int) (a1_1 : Int) (a1_2 : Int) (a1_3 : Bool) (r : Int) (w : World) (h : impl_compareEdges.f k a0_0 a0_1 a0_2 a0_3 a1_0 a1_1 a1_2 a1_3 = some r) :
  Calls Try.prog 44 #[.agg #[.int .i64 a0_0, .int .i64 a0_1, .int .i64 a0_2, .bool a0_3], .agg #[.int .i64 a1_0, .int .i64 a1_1, .int .i64 a1_2, .bool a1_3]] w fun e w' => e = .returned (.int .i64 r) ∧ Below w.heap.size w w' ∧ w.drawn ≤ w'.drawn := by
 have hu48 := Try.underlying48; have HB := Aside0.mk (Below.refl w.heap.size w); have HD := Aside0.mk (Nat.le_refl w.drawn); have H : ((cmp_Compare_int.f a0_0 a1_0).bind fun t249 => ((cmp_Compare_int.f a0_1 a1_1).bind fun t250 => ((cmp_Compare_int.f a0_2 a1_2).bind fun t251 => ((cmp_Or_int.f k (([t249, t250, t251] : List Int))).bind fun t255 => (some t255))))) = some r := h; clear h; replace H := bI H; obtain ⟨t249, A30, H⟩ := H; replace H : ((cmp_Compare_int.f a0_1 a1_1).bind fun t250 => ((cmp_Compare_int.f a0_2 a1_2).bind fun t251 => ((cmp_Or_int.f k (([t249, t250, t251] : List Int))).bind fun t255 => (some t255)))) = some r := H; have A3 := Aside0.mk A30; clear A30; replace H := bI H; obtain ⟨t250, A40, H⟩ := H; replace H : ((cmp_Compare_int.f a0_2 a1_2).bind fun t251 => ((cmp_Or_int.f k (([t249, t250, t251] : List Int))).bind fun t255 => (some t255))) = some r := H; have A4 := Aside0.mk A40; clear A40; replace H := bI H; obtain ⟨t251, A50, H⟩ := H; replace H : ((cmp_Or_int.f k (([t249, t250, t251] : List Int))).bind fun t255 => (some t255)) = some r := H; have A5 := Aside0.mk A50; clear A50; obtain ⟨y252, hy252⟩ : ∃ y_ : List Int, y_ = (([t249, t250, t251] : List Int)) := ⟨_, rfl⟩
 replace H : ((cmp_Or_int.f k y252).bind fun t255 => (some t255)) = some r := by first | (rw [hy252]; with_reducible exact H) | (have H2_ := (Option.bind_some _ _).symm.trans H; rw [hy252]; with_reducible exact H2_) | (have H2_ := (Option.bind_some _ _).symm.trans H; with_reducible exact H2_) | with_reducible exact H | (rw [hy252]; exact H) | exact H
 have Ny252 := Aside0.mk hy252; clear hy252; replace H := bI H; obtain ⟨t255, A60, H⟩ := H; replace H : (some t255) = some r := H; have A6 := Aside0.mk A60; clear A60; obtain rfl := Option.some.inj H
 go_enter Try.func44, Try.ntmps44
 try go_wp2_with (first | ((with_reducible refine gate_dst (N := 2) rfl ?_); refine impl_Edge_43.box_event_d ?hg (N := 2) ?hd (cs := #[.int .i64 a0_0, .int .i64 a0_1, .int .i64 a0_2, .bool a0_3]) (t := 48) ?hr ?_; (case hd => rfl); (case hg => rfl); (case hr => first | (go_simp; done) | (go_simp; rfl)); intro gb247 hg w7 hbox hb hd_; replace HD := Aside0.mk (Nat.le_trans HD.out hd_); clear hd_; have BK247 := Aside0.mk (hbox); have GW247 := xG HB hg; have GE247 := xG HB hg; replace HB := xS HB hb; clear hb hbox hg) | ((with_reducible refine gate_dst (N := 3) rfl ?_); refine impl_Edge_43.box_event_d ?hg (N := 3) ?hd (cs := #[.int .i64 a1_0, .int .i64 a1_1, .int .i64 a1_2, .bool a1_3]) (t := 48) ?hr ?_; (case hd => rfl); (case hg => rfl); (case hr => first | (go_simp; done) | (go_simp; rfl)); intro gb248 hg w8 hbox hb hd_; replace HD := Aside0.mk (Nat.le_trans HD.out hd_); clear hd_; have BK248 := Aside0.mk (hbox); have GW248 := xG HB hg; have GE248 := xG HB hg; replace HB := xS HB hb; have NB247_248 := xN BK247 hg; have NB248_247 := xM BK247 hg; replace BK247 := xB BK247 hb; clear hb hbox hg))
 replace BK247 := Aside0.mk (blk_drew BK247.out); replace BK248 := Aside0.mk (blk_drew BK248.out); replace HB := Aside0.mk (below_drew1 HB.out); replace HD := Aside0.mk (impl_Edge_43.dr_drew HD.out); refine start_ (n := 18) (S := fun w' => w'.cell? ⟨gb247, 0, none⟩ = some (.int .i64 a0_0) ∧ w'.cell? ⟨gb247, 1, none⟩ = some (.int .i64 a0_1) ∧ w'.cell? ⟨gb247, 2, none⟩ = some (.int .i64 a0_2) ∧ w'.cell? ⟨gb247, 3, none⟩ = some (.bool a0_3) ∧ w'.cell? ⟨gb248, 0, none⟩ = some (.int .i64 a1_0) ∧ w'.cell? ⟨gb248, 1, none⟩ = some (.int .i64 a1_1) ∧ w'.cell? ⟨gb248, 2, none⟩ = some (.int .i64 a1_2) ∧ w'.cell? ⟨gb248, 3, none⟩ = some (.bool a1_3)) (ds := []) bl0 (by kernel_rfl) rfl rfl ⟨b1 BK247 0, b1 BK247 1, b1 BK247 2, b1 BK247 3, b1 BK248 0, b1 BK248 1, b1 BK248 2, b1 BK248 3⟩ (fun hHeld => ?_); refine with_tabW impl_compareEdges.tab1 impl_compareEdges.bits1 (fun HT_ HW_ => ?_); generalize w8.drew = w9 at BK247 BK248 HB HD hHeld ⊢
 refine pv_ 0 (some 5) bl1 HT_ ?_
 refine pv_ 2 (some 7) bl2 HT_ ?_
 refine pv_ 5 (some 10) bl3 HT_ ?_
 refine pv_ 7 (some 12) bl4 HT_ ?_
 refine pv_ 10 (some 15) bl5 HT_ ?_
 refine pv_ 12 (some 17) bl6 HT_ ?_
 refine tk_ 1 (some 6) bl7 HT_ HW_ hHeld ?_
 refine tk_ 3 (some 8) bl8 HT_ HW_ hHeld ?_
 refine tk_ 6 (some 11) bl9 HT_ HW_ hHeld ?_
 refine tk_ 8 (some 13) bl10 HT_ HW_ hHeld ?_
 refine tk_ 11 (some 16) bl11 HT_ HW_ hHeld ?_
 refine tk_ 13 (some 18) bl12 HT_ HW_ hHeld ?_
 refine on_ 4 (some 9) bl13 HT_ (fun K hK => ?_); refine gs_ Try.func52 #[.int .i64 a0_0, .int .i64 a1_0] ?_
 with_reducible refine (cmp_Compare_int.calls a0_0 a1_0 t249 _ A3.out).mono ?_
 rintro e w' ⟨rfl, ⟨nd, rfl⟩⟩; refine ⟨_, rfl, ?_⟩; refine hK.out _ _ ⟨b1 BK247 0, b1 BK247 1, b1 BK247 2, b1 BK247 3, b1 BK248 0, b1 BK248 1, b1 BK248 2, b1 BK248 3⟩ (fun hHeld => ?_); clear hK K; refine nr_ (some 9) ?_
 refine on_ 9 (some 14) bl14 HT_ (fun K hK => ?_); refine gs_ Try.func52 #[.int .i64 a0_1, .int .i64 a1_1] ?_
 with_reducible refine (cmp_Compare_int.calls a0_1 a1_1 t250 _ A4.out).mono ?_
 rintro e w' ⟨rfl, ⟨nd, rfl⟩⟩; refine ⟨_, rfl, ?_⟩; refine hK.out _ _ ⟨b1 BK247 0, b1 BK247 1, b1 BK247 2, b1 BK247 3, b1 BK248 0, b1 BK248 1, b1 BK248 2, b1 BK248 3⟩ (fun hHeld => ?_); clear hK K; refine nr_ (some 14) ?_
 refine on_ 14 (some 19) bl15 HT_ (fun K hK => ?_); refine gs_ Try.func52 #[.int .i64 a0_2, .int .i64 a1_2] ?_
 with_reducible refine (cmp_Compare_int.calls a0_2 a1_2 t251 _ A5.out).mono ?_
 rintro e w' ⟨rfl, ⟨nd, rfl⟩⟩; refine ⟨_, rfl, ?_⟩; refine hK.out _ _ ⟨b1 BK247 0, b1 BK247 1, b1 BK247 2, b1 BK247 3, b1 BK248 0, b1 BK248 1, b1 BK248 2, b1 BK248 3⟩ (fun hHeld => ?_); clear hK K; refine nr_ (some 19) ?_
 refine on_ 15 (some 20) bl16 HT_ (fun K hK => ?_)
 refine impl_Edge_43.R_lit_step_d (Kd.int .i64) _ 3 ?hg (N := 20) ?hd (xs := ([t249, t250, t251] : List Int)) (inner := [.int .i64 t249, .int .i64 t250, .int .i64 t251]) (ok := fun _ => True) (okp := fun _ => True) ?hr ?hp (fun _ hk => hk) trivial (Below.refl _ _) (Nat.le_refl _) (by simp) ?_; (case hd => rfl); (case hg => rfl); (case hr => first | (go_simp; done) | (go_simp; rfl)); (case hp => exact (Reps.one (show Kd.M (Kd.int .i64) _ _ _ t249 [.int .i64 t249] from rfl) (Reps.one (show Kd.M (Kd.int .i64) _ _ _ t250 [.int .i64 t250] from rfl) (Reps.one (show Kd.M (Kd.int .i64) _ _ _ t251 [.int .i64 t251] from rfl) (Reps.none _ _)))))
 intro v253 w10 ho11 hb hg_ hnew_ hd_; clear hg_ hnew_; replace HD := Aside0.mk (Nat.le_trans (by repeat (first | (with_reducible first | exact HD.out | apply impl_Edge_43.dr_drewN | apply impl_Edge_43.dr_drew) | exact HD.out)) hd_); clear hd_
 (first | rw [← Ny252.out] at ho11 | (simp only [Int.reduceToNat] at ho11; rw [← Ny252.out] at ho11))
 have HO254 := rW0 ho11 HB; replace BK247 := xB BK247 hb; replace BK248 := xB BK248 hb; replace HB := xS HB hb; clear hb ho11; obtain ⟨Ao12, co12, eo12⟩ := Kd.R_slice HO254.out
 (first | subst eo12 | (injection eo12 with f1_ f2_ f3_; have f4_ := f1_.symm; have f5_ := f3_.symm; clear f1_ f2_ f3_; subst f4_; subst f5_))
 refine hK.out _ _ ⟨b1 BK247 0, b1 BK247 1, b1 BK247 2, b1 BK247 3, b1 BK248 0, b1 BK248 1, b1 BK248 2, b1 BK248 3⟩ (fun hHeld => ?_); clear hK K; refine nr_ (some 20) ?_
 refine on_ 16 (some 21) bl17 HT_ (fun K hK => ?_); refine gs_ Try.func51 #[.slice Ao12 y252.length co12] ?_
 with_reducible refine (cmp_Or_int.calls k _ _ y252 t255 _ ?side1 ?side2 A6.out).mono ?_
 (case side1 => exact sC HO254)
 (case side2 => exact sL HO254)
 rintro e w' ⟨rfl, ⟨nd, rfl⟩⟩; refine ⟨_, rfl, ?_⟩; refine hK.out _ _ ⟨b1 BK247 0, b1 BK247 1, b1 BK247 2, b1 BK247 3, b1 BK248 0, b1 BK248 1, b1 BK248 2, b1 BK248 3⟩ (fun hHeld => ?_); clear hK K; refine nr_ (some 21) ?_
 refine pv_ 17 (some 4) bl18 HT_ ?_
 refine done_ (done_of HT_.out (by kernel_rfl)) ?_
 try go_wp2
 go_ret; exact ⟨vw, ⟨by repeat (first | (with_reducible first | exact HB.out | apply below_alloc | apply pw_below_drewN | apply below_drew1 | refine below_set ?_ GE247.out | refine below_set ?_ GE248.out) | exact HB.out), (by repeat (first | (with_reducible first | exact HD.out | apply impl_Edge_43.dr_drewN | apply impl_Edge_43.dr_drew) | exact HD.out))⟩⟩
instance : Inhabited S48 := ⟨z48⟩
def impl_Edge_43.enc (x : S48) : List Value := [.int .i64 x.f0, .int .i64 x.f1, .int .i64 x.f2, .bool x.f3]
/-- The order of edges, as the comparison tells it. -/
def impl_Edge_43.cf (x y : S48) : Int := if x.f0 < y.f0 then -1 else if y.f0 < x.f0 then 1 else if x.f1 < y.f1 then -1 else if y.f1 < x.f1 then 1 else if x.f2 < y.f2 then -1 else if y.f2 < x.f2 then 1 else 0
def impl_Edge_43.lt (x y : S48) : Bool := decide (x.f0 < y.f0 ∨ (x.f0 = y.f0 ∧ (x.f1 < y.f1 ∨ (x.f1 = y.f1 ∧ x.f2 < y.f2))))
theorem impl_Edge_43.lt_eq : Go.Proofs.ltOf impl_Edge_43.cf = impl_Edge_43.lt := by
  funext x y
  unfold Go.Proofs.ltOf impl_Edge_43.cf impl_Edge_43.lt
  rw [decide_eq_decide]
  split
  · omega
  · split
    · omega
    · split
      · omega
      · split
        · omega
        · split
          · omega
          · split <;> omega
theorem impl_Edge_43.swo : Sort.SWO (Go.Proofs.ltOf impl_Edge_43.cf) := by
  rw [impl_Edge_43.lt_eq]
  refine ⟨fun x => ?_, fun x y z h1 h2 => ?_, fun x y z h1 h2 => ?_⟩
  · unfold impl_Edge_43.lt; rw [decide_eq_false_iff_not]; omega
  · unfold impl_Edge_43.lt at *; rw [decide_eq_true_iff] at *; omega
  · unfold impl_Edge_43.lt at *; rw [decide_eq_false_iff_not] at *; omega
theorem impl_Edge_43.flat_at (d : Array S48) (j i : Nat) (hj : j < d.size) (hi : i < 4) : (Sort.flatK impl_Edge_43.enc 4 d)[j * 4 + i]! = (impl_Edge_43.enc d[j]!)[i]! := by
  rw [Sort.get_flatK _ _ _ _ (by omega), show (j * 4 + i) / 4 = j by omega, show (j * 4 + i) % 4 = i by omega]
theorem impl_Edge_43.enc_at (x : S48) (i : Nat) (hi : i < 4) : (impl_Edge_43.enc x)[i]? = some (impl_Edge_43.enc x)[i]! := by
  have hl : (impl_Edge_43.enc x).length = 4 := rfl
  rw [getElem!_pos _ i (by omega), List.getElem?_eq_getElem]
/-- The row behind the sort. -/
theorem impl_Edge_43.row {P0_ : Nat → Prop} {l0 : List S48} {w0 w : World} {g cap : Nat} (hB : Below w0.heap.size w0 w) (ho0 : Kd.R k48 48 w w0.heap.size P0_ (.slice (some ⟨g, 0, none⟩) l0.length cap) l0) :
    Sort.HoldsK impl_Edge_43.enc 4 w g 0 l0.toArray ∧ g < w.heap.size ∧ ∀ (d' : Array S48) (n : Nat) (os : Array Obj), d'.size = l0.length →
      Kd.R k48 48 (Go.Proofs.sortWorldK impl_Edge_43.enc 4 w g 0 n d' os) w0.heap.size (fun k_ => (P0_ k_ ∨ w.heap.size ≤ k_)) (.slice (some ⟨g, 0, none⟩) l0.length cap) d'.toList ∧ Below w0.heap.size w0 (Go.Proofs.sortWorldK impl_Edge_43.enc 4 w g 0 n d' os) ∧ Kept w (Go.Proofs.sortWorldK impl_Edge_43.enc 4 w g 0 n d' os) (fun k_ => P0_ k_) := by
  obtain ⟨hok, inner, ⟨hin, hv⟩, hrl, hr⟩ := ho0
  rcases hv with ⟨hv, _⟩ | ⟨g', cap', cur, hv, hb, hh, hnc, hcm, hcs, ht⟩
  · cases hv
  injection hv with ha _ hc
  injection ha with ha
  injection ha with hg
  subst hg; subst hc
  have hlt : g < w.heap.size := (Array.getElem?_eq_some_iff.1 hh).1
  have hsz : k48.sz = 4 := rfl
  rw [hsz] at hrl hr hcs ht hin
  have hcell : ∀ j i : Nat, j < l0.length → i < 4 → cur[j * 4 + i]? = some (impl_Edge_43.enc (l0.toArray[j]!))[i]! := by
    intro j i hj hi
    have hm := k48_openM (hr j _ (List.getElem?_eq_getElem hj))
    have e1 : ((inner.drop (j * 4)).take 4)[i]? = cur[j * 4 + i]? := by
      rw [List.getElem?_take_of_lt hi, List.getElem?_drop, ← ht, List.getElem?_take_of_lt (by omega), Array.getElem?_toList]
    rw [← e1, hm, show l0.toArray[j]! = l0[j] by rw [getElem!_pos _ _ (by simpa using hj)]; simp]
    exact impl_Edge_43.enc_at _ i hi
  refine ⟨fun t htl => ?_, hlt, fun d' n os hd' => ?_⟩
  · rw [Sort.size_flatK, List.size_toArray] at htl
    have hj : t / 4 < l0.length := by omega
    have e := hcell (t / 4) (t % 4) hj (by omega)
    rw [show t / 4 * 4 + t % 4 = t by omega] at e
    refine ⟨?_, ?_⟩
    · have e2 := impl_Edge_43.flat_at l0.toArray (t / 4) (t % 4) (by simpa using hj) (by omega)
      rw [show t / 4 * 4 + t % 4 = t by omega] at e2
      rw [e2, Nat.zero_add]
      simp only [World.cell?, hh]
      simpa using e
    · simp [World.frozen?, hh]
  · have hb2 : (Go.Proofs.sortWorldK impl_Edge_43.enc 4 w g 0 n d' os).heap[g]? = some (.cells (Sort.putCells id 0 (Sort.flatK impl_Edge_43.enc 4 d') cur) 48 (0, 0)) := by
      show ((w.heap.modify g (Sort.onCells (Sort.putCells id 0 (Sort.flatK impl_Edge_43.enc 4 d')))) ++ os)[g]? = _
      rw [Array.getElem?_append_left (by simpa using hlt), Array.getElem?_modify, if_pos rfl, hh]
      rfl
    have hother : ∀ k, k < w.heap.size → k ≠ g → (Go.Proofs.sortWorldK impl_Edge_43.enc 4 w g 0 n d' os).heap[k]? = w.heap[k]? := by
      intro k hk hne
      show ((w.heap.modify g (Sort.onCells (Sort.putCells id 0 (Sort.flatK impl_Edge_43.enc 4 d')))) ++ os)[k]? = _
      rw [Array.getElem?_append_left (by simpa using hk), Array.getElem?_modify, if_neg (Ne.symm hne)]
    have hsize : w.heap.size ≤ (Go.Proofs.sortWorldK impl_Edge_43.enc 4 w g 0 n d' os).heap.size := by
      show _ ≤ ((w.heap.modify g (Sort.onCells (Sort.putCells id 0 (Sort.flatK impl_Edge_43.enc 4 d')))) ++ os).size
      rw [Array.size_append, Array.size_modify]; omega
    have hcs2 : (Sort.putCells id 0 (Sort.flatK impl_Edge_43.enc 4 d') cur).size = cap * 4 := by unfold Sort.putCells; rw [Array.size_mapIdx, hcs]
    have hnew : ∀ j i : Nat, j < l0.length → i < 4 → (Sort.putCells id 0 (Sort.flatK impl_Edge_43.enc 4 d') cur)[j * 4 + i]? = some (impl_Edge_43.enc (d'[j]!))[i]! := by
      intro j i hj hi
      have hlt2 : j * 4 + i < cur.size := by rw [hcs]; omega
      unfold Sort.putCells
      rw [Array.getElem?_mapIdx, Array.getElem?_eq_getElem hlt2, Option.map_some, if_pos (by rw [Sort.size_flatK]; omega), Nat.sub_zero, impl_Edge_43.flat_at d' j i (by omega) hi]; rfl
    have hdl : d'.toList.length = l0.length := by simpa using hd'
    have hcl : (Sort.putCells id 0 (Sort.flatK impl_Edge_43.enc 4 d') cur).toList.length = cap * 4 := by rw [Array.length_toList (xs := Sort.putCells id 0 (Sort.flatK impl_Edge_43.enc 4 d') cur)]; exact hcs2
    refine ⟨⟨fun k hk => .inl (hok k hk), (Sort.putCells id 0 (Sort.flatK impl_Edge_43.enc 4 d') cur).toList.take (l0.length * 4), ⟨?_, .inr ⟨g, cap, _, by rw [hdl], hb, hb2, ?_, hcm, hcs2, ?_⟩⟩, ?_, fun j p hj => ?_⟩, ?_, ?_⟩
    · rw [List.length_take, hcl, hdl, hsz]; omega
    · rw [hdl]; exact hnc
    · rw [hdl, hsz]
    · rw [List.length_take, hcl, hdl, hsz]; omega
    · obtain ⟨hjl, hjp⟩ := List.getElem?_eq_some_iff.1 hj
      rw [hdl] at hjl
      have e : ((((Sort.putCells id 0 (Sort.flatK impl_Edge_43.enc 4 d') cur).toList.take (l0.length * 4)).drop (j * 4)).take 4) = impl_Edge_43.enc p := by
        apply List.ext_getElem?
        intro i
        by_cases hi : i < 4
        · rw [List.getElem?_take_of_lt hi, List.getElem?_drop, List.getElem?_take_of_lt (by omega), Array.getElem?_toList, hnew j i hjl hi, ← impl_Edge_43.enc_at _ i hi, show d'[j]! = p by rw [getElem!_pos _ _ (by omega)]; simpa using hjp]
        · rw [List.getElem?_eq_none (by rw [List.length_take]; omega), List.getElem?_eq_none (by show 4 ≤ i; omega)]
      rw [hsz, e]
      exact k48_mkM _ _ _ p
    · exact hB.trans ⟨rfl, rfl, rfl, hsize, fun k hk => hother k (by have := hB.size; omega) (by omega)⟩
    · exact ⟨hsize, fun i hi hn => hother i hi (fun e => hn (by rw [e]; exact hok g rfl))⟩
theorem impl_Edge_43.grown {w w' : World} (hb : Below w.heap.size w w') (hd : w.drawn ≤ w'.drawn) : ∃ q os', w' = Sort.grow (w.drewN q) os' := by
  refine ⟨w'.drawn - w.drawn, w'.heap.extract w.heap.size w'.heap.size, ?_⟩
  obtain ⟨heap, tape, drawn, os, output⟩ := w
  obtain ⟨heap', tape', drawn', os', output'⟩ := w'
  obtain ⟨h1, h2, h3, h4, h5⟩ := hb
  simp only at h1 h2 h3 h4 h5 hd
  subst h1; subst h2; subst h3
  have e : heap' = heap ++ heap'.extract heap.size heap'.size := by
    apply Array.ext_getElem?
    intro i
    by_cases hi : i < heap.size
    · rw [Array.getElem?_append_left hi, h5 i hi]
    · rw [Array.getElem?_append_right (by omega), Array.getElem?_extract]
      by_cases h2 : i < heap'.size
      · rw [if_pos (by omega), show heap.size + (i - heap.size) = i by omega]
      · rw [if_neg (by omega), Array.getElem?_eq_none (by omega)]
  unfold Sort.grow World.drewN
  simp only [World.mk.injEq, true_and, and_true]
  exact ⟨e, by omega⟩
theorem impl_Edge_43.or3 (a b c : Int) : cmp_Or_int.f 10 [a, b, c] = some (if a = 0 then (if b = 0 then c else b) else a) := by
  unfold cmp_Or_int.f
  have e0 : rd [a, b, c] 0 = a := rfl
  have e1 : rd [a, b, c] 1 = b := rfl
  have e2 : rd [a, b, c] 2 = c := rfl
  have w0 : wrap64 (0 + 1) = 1 := by unfold wrap64; omega
  have w1 : wrap64 (1 + 1) = 2 := by unfold wrap64; omega
  have w2 : wrap64 (2 + 1) = 3 := by unfold wrap64; omega
  have l3 : (([a, b, c].length : Nat) : Int) = 3 := rfl
  rw [l3]
  simp only [cmp_Or_int.l0, e0, e1, e2, w0, w1, w2, l3]
  by_cases ha : a = 0
  · by_cases hb : b = 0
    · by_cases hc : c = 0
      · simp [ha, hb, hc]
      · simp [ha, hb, hc]
    · simp [ha, hb]
  · simp [ha]
/-- What the comparison comes to, in rounds enough. -/
theorem impl_Edge_43.cmpf (x y : S48) : impl_compareEdges.f 10 x.f0 x.f1 x.f2 x.f3 y.f0 y.f1 y.f2 y.f3 = some (impl_Edge_43.cf x y) := by
  have hn : ∀ a : Int, cmp_isNaN_int.f a = some false := fun a => by unfold cmp_isNaN_int.f; simp
  have hc : ∀ a b : Int, cmp_Compare_int.f a b = some (if a < b then -1 else if b < a then 1 else 0) := fun a b => by
    unfold cmp_Compare_int.f
    rw [hn, hn, Option.bind_some, Option.bind_some, if_neg (by simp), if_neg (by simp)]
    by_cases h1 : a < b
    · rw [if_pos h1, if_pos h1]
    · rw [if_neg h1, if_neg h1]
      by_cases h2 : b < a
      · rw [if_pos h2, if_pos h2]
      · rw [if_neg h2, if_neg h2]
  unfold impl_compareEdges.f impl_Edge_43.cf
  rw [hc, hc, hc, Option.bind_some, Option.bind_some, Option.bind_some, impl_Edge_43.or3, Option.bind_some]
  congr 1
  by_cases h1 : x.f0 < y.f0
  · rw [if_pos h1, if_pos h1]; rfl
  · rw [if_neg h1, if_neg h1]
    by_cases h2 : y.f0 < x.f0
    · rw [if_pos h2, if_pos h2]; rfl
    · rw [if_neg h2, if_neg h2, if_pos rfl]
      by_cases h3 : x.f1 < y.f1
      · rw [if_pos h3, if_pos h3]; rfl
      · rw [if_neg h3, if_neg h3]
        by_cases h4 : y.f1 < x.f1
        · rw [if_pos h4, if_pos h4]; rfl
        · rw [if_neg h4, if_neg h4, if_pos rfl]
theorem impl_Edge_43.lays_cmp (blk off size : Nat) (w : World) : Go.Proofs.CmpLays Try.prog 44 #[] impl_Edge_43.enc 4 impl_Edge_43.cf blk off size w :=
  fun _ _ _ _ x y => (impl_compareEdges.drawn 10 x.f0 x.f1 x.f2 x.f3 y.f0 y.f1 y.f2 y.f3 _ _ (impl_Edge_43.cmpf x y)).mono fun _ _ ⟨he, hb, hd⟩ => ⟨he, impl_Edge_43.grown hb hd⟩
/-- The row, put in order. -/
def impl_Edge_43.f (l0 : List S48) : Option (List S48) := if l0.length < 1048576 then some (Sort.pdq (Go.Proofs.ltOf impl_Edge_43.cf) l0.toArray 0 l0.toArray.size (Lib.bitLen l0.toArray.size) true true).toList else none
theorem impl_Edge_43.calls (P0_ : Nat → Prop) (u9000_ : Value) (l0 : List S48) (r1 : List S48) (w0 w : World) (hB : Below w0.heap.size w0 w) (ho0 : Kd.R k48 48 w w0.heap.size P0_ u9000_ l0) (h : impl_Edge_43.f l0 = some r1) :
    Calls Try.prog 43 #[u9000_, .func (.func 44) #[] #[]] w fun e w' => e = .returned (.tuple #[]) ∧ Kd.R k48 48 w' w0.heap.size (fun k_ => (P0_ k_ ∨ w.heap.size ≤ k_)) u9000_ r1 ∧ Below w0.heap.size w0 w' ∧ Kept w w' (fun k_ => P0_ k_) := by
  unfold impl_Edge_43.f at h
  by_cases hl : l0.length < 1048576
  · rw [if_pos hl] at h
    obtain rfl := Option.some.inj h
    clear h
    have hsort := Sort.pdq_sorts (Go.Proofs.ltOf impl_Edge_43.cf) impl_Edge_43.swo l0.toArray 0 l0.toArray.size (Lib.bitLen l0.toArray.size) true true (Nat.zero_le _) (Nat.le_refl _) (Or.inl rfl)
    have hsz : (Sort.pdq (Go.Proofs.ltOf impl_Edge_43.cf) l0.toArray 0 l0.toArray.size (Lib.bitLen l0.toArray.size) true true).size = l0.length := by simpa using hsort.1.1
    rcases Nat.eq_zero_or_pos l0.length with h0 | hp
    · obtain ⟨A, c, rfl⟩ := Kd.R_slice ho0
      obtain rfl := List.eq_nil_of_length_eq_zero h0
      have e0 : (Sort.pdq (Go.Proofs.ltOf impl_Edge_43.cf) ([] : List S48).toArray 0 ([] : List S48).toArray.size (Lib.bitLen ([] : List S48).toArray.size) true true).toList = [] := List.eq_nil_of_length_eq_zero (by rw [Array.length_toList]; exact hsz)
      rw [e0]
      have hcon := Go.Proofs.AnyF.slices_SortFunc_none { impl_Edge_43.lays with } A c (.func (.func 44) #[] #[]) w
      change Calls Try.prog 43 _ _ _ at hcon
      refine hcon.mono ?_
      rintro e w' ⟨rfl, rfl⟩
      exact ⟨rfl, Kd.R_mono ho0 (fun _ hk => .inl hk), hB, Kept.refl _ _⟩
    · obtain ⟨g, cap, rfl, _, _, _⟩ := Kd.R_form ho0 hp
      obtain ⟨hH, hlt, hrow⟩ := impl_Edge_43.row hB ho0
      have eg : ∀ args w, (callFunc 44 args).run Try.prog w = .ok (.enter 44 args) w := Go.Proofs.enters_of Try.func44 (by kernel_rfl) rfl
      have hcon := Go.Proofs.AnyQ.slices_SortFunc_eq impl_Edge_43.lays 4 Try.isAgg48 Try.sizeOf48 impl_Edge_43.enc (fun _ => rfl) (fun x v hv => by simp [impl_Edge_43.enc] at hv; rcases hv with rfl | rfl | rfl | rfl <;> rfl) impl_Edge_43.cf impl_Edge_43.swo 44 #[] g 0 cap l0.toArray w eg (impl_Edge_43.lays_cmp g 0 _ w) hH hlt (by rw [List.size_toArray]; omega)
      change Calls Try.prog 43 _ _ _ at hcon
      rw [List.size_toArray] at hcon
      refine hcon.mono ?_
      rintro e w' ⟨rfl, n, os, rfl⟩
      have := hrow _ n os hsz
      rw [List.size_toArray] at this ⊢
      exact ⟨rfl, this⟩
  · rw [if_neg hl] at h
    cases h

section
open Go.Proofs.Ytnflbjdmbaaokaa.Short2.T
abbrev impl_ordered.bl0 : Array Bool := #[f, f, f, f, f, f, f, f, f, f, f]
abbrev impl_ordered.bl1 : Array Bool := #[t, f, f, f, f, f, f, f, f, f, f]
abbrev impl_ordered.bl2 : Array Bool := #[t, t, f, f, f, f, f, f, f, f, f]
abbrev impl_ordered.bl3 : Array Bool := #[t, t, t, f, f, f, f, f, f, f, f]
abbrev impl_ordered.bl4 : Array Bool := #[t, t, t, t, f, f, f, f, f, f, f]
abbrev impl_ordered.bl5 : Array Bool := #[t, t, t, t, t, f, f, f, f, f, f]
abbrev impl_ordered.bl6 : Array Bool := #[t, t, t, t, t, t, f, f, f, f, f]
abbrev impl_ordered.bl7 : Array Bool := #[t, t, t, t, t, t, t, f, f, f, f]
abbrev impl_ordered.bl8 : Array Bool := #[t, t, t, t, t, t, t, t, f, f, f]
abbrev impl_ordered.bl9 : Array Bool := #[t, t, t, t, t, t, t, t, t, f, f]
abbrev impl_ordered.bl10 : Array Bool := #[t, t, t, t, t, t, t, t, t, t, f]
abbrev impl_ordered.bl11 : Array Bool := #[t, t, t, t, t, t, t, t, t, t, t]
end
/-! ### impl_ordered: function 24 -/
def impl_ordered.l0 : Nat → List (S48) → List (S48) → Int → Int → Option ((List (S48)))
 | 0, _, _, _, _ => none
 | k + 1, x4, x12, x13, x14 => if x14 < x13 then (if 0 ≤ x14 then (if x14 < (x12.length : Int) then (if (wrap64 ((x4.length : Int) - 1)) ≥ 0 then (if 0 ≤ (wrap64 ((x4.length : Int) - 1)) then (if (wrap64 ((x4.length : Int) - 1)) < (x4.length : Int) then ((impl_compareEdges.f k ((rd_T48 x4 (wrap64 ((x4.length : Int) - 1))).f0) ((rd_T48 x4 (wrap64 ((x4.length : Int) - 1))).f1) ((rd_T48 x4 (wrap64 ((x4.length : Int) - 1))).f2) ((rd_T48 x4 (wrap64 ((x4.length : Int) - 1))).f3) ((rd_T48 x12 x14).f0) ((rd_T48 x12 x14).f1) ((rd_T48 x12 x14).f2) ((rd_T48 x12 x14).f3)).bind fun t263 => (if t263 = 0 then (if (rd_T48 x4 (wrap64 ((x4.length : Int) - 1))).f3 = true then (impl_ordered.l0 k (x4.set ((wrap64 ((x4.length : Int) - 1)) : Int).toNat (⟨(rd_T48 x4 (wrap64 ((x4.length : Int) - 1))).f0, (rd_T48 x4 (wrap64 ((x4.length : Int) - 1))).f1, (rd_T48 x4 (wrap64 ((x4.length : Int) - 1))).f2, true⟩ : S48)) x12 x13 (wrap64 (x14 + 1))) else (impl_ordered.l0 k (x4.set ((wrap64 ((x4.length : Int) - 1)) : Int).toNat (⟨(rd_T48 x4 (wrap64 ((x4.length : Int) - 1))).f0, (rd_T48 x4 (wrap64 ((x4.length : Int) - 1))).f1, (rd_T48 x4 (wrap64 ((x4.length : Int) - 1))).f2, (rd_T48 x12 x14).f3⟩ : S48)) x12 x13 (wrap64 (x14 + 1)))) else (if x4.length < 4398046511104 then (impl_ordered.l0 k (x4 ++ [(⟨(rd_T48 x12 x14).f0, (rd_T48 x12 x14).f1, (rd_T48 x12 x14).f2, (rd_T48 x12 x14).f3⟩ : S48)]) x12 x13 (wrap64 (x14 + 1))) else (none)))) else (none)) else (none)) else (if x4.length < 4398046511104 then (impl_ordered.l0 k (x4 ++ [(⟨(rd_T48 x12 x14).f0, (rd_T48 x12 x14).f1, (rd_T48 x12 x14).f2, (rd_T48 x12 x14).f3⟩ : S48)]) x12 x13 (wrap64 (x14 + 1))) else (none))) else (none)) else (none)) else (some x4)
def impl_ordered.f (k : Nat) (l0 : List (S48)) : Option ((List (S48))) := (impl_Edge_42.f l0).bind fun t256 => ((impl_Edge_43.f t256).bind fun t259 => (impl_ordered.l0 k ([] : List (S48)) t259 (t256.length : Int) 0))
theorem impl_ordered.mono_l : ∀ k, (∀ y0 y1 y2 y3, LeO (impl_ordered.l0 k y0 y1 y2 y3) (impl_ordered.l0 (k + 1) y0 y1 y2 y3))
 | 0 => fun _ _ _ _ r h => by simp [impl_ordered.l0] at h
 | k + 1 => by
  have ih0 := impl_ordered.mono_l k
  ·intro y0 y1 y2 y3
   unfold impl_ordered.l0
   repeat' first
   | (with_reducible exact ih0 _ _ _ _)
   | (with_reducible exact impl_compareEdges.mono _ _ _ _ _ _ _ _ _)
   | (with_reducible exact LeO.refl _)
   | (with_reducible exact LeO.none _)
   | (with_reducible refine LeO.ite ?_ ?_)
   | (with_reducible refine LeO.bind ?_ (fun _ => ?_))
   | exact ih0 _ _ _ _
   | exact impl_compareEdges.mono _ _ _ _ _ _ _ _ _
   | exact LeO.none _
   | refine LeO.ite ?_ ?_
   | refine LeO.bind ?_ (fun _ => ?_)
theorem impl_ordered.mono : ∀ a0 k, LeO (impl_ordered.f k a0) (impl_ordered.f (k + 1) a0) := by
 intro a0 k
 have ih0 := impl_ordered.mono_l k
 unfold impl_ordered.f
 repeat' first
   | (with_reducible exact ih0 _ _ _ _)
   | (with_reducible exact impl_compareEdges.mono _ _ _ _ _ _ _ _ _)
   | (with_reducible exact LeO.refl _)
   | (with_reducible exact LeO.none _)
   | (with_reducible refine LeO.ite ?_ ?_)
   | (with_reducible refine LeO.bind ?_ (fun _ => ?_))
   | exact ih0 _ _ _ _
   | exact impl_compareEdges.mono _ _ _ _ _ _ _ _ _
   | exact LeO.none _
   | refine LeO.ite ?_ ?_
   | refine LeO.bind ?_ (fun _ => ?_)
def impl_ordered.T8 : Bool × List (List Nat × List Nat) := (true, [([], []), ([0], [0]), ([1], [1]), ([2], [2]), ([2], [2]), ([3, 4, 2], [2, 3, 4]), ([5, 2], [2, 5]), ([2], [2]), ([6, 7, 2, 2], [2, 6, 7]), ([8, 2], [2, 8]), ([2, 9], [2, 9])])
def impl_ordered.B8 : List Nat := [0, 1, 3, 7, 7, 31, 63, 7, 255, 511, 1023]
theorem impl_ordered.tab8 : rtab .any (opsOf Try.f24 8) = impl_ordered.T8 := by kernel_rfl
theorem impl_ordered.bits8 : waitsOk impl_ordered.T8.2 impl_ordered.B8 = true := by kernel_rfl
open Go.Proofs.Ytnflbjdmbaaokaa.Short2 in
set_option maxHeartbeats 8000000 in
set_option maxRecDepth 100000 in
theorem impl_ordered.calls (k : Nat) (A0 : Option Addr) (c0 : Nat) (l0 : List (S48)) (r : List (S48)) (w : World) (hr0 : Kd.C k48 w A0 l0.length l0) (hc0 : l0.length ≤ c0) (h : impl_ordered.f k l0 = some r) :
  Calls Try.prog 24 #[.slice A0 l0.length c0] w fun e w' => ∃ v0_ : Value, e = .returned (v0_) ∧ Kd.R k48 48 w' w.heap.size (fun _ => True) v0_ r ∧ Below w.heap.size w w' := by
 have hu48 := Try.underlying48; have HR0 := Aside0.mk hr0; have HC0 := Aside0.mk hc0; clear hr0 hc0; have HB := Aside0.mk (Below.refl w.heap.size w); have H : ((impl_Edge_42.f l0).bind fun ag => ((impl_Edge_43.f ag).bind fun az => (impl_ordered.l0 k ([] : List (S48)) az (ag.length : Int) 0))) = some r := h; clear h; replace H := bI H; obtain ⟨ag, bQ, H⟩ := H; replace H : ((impl_Edge_43.f ag).bind fun az => (impl_ordered.l0 k ([] : List (S48)) az (ag.length : Int) 0)) = some r := H; have A2 := Aside0.mk bQ; clear bQ; replace H := bI H; obtain ⟨az, bR, H⟩ := H; replace H : (impl_ordered.l0 k ([] : List (S48)) az (ag.length : Int) 0) = some r := H; have A3 := Aside0.mk bR; clear bR; have H' := Aside0.mk H; clear H
 go_enter Try.func24, Try.ntmps24
 go_wp2_with (first | ((with_reducible refine gate_callee (f := 42) rfl ?_); refine gl_ (some 9) Try.func42 #[.slice A0 l0.length c0] ?_; (with_reducible refine (impl_Edge_42.calls _ _ l0 ag _ ?side1 ?side2 A2.out).mono ?_); (case side1 => repeat (first | exact HR0.out | (with_reducible refine Kd.C_alloc ?_ _) | (with_reducible refine Kd.C_drewN ?_ _) | (with_reducible refine Kd.C_drew ?_))); (case side2 => exact HC0.out); rintro e w4 ⟨dv, rfl, ho0, hb⟩; refine ⟨_, rfl, ?_⟩; have aC := rW0 ho0 HB; replace HB := xS HB hb; (try clear hb); (try clear hb2); (try clear hk); (try clear hi); (try clear ho0); obtain ⟨aZ, aq, dd⟩ := Kd.R_slice aC.out; subst dd) | ((with_reducible refine gate_callee (f := 43) rfl ?_); refine gl_ (some 11) Try.func43 #[.slice aZ ag.length aq, .func (.func 44) #[] #[]] ?_; (with_reducible refine (impl_Edge_43.calls (fun k_ => some k_ = (.slice aZ ag.length aq : Value).ownBlock) (.slice aZ ag.length aq) ag  az w _ ?side1 ?side2 A3.out).mono ?_); (case side1 => repeat (first | (with_reducible first | exact HB.out | apply below_alloc | apply pw_below_drewN | apply below_drew1) | exact HB.out)); (case side2 => exact Kd.R_tight rfl aC.out); rintro e w6 ⟨rfl, bS, hb, hkp⟩; refine ⟨_, rfl, ?_⟩; replace aC := Aside0.mk (Kd.R_reok rfl bS (fun k_ e_ => aC.out.1 k_ e_)); replace HB := Aside0.mk (hb); (try clear hb); (try clear hkp); (try clear bS)))
 go_loopg [4, 14] k (fun kq v4 de w' => ∃ (x4_1 : List (S48)) (aa : List (S48)) (ab : Int), de = .int .i64 ab ∧ Aside0 (impl_ordered.l0 kq x4_1 aa (ag.length : Int) ab = some r) ∧ Aside0 (kq ≤ k) ∧ Aside0 (Kd.R k48 48 w' w.heap.size (fun k_ => some k_ ≠ ((.slice aZ ag.length aq) : Value).ownBlock) v4 x4_1) ∧ Aside0 (Kd.R k48 48 w' w.heap.size (fun k_ => some k_ ≠ (v4 : Value).ownBlock) (.slice aZ ag.length aq) aa) ∧ Aside0 (Below w.heap.size w w'))
 case atStart => exact ⟨(([] : List (S48))), (az), (0), vv, H', ⟨Nat.le_refl _⟩, ⟨by first | exact Kd.R_nil _ _ _ _ _ | exact Kd.N_nil _ _ _ _ _ | exact Kd.V_nil _ _ _ _ _ | exact Kd.Q_nil _ _ _ _ _ | exact Kd.S_nil _ _ _ _ _⟩, ⟨rM aC (fun _ hk => (by simp [Value.ownBlock]))⟩, ⟨zS HB.out⟩⟩
 case round =>
  clear H'
  try clear c2
  try clear p2
  try clear c4
  obtain ⟨x4_1, aa, ab, rfl, HA, HK1, af, ae, HB⟩ := hrel; have hl12_1 := (Kd.R_reads' ae.out).1; rw [hl12_1] at ae
  (try simp only [hl12_1])
  (try simp only [hl12_1] at af)
  cases gk with
  | zero => exact absurd HA.out (by simp [impl_ordered.l0])
  | succ k1 =>
   have H := HA.out; clear HA; simp only [impl_ordered.l0] at H
   by_cases c7 : ab < (ag.length : Int)
   ·rw [if_pos c7] at H; have bp : decide (ab < (ag.length : Int)) = true := decide_eq_true c7; clear c7
    by_cases c8 : 0 ≤ ab
    ·rw [if_pos c8] at H; have dw : decide (0 ≤ ab) = true := decide_eq_true c8; clear c8
     by_cases c9 : ab < (aa.length : Int)
     ·rw [if_pos c9] at H; have dx : decide (ab < (aa.length : Int)) = true := decide_eq_true c9; clear c9
      by_cases aV : (wrap64 ((x4_1.length : Int) - 1)) ≥ 0
      ·rw [if_pos aV] at H; have aW : decide (0 ≤ (wrap64 ((x4_1.length : Int) - 1))) = true := decide_eq_true aV; clear aV; obtain ⟨ji11, hji11⟩ : ∃ j_ : Int, (wrap64 ((x4_1.length : Int) - 1)) = j_ := ⟨_, rfl⟩
       replace H : (if 0 ≤ (ji11) then (if (ji11) < (x4_1.length : Int) then ((impl_compareEdges.f k1 ((rd_T48 x4_1 (ji11)).f0) ((rd_T48 x4_1 (ji11)).f1) ((rd_T48 x4_1 (ji11)).f2) ((rd_T48 x4_1 (ji11)).f3) ((rd_T48 aa ab).f0) ((rd_T48 aa ab).f1) ((rd_T48 aa ab).f2) ((rd_T48 aa ab).f3)).bind fun ar => (if ar = 0 then (if (rd_T48 x4_1 (ji11)).f3 = true then (impl_ordered.l0 k1 (x4_1.set ((ji11) : Int).toNat (⟨(rd_T48 x4_1 (ji11)).f0, (rd_T48 x4_1 (ji11)).f1, (rd_T48 x4_1 (ji11)).f2, true⟩ : S48)) aa (ag.length : Int) (wrap64 (ab + 1))) else (impl_ordered.l0 k1 (x4_1.set ((ji11) : Int).toNat (⟨(rd_T48 x4_1 (ji11)).f0, (rd_T48 x4_1 (ji11)).f1, (rd_T48 x4_1 (ji11)).f2, (rd_T48 aa ab).f3⟩ : S48)) aa (ag.length : Int) (wrap64 (ab + 1)))) else (if x4_1.length < 4398046511104 then (impl_ordered.l0 k1 (x4_1 ++ [(⟨(rd_T48 aa ab).f0, (rd_T48 aa ab).f1, (rd_T48 aa ab).f2, (rd_T48 aa ab).f3⟩ : S48)]) aa (ag.length : Int) (wrap64 (ab + 1))) else (none)))) else (none)) else (none)) = some r := by first | (rw [hji11] at H; exact H) | (simp only [hji11] at H ⊢; exact H)
       (try rw [hji11] at aW)
       have hji11w : (IntKind.i64.wrap ((x4_1.length : Int) - 1)) = ji11 := (i64_w _).trans hji11
       by_cases bk : 0 ≤ (ji11)
       ·rw [if_pos bk] at H; have dt : decide (0 ≤ (ji11)) = true := decide_eq_true bk; clear bk
        by_cases bl : (ji11) < (x4_1.length : Int)
        ·rw [if_pos bl] at H; have du : decide ((ji11) < (x4_1.length : Int)) = true := decide_eq_true bl; clear bl; replace H := bI H; obtain ⟨ar, bq, H⟩ := H; replace H : (if ar = 0 then (if (rd_T48 x4_1 (ji11)).f3 = true then (impl_ordered.l0 k1 (x4_1.set ((ji11) : Int).toNat (⟨(rd_T48 x4_1 (ji11)).f0, (rd_T48 x4_1 (ji11)).f1, (rd_T48 x4_1 (ji11)).f2, true⟩ : S48)) aa (ag.length : Int) (wrap64 (ab + 1))) else (impl_ordered.l0 k1 (x4_1.set ((ji11) : Int).toNat (⟨(rd_T48 x4_1 (ji11)).f0, (rd_T48 x4_1 (ji11)).f1, (rd_T48 x4_1 (ji11)).f2, (rd_T48 aa ab).f3⟩ : S48)) aa (ag.length : Int) (wrap64 (ab + 1)))) else (if x4_1.length < 4398046511104 then (impl_ordered.l0 k1 (x4_1 ++ [(⟨(rd_T48 aa ab).f0, (rd_T48 aa ab).f1, (rd_T48 aa ab).f2, (rd_T48 aa ab).f3⟩ : S48)]) aa (ag.length : Int) (wrap64 (ab + 1))) else (none))) = some r := H; have ba := Aside0.mk bq; clear bq
         by_cases aU : ar = 0
         ·rw [if_pos aU] at H; have bH : (ar == 0) = true := beq_iff_eq.mpr aU; have bJ : (ar != 0) = false := bne_eq_false_iff_eq.mpr aU; clear aU; obtain ⟨bq16, hbq16⟩ : ∃ b_ : Bool, b_ = ((rd_T48 x4_1 (ji11)).f3) := ⟨_, rfl⟩
          replace H : (if bq16 = true then (impl_ordered.l0 k1 (x4_1.set ((ji11) : Int).toNat (⟨(rd_T48 x4_1 (ji11)).f0, (rd_T48 x4_1 (ji11)).f1, (rd_T48 x4_1 (ji11)).f2, true⟩ : S48)) aa (ag.length : Int) (wrap64 (ab + 1))) else (impl_ordered.l0 k1 (x4_1.set ((ji11) : Int).toNat (⟨(rd_T48 x4_1 (ji11)).f0, (rd_T48 x4_1 (ji11)).f1, (rd_T48 x4_1 (ji11)).f2, (rd_T48 aa ab).f3⟩ : S48)) aa (ag.length : Int) (wrap64 (ab + 1)))) = some r := by rw [← hbq16] at H; exact H
          have Nbq16 := Aside0.mk hbq16; clear hbq16
          by_cases bm : bq16 = true
          ·subst bm
           have H1 : (impl_ordered.l0 k1 (x4_1.set ((ji11) : Int).toNat (⟨(rd_T48 x4_1 (ji11)).f0, (rd_T48 x4_1 (ji11)).f1, (rd_T48 x4_1 (ji11)).f2, true⟩ : S48)) aa (ag.length : Int) (wrap64 (ab + 1))) = some r := by rw [if_pos rfl] at H; exact H
           clear H; have H := H1; clear H1; obtain ⟨bf, aD⟩ : ∃ y_ : List (S48), y_ = (x4_1.set ((ji11) : Int).toNat (⟨(rd_T48 x4_1 (ji11)).f0, (rd_T48 x4_1 (ji11)).f1, (rd_T48 x4_1 (ji11)).f2, true⟩ : S48)) := ⟨_, rfl⟩
           replace H : (impl_ordered.l0 k1 bf aa (ag.length : Int) (wrap64 (ab + 1))) = some r := by first | (rw [aD]; with_reducible exact H) | (have H2_ := (Option.bind_some _ _).symm.trans H; rw [aD]; with_reducible exact H2_) | (have H2_ := (Option.bind_some _ _).symm.trans H; with_reducible exact H2_) | with_reducible exact H | (rw [aD]; exact H) | exact H
           have bK := Aside0.mk aD; clear aD; have H' := Aside0.mk H; clear H; have ap : 0 ≤ (ab : Int) := oD; have q260 : ab < (aa.length : Int) := oD; obtain ⟨ad260, e260, aI, aJ, aK, av⟩ := at_T48 (Kd.R_reads' ae.out).2.2 ab ap q260
           (try rw [← Nbq16.out] at av)
           cases e260
           replace ap := eq_true ap; replace q260 := eq_true q260
           try go_wp2_with (first | ((with_reducible refine gate_dst (N := 6) rfl ?_); refine bx_ 6 #[.int .i64 0, .int .i64 0, .int .i64 0, .bool false] 48 ?_; intro ac hg bb hbox hb; replace af := Aside0.mk (Kd.R_below (Kd.R_elderB (zR af.out) ac (Nat.le_of_eq hg.symm)) hb); replace ae := Aside0.mk (Kd.R_below (Kd.R_elderB (zR ae.out) ac (Nat.le_of_eq hg.symm)) hb); have ad := Aside0.mk (hbox); have aX := xG HB hg; have aY := xG HB hg; replace HB := xS HB hb; clear hb hbox hg; obtain ⟨bX, bY, bZ, ca, cb, cc, cd, ce⟩ := cz4 ad; obtain ⟨br, aM, bT⟩ := Kd.R_slice af.out; subst bT))
           have al : Aside0 (Kd.R k48 48 ((((bb.setCell ⟨ac, 0, none⟩ (.int .i64 ((rd_T48 aa ab).f0))).setCell ⟨ac, 1, none⟩ (.int .i64 ((rd_T48 aa ab).f1))).setCell ⟨ac, 2, none⟩ (.int .i64 ((rd_T48 aa ab).f2))).setCell ⟨ac, 3, none⟩ (.bool ((rd_T48 aa ab).f3))) w.heap.size (fun k_ => some k_ ≠ (.slice (some ad260) aa.length aq : Value).ownBlock ∧ k_ ≠ ac) (.slice br x4_1.length aM) x4_1) := ⟨by (with_reducible repeat (first | apply Kd.R_alloc | apply Kd.R_drewN | apply Kd.R_drew)); exact Kd.R_mono (Kd.R_far (p := ⟨ac, 3, none⟩) (Kd.R_far (p := ⟨ac, 2, none⟩) (Kd.R_far (p := ⟨ac, 1, none⟩) (Kd.R_far (p := ⟨ac, 0, none⟩) (Kd.R_mono af.out (fun k_ hk => (⟨hk, hk.2⟩ : _ ∧ k_ ≠ ac))) (fun _ hk => hk.2) (.int .i64 ((rd_T48 aa ab).f0))) (fun _ hk => hk.2) (.int .i64 ((rd_T48 aa ab).f1))) (fun _ hk => hk.2) (.int .i64 ((rd_T48 aa ab).f2))) (fun _ hk => hk.2) (.bool ((rd_T48 aa ab).f3))) (fun _ hk => ⟨hk.1.1, hk.1.2⟩)⟩; have am : Aside0 (Kd.R k48 48 ((((bb.setCell ⟨ac, 0, none⟩ (.int .i64 ((rd_T48 aa ab).f0))).setCell ⟨ac, 1, none⟩ (.int .i64 ((rd_T48 aa ab).f1))).setCell ⟨ac, 2, none⟩ (.int .i64 ((rd_T48 aa ab).f2))).setCell ⟨ac, 3, none⟩ (.bool ((rd_T48 aa ab).f3))) w.heap.size (fun k_ => some k_ ≠ (.slice br x4_1.length aM : Value).ownBlock ∧ k_ ≠ ac) (.slice (some ad260) aa.length aq) aa) := ⟨by (with_reducible repeat (first | apply Kd.R_alloc | apply Kd.R_drewN | apply Kd.R_drew)); exact Kd.R_mono (Kd.R_far (p := ⟨ac, 3, none⟩) (Kd.R_far (p := ⟨ac, 2, none⟩) (Kd.R_far (p := ⟨ac, 1, none⟩) (Kd.R_far (p := ⟨ac, 0, none⟩) (Kd.R_mono ae.out (fun k_ hk => (⟨hk, hk.2⟩ : _ ∧ k_ ≠ ac))) (fun _ hk => hk.2) (.int .i64 ((rd_T48 aa ab).f0))) (fun _ hk => hk.2) (.int .i64 ((rd_T48 aa ab).f1))) (fun _ hk => hk.2) (.int .i64 ((rd_T48 aa ab).f2))) (fun _ hk => hk.2) (.bool ((rd_T48 aa ab).f3))) (fun _ hk => ⟨hk.1.1, hk.1.2⟩)⟩
           have an : Aside0 (((((bb.setCell ⟨ac, 0, none⟩ (.int .i64 ((rd_T48 aa ab).f0))).setCell ⟨ac, 1, none⟩ (.int .i64 ((rd_T48 aa ab).f1))).setCell ⟨ac, 2, none⟩ (.int .i64 ((rd_T48 aa ab).f2))).setCell ⟨ac, 3, none⟩ (.bool ((rd_T48 aa ab).f3))).heap[ac]? = some (.cells #[.int .i64 ((rd_T48 aa ab).f0), .int .i64 ((rd_T48 aa ab).f1), .int .i64 ((rd_T48 aa ab).f2), .bool ((rd_T48 aa ab).f3)] 48 (0, 0))) := ⟨by (with_reducible repeat (first | refine blk_drewN ?_ _ | refine blk_drew ?_ | refine blk_alloc ?_ _)); refine blk_put (cs := #[.int .i64 ((rd_T48 aa ab).f0), .int .i64 ((rd_T48 aa ab).f1), .int .i64 ((rd_T48 aa ab).f2), .bool false]) ?_ 3 _ rfl; (with_reducible repeat (first | refine blk_drewN ?_ _ | refine blk_drew ?_ | refine blk_alloc ?_ _)); refine blk_put (cs := #[.int .i64 ((rd_T48 aa ab).f0), .int .i64 ((rd_T48 aa ab).f1), .int .i64 0, .bool false]) ?_ 2 _ rfl; (with_reducible repeat (first | refine blk_drewN ?_ _ | refine blk_drew ?_ | refine blk_alloc ?_ _)); refine blk_put (cs := #[.int .i64 ((rd_T48 aa ab).f0), .int .i64 0, .int .i64 0, .bool false]) ?_ 1 _ rfl; (with_reducible repeat (first | refine blk_drewN ?_ _ | refine blk_drew ?_ | refine blk_alloc ?_ _)); refine blk_put (cs := #[.int .i64 0, .int .i64 0, .int .i64 0, .bool false]) ?_ 0 _ rfl; (with_reducible repeat (first | refine blk_drewN ?_ _ | refine blk_drew ?_ | refine blk_alloc ?_ _)); exact ad.out⟩; have ao : Aside0 (Below w.heap.size w ((((bb.setCell ⟨ac, 0, none⟩ (.int .i64 ((rd_T48 aa ab).f0))).setCell ⟨ac, 1, none⟩ (.int .i64 ((rd_T48 aa ab).f1))).setCell ⟨ac, 2, none⟩ (.int .i64 ((rd_T48 aa ab).f2))).setCell ⟨ac, 3, none⟩ (.bool ((rd_T48 aa ab).f3)))) := ⟨zS HB.out⟩
           (try clear af)
           (try clear ae)
           (try clear ad)
           (try clear HB)
           generalize ((((bb.setCell ⟨ac, 0, none⟩ (.int .i64 ((rd_T48 aa ab).f0))).setCell ⟨ac, 1, none⟩ (.int .i64 ((rd_T48 aa ab).f1))).setCell ⟨ac, 2, none⟩ (.int .i64 ((rd_T48 aa ab).f2))).setCell ⟨ac, 3, none⟩ (.bool ((rd_T48 aa ab).f3))) = df at al am an ao ⊢; have af := al; have ae := am; have ad := an; have HB := ao; clear al am an ao; replace af := Aside0.mk (Kd.R_drew af.out); replace ae := Aside0.mk (Kd.R_drew ae.out); replace ad := Aside0.mk (blk_drew ad.out); replace HB := Aside0.mk (below_drew1 HB.out); have au : 0 ≤ ((ji11) : Int) := oD; have q262 : (ji11) < (x4_1.length : Int) := oD; obtain ⟨ad262, e262, ai, aj, ak, ah⟩ := at_T48 (Kd.R_reads' af.out).2.2 (ji11) au q262
           (try rw [← Nbq16.out] at ah)
           cases e262
           replace au := eq_true au; replace q262 := eq_true q262; refine start_ (n := 11) (S := fun w' => w'.cell? ⟨ac, 0, none⟩ = some (.int .i64 ((rd_T48 aa ab).f0)) ∧ w'.cell? ⟨ac, 1, none⟩ = some (.int .i64 ((rd_T48 aa ab).f1)) ∧ w'.cell? ⟨ac, 2, none⟩ = some (.int .i64 ((rd_T48 aa ab).f2)) ∧ w'.cell? ⟨ac, 3, none⟩ = some (.bool ((rd_T48 aa ab).f3)) ∧ w'.cell? (ad262.add (((ji11)).toNat * 4)) = some (.int .i64 ((rd_T48 x4_1 (ji11)).f0)) ∧ w'.cell? ⟨(ad262.add (((ji11)).toNat * 4)).block, (ad262.add (((ji11)).toNat * 4)).off + 1, none⟩ = some (.int .i64 ((rd_T48 x4_1 (ji11)).f1)) ∧ w'.cell? ⟨(ad262.add (((ji11)).toNat * 4)).block, (ad262.add (((ji11)).toNat * 4)).off + 2, none⟩ = some (.int .i64 ((rd_T48 x4_1 (ji11)).f2)) ∧ w'.cell? ⟨(ad262.add (((ji11)).toNat * 4)).block, (ad262.add (((ji11)).toNat * 4)).off + 3, none⟩ = some (.bool true)) (ds := []) bl0 (by kernel_rfl) rfl rfl ⟨b1 ad 0, b1 ad 1, b1 ad 2, b1 ad 3, ai, aj, ak, ah⟩ (fun hHeld => ?_); refine with_tabW impl_ordered.tab8 impl_ordered.bits8 (fun HT_ HW_ => ?_); generalize df.drew = dC at af ae ad HB ai aj ak ah hHeld ⊢
           refine pv_ 0 (some 21) bl1 HT_ ?_
           refine pv_ 1 (some 22) bl2 HT_ ?_
           refine pv_ 2 (some 23) bl3 HT_ ?_
           refine pv_ 3 (some 24) bl4 HT_ ?_
           refine pv_ 4 (some 25) bl5 HT_ ?_
           refine pv_ 5 (some 26) bl6 HT_ ?_
           refine tk_ 6 (some 27) bl7 HT_ HW_ hHeld ?_
           refine tk_ 7 (some 28) bl8 HT_ HW_ hHeld ?_
           refine on_ 8 (some 29) bl9 HT_ (fun K hK => ?_); refine goes_ Try.func44 (by kernel_rfl) rfl #[.agg #[.int .i64 ((rd_T48 x4_1 (ji11)).f0), .int .i64 ((rd_T48 x4_1 (ji11)).f1), .int .i64 ((rd_T48 x4_1 (ji11)).f2), .bool true], .agg #[.int .i64 ((rd_T48 aa ab).f0), .int .i64 ((rd_T48 aa ab).f1), .int .i64 ((rd_T48 aa ab).f2), .bool ((rd_T48 aa ab).f3)]] (by rfl) rfl rfl (by (try simp only [m3]); first | done | (simp only [hji11]; rfl) | rfl | (simp only [d2]; rfl)) ?_
           with_reducible refine (impl_compareEdges.calls k1 ((rd_T48 x4_1 (ji11)).f0) ((rd_T48 x4_1 (ji11)).f1) ((rd_T48 x4_1 (ji11)).f2) true ((rd_T48 aa ab).f0) ((rd_T48 aa ab).f1) ((rd_T48 aa ab).f2) ((rd_T48 aa ab).f3) ar _ (by first | with_reducible exact ba.out | (have h_ := ba.out; rw [← Nbq16.out] at h_; exact h_))).mono ?_
           rintro e ax ⟨rfl, hb⟩; have HS4_ := (hb.cell (World.block_lt_of_cell? _ _ (hHeld.2.2.2.2.1))).trans (hHeld.2.2.2.2.1); have HS5_ := (hb.cell (World.block_lt_of_cell? _ _ (hHeld.2.2.2.2.2.1))).trans (hHeld.2.2.2.2.2.1); have HS6_ := (hb.cell (World.block_lt_of_cell? _ _ (hHeld.2.2.2.2.2.2.1))).trans (hHeld.2.2.2.2.2.2.1); have HS7_ := (hb.cell (World.block_lt_of_cell? _ _ (hHeld.2.2.2.2.2.2.2))).trans (hHeld.2.2.2.2.2.2.2); refine ⟨_, rfl, ?_⟩; replace af := xR af hb; replace ae := xR ae hb; replace ad := xB ad hb; replace HB := xS HB hb
           (try clear hb)
           (try clear hb2)
           (try clear hk)
           (try clear hi)
           refine hK.out _ _ ⟨b1 ad 0, b1 ad 1, b1 ad 2, b1 ad 3, HS4_, HS5_, HS6_, HS7_⟩ (fun hHeld => ?_); clear hK K; refine nr_ (some 29) ?_
           refine pv_ 9 (some 30) bl10 HT_ ?_
           refine pv_ 10 (some 31) bl11 HT_ ?_
           refine done_ (done_of HT_.out (by kernel_rfl)) ?_; have aA : 0 ≤ ((ji11) : Int) := oD; have q264 : (ji11) < (x4_1.length : Int) := oD; obtain ⟨ad264, e264, aN, aQ, aR, aw⟩ := at_T48 (Kd.R_reads' af.out).2.2 (ji11) aA q264
           (try rw [← Nbq16.out] at aw)
           obtain rfl : ad262 = ad264 := (by injection e264); replace aA := eq_true aA; replace q264 := eq_true q264; have bs : 0 ≤ ((ji11) : Int) := oD; have q18 : ((ji11) : Int) < ((x4_1.length : Int) : Int) := oD; obtain ⟨go18, dy, bt, bu, gl18, cl18, HG18⟩ := Kd.R_form af.out (by omega)
           (first | cases bt | (injection bt with ea_ en_ ec_; (first | subst ea_ | (injection ea_ with ea_; subst ea_)); subst ec_; clear en_))
           have GB18 := Aside0.mk bu; have GG18 := Aside0.mk HG18; clear bu gl18 HG18
           (first | simp only [add_plain] at ai | skip)
           (first | simp only [add_plain] at aj | skip)
           (first | simp only [add_plain] at ak | skip)
           (first | simp only [add_plain] at ah | skip)
           (first | simp only [add_plain] at aN | skip)
           (first | simp only [add_plain] at aQ | skip)
           (first | simp only [add_plain] at aR | skip)
           (first | simp only [add_plain] at aw | skip)
           obtain ⟨ce18, hcl18, hM18, hcc18, hfr18⟩ := Kd.R_elem af.out z48 ((ji11) : Int) bs q18; obtain rfl := k48_openM hM18; have dg : ax.cell? ⟨go18, ((ji11) : Int).toNat * 4, none⟩ = some (.int .i64 ((rd_T48 x4_1 (ji11)).f0)) := hcc18 0 _ rfl; have dh : ax.cell? ⟨go18, ((ji11) : Int).toNat * 4 + 1, none⟩ = some (.int .i64 ((rd_T48 x4_1 (ji11)).f1)) := hcc18 1 _ rfl; have di : ax.cell? ⟨go18, ((ji11) : Int).toNat * 4 + 2, none⟩ = some (.int .i64 ((rd_T48 x4_1 (ji11)).f2)) := hcc18 2 _ rfl; have dj : ax.cell? ⟨go18, ((ji11) : Int).toNat * 4 + 3, none⟩ = some (.bool ((rd_T48 x4_1 (ji11)).f3)) := hcc18 3 _ rfl; have hf18_0 : ax.frozen? ⟨go18, ((ji11) : Int).toNat * 4, none⟩ = false := hfr18 0; have hf18_1 : ax.frozen? ⟨go18, ((ji11) : Int).toNat * 4 + 1, none⟩ = false := hfr18 1; have hf18_2 : ax.frozen? ⟨go18, ((ji11) : Int).toNat * 4 + 2, none⟩ = false := hfr18 2; have hf18_3 : ax.frozen? ⟨go18, ((ji11) : Int).toNat * 4 + 3, none⟩ = false := hfr18 3; clear hcl18 hcc18 hfr18 hM18; replace bs := eq_true bs; replace q18 := eq_true q18; have HX25 := Aside0.mk (show Kd.R k48 48 ax w.heap.size (fun k_ => some k_ ≠ (.slice (some ad260) aa.length aq : Value).ownBlock ∧ k_ ≠ ac) (.slice (some ⟨go18, 0, none⟩) x4_1.length aM) x4_1 from (zR af.out)); obtain ⟨ce25, hcl25, hM25, hcc25, hfr25⟩ := Kd.R_elem HX25.out z48 ((ji11) : Int) (oD) (by have h_ : ((ji11) : Int) < ((x4_1.length : Int) : Int) := oD; first | exact h_ | (have e_ := (Kd.R_reads' af.out).1; omega) | simpa using h_); obtain rfl := k48_openM hM25; have HP25 := Kd.R_seg HX25.out ((ji11) : Int) (oD) (by have h_ : ((ji11) : Int) < ((x4_1.length : Int) : Int) := oD; first | exact h_ | (have e_ := (Kd.R_reads' af.out).1; omega) | simpa using h_) (seg := [.bool true]) (j := 3) hcl25 hcc25 (show 4 ≤ 4 from by decide) (x' := (⟨(rd_T48 x4_1 (ji11)).f0, (rd_T48 x4_1 (ji11)).f1, (rd_T48 x4_1 (ji11)).f2, true⟩ : S48)) (k48_mkM _ _ _ (⟨(rd_T48 x4_1 (ji11)).f0, (rd_T48 x4_1 (ji11)).f1, (rd_T48 x4_1 (ji11)).f2, true⟩ : S48) ) (fun _ hk => hk); have bv := hcc25 3 _ rfl
           (try simp only [show (k48).sz = 4 from rfl, Nat.mul_one, Nat.add_zero] at bv)
           have hf25_3 := hfr25 3
           (try simp only [show (k48).sz = 4 from rfl, Nat.mul_one, Nat.add_zero] at hf25_3)
           clear hcl25 hcc25 hfr25 hM25
           try go_wp2_with (first | ((with_reducible refine gate_store (t := 4) (p := 44) rfl ?_); refine store_event (t := 4) (p := 44) (v := ?vo_w26) (w1 := (ax.setCell ⟨go18, ((ji11) : Int).toNat * 4 + 3, none⟩ (.bool true))) ?hg ?ho ?hn ?hr ?_; (case ho => rfl); (case hg => rfl); (case hn => rfl); (case hr => first | (go_simp; done) | (go_simp; rfl)); intro bw hw; have hg : ax.grownBy bw (some go18) := (by rw [hw]; exact HP25.2); have hp_ : Kd.R k48 48 bw w.heap.size (fun k_ => some k_ ≠ (.slice (some ad260) aa.length aq : Value).ownBlock ∧ k_ ≠ ac) (.slice (some ⟨go18, 0, none⟩) x4_1.length aM) bf := (by rw [hw, bK.out]; exact HP25.1); clear HP25; replace ae := Aside0.mk (Kd.R_after (v := (.slice (some ⟨go18, 0, none⟩) x4_1.length aM)) (v1 := (.slice (some ⟨go18, 0, none⟩) x4_1.length aM)) (ok := (fun k_ => k_ ≠ ac)) (rM ae (fun _ hk => ⟨hk.2, hk.1⟩)) hg (.inl rfl)); replace ad := Aside0.mk (blk_grown (g := ac) (o := .cells #[.int .i64 ((rd_T48 aa ab).f0), .int .i64 ((rd_T48 aa ab).f1), .int .i64 ((rd_T48 aa ab).f2), .bool ((rd_T48 aa ab).f3)] 48 (0, 0)) (zB ad.out) hg (Kd.R_away af.out (fun _ hk => hk.2))); replace af := Aside0.mk (hp_); replace HB := Aside0.mk ((by rw [hw]; exact below_set (HB.out) GB18.out : Below w.heap.size w bw)); clear hg hw hp_))
           (try simp only [← hl12_1])
           (first | go_roundg k1 | ((try simp only [← hji11]); go_roundg k1))
           case measure => have := HK1.out; omega
           case rel => exact ⟨(bf), (aa), (wrap64 (ab + 1)), vv, (by first | exact H' | (have h_ := H'; (try simp only [← hji11] at h_); (try simp only [← hji11]); exact h_)), ⟨by have := HK1.out; omega⟩, ⟨by (try simp only [hl12_1]); (with_reducible repeat (first | apply Kd.R_alloc | apply Kd.R_drewN | apply Kd.R_drew)); exact Kd.R_mono af.out (fun _ hk => hk.1)⟩, ⟨by (try simp only [hl12_1]); (with_reducible repeat (first | apply Kd.R_alloc | apply Kd.R_drewN | apply Kd.R_drew)); exact Kd.R_mono ae.out (fun _ hk => hk.2)⟩, ⟨zS HB.out⟩⟩
          ·replace bm := Bool.eq_false_iff.mpr bm; subst bm
           have H1 : (impl_ordered.l0 k1 (x4_1.set ((ji11) : Int).toNat (⟨(rd_T48 x4_1 (ji11)).f0, (rd_T48 x4_1 (ji11)).f1, (rd_T48 x4_1 (ji11)).f2, (rd_T48 aa ab).f3⟩ : S48)) aa (ag.length : Int) (wrap64 (ab + 1))) = some r := by rw [if_neg (show ¬ (false = true) by decide)] at H; exact H
           clear H; have H := H1; clear H1; obtain ⟨bg, aE⟩ : ∃ y_ : List (S48), y_ = (x4_1.set ((ji11) : Int).toNat (⟨(rd_T48 x4_1 (ji11)).f0, (rd_T48 x4_1 (ji11)).f1, (rd_T48 x4_1 (ji11)).f2, (rd_T48 aa ab).f3⟩ : S48)) := ⟨_, rfl⟩
           replace H : (impl_ordered.l0 k1 bg aa (ag.length : Int) (wrap64 (ab + 1))) = some r := by first | (rw [aE]; with_reducible exact H) | (have H2_ := (Option.bind_some _ _).symm.trans H; rw [aE]; with_reducible exact H2_) | (have H2_ := (Option.bind_some _ _).symm.trans H; with_reducible exact H2_) | with_reducible exact H | (rw [aE]; exact H) | exact H
           have bL := Aside0.mk aE; clear aE; have H' := Aside0.mk H; clear H; have ap : 0 ≤ (ab : Int) := oD; have q260 : ab < (aa.length : Int) := oD; obtain ⟨ad260, e260, aI, aJ, aK, av⟩ := at_T48 (Kd.R_reads' ae.out).2.2 ab ap q260
           (try rw [← Nbq16.out] at av)
           cases e260
           replace ap := eq_true ap; replace q260 := eq_true q260
           try go_wp2_with (first | ((with_reducible refine gate_dst (N := 6) rfl ?_); refine bx_ 6 #[.int .i64 0, .int .i64 0, .int .i64 0, .bool false] 48 ?_; intro ac hg bc hbox hb; replace af := Aside0.mk (Kd.R_below (Kd.R_elderB (zR af.out) ac (Nat.le_of_eq hg.symm)) hb); replace ae := Aside0.mk (Kd.R_below (Kd.R_elderB (zR ae.out) ac (Nat.le_of_eq hg.symm)) hb); have ad := Aside0.mk (hbox); have aX := xG HB hg; have aY := xG HB hg; replace HB := xS HB hb; clear hb hbox hg; obtain ⟨cf, cg, ch, ci, cj, ck, cl, cm⟩ := cz4 ad; obtain ⟨bx, aT, bU⟩ := Kd.R_slice af.out; subst bU))
           have al : Aside0 (Kd.R k48 48 ((((bc.setCell ⟨ac, 0, none⟩ (.int .i64 ((rd_T48 aa ab).f0))).setCell ⟨ac, 1, none⟩ (.int .i64 ((rd_T48 aa ab).f1))).setCell ⟨ac, 2, none⟩ (.int .i64 ((rd_T48 aa ab).f2))).setCell ⟨ac, 3, none⟩ (.bool ((rd_T48 aa ab).f3))) w.heap.size (fun k_ => some k_ ≠ (.slice (some ad260) aa.length aq : Value).ownBlock ∧ k_ ≠ ac) (.slice bx x4_1.length aT) x4_1) := ⟨by (with_reducible repeat (first | apply Kd.R_alloc | apply Kd.R_drewN | apply Kd.R_drew)); exact Kd.R_mono (Kd.R_far (p := ⟨ac, 3, none⟩) (Kd.R_far (p := ⟨ac, 2, none⟩) (Kd.R_far (p := ⟨ac, 1, none⟩) (Kd.R_far (p := ⟨ac, 0, none⟩) (Kd.R_mono af.out (fun k_ hk => (⟨hk, hk.2⟩ : _ ∧ k_ ≠ ac))) (fun _ hk => hk.2) (.int .i64 ((rd_T48 aa ab).f0))) (fun _ hk => hk.2) (.int .i64 ((rd_T48 aa ab).f1))) (fun _ hk => hk.2) (.int .i64 ((rd_T48 aa ab).f2))) (fun _ hk => hk.2) (.bool ((rd_T48 aa ab).f3))) (fun _ hk => ⟨hk.1.1, hk.1.2⟩)⟩; have am : Aside0 (Kd.R k48 48 ((((bc.setCell ⟨ac, 0, none⟩ (.int .i64 ((rd_T48 aa ab).f0))).setCell ⟨ac, 1, none⟩ (.int .i64 ((rd_T48 aa ab).f1))).setCell ⟨ac, 2, none⟩ (.int .i64 ((rd_T48 aa ab).f2))).setCell ⟨ac, 3, none⟩ (.bool ((rd_T48 aa ab).f3))) w.heap.size (fun k_ => some k_ ≠ (.slice bx x4_1.length aT : Value).ownBlock ∧ k_ ≠ ac) (.slice (some ad260) aa.length aq) aa) := ⟨by (with_reducible repeat (first | apply Kd.R_alloc | apply Kd.R_drewN | apply Kd.R_drew)); exact Kd.R_mono (Kd.R_far (p := ⟨ac, 3, none⟩) (Kd.R_far (p := ⟨ac, 2, none⟩) (Kd.R_far (p := ⟨ac, 1, none⟩) (Kd.R_far (p := ⟨ac, 0, none⟩) (Kd.R_mono ae.out (fun k_ hk => (⟨hk, hk.2⟩ : _ ∧ k_ ≠ ac))) (fun _ hk => hk.2) (.int .i64 ((rd_T48 aa ab).f0))) (fun _ hk => hk.2) (.int .i64 ((rd_T48 aa ab).f1))) (fun _ hk => hk.2) (.int .i64 ((rd_T48 aa ab).f2))) (fun _ hk => hk.2) (.bool ((rd_T48 aa ab).f3))) (fun _ hk => ⟨hk.1.1, hk.1.2⟩)⟩
           have an : Aside0 (((((bc.setCell ⟨ac, 0, none⟩ (.int .i64 ((rd_T48 aa ab).f0))).setCell ⟨ac, 1, none⟩ (.int .i64 ((rd_T48 aa ab).f1))).setCell ⟨ac, 2, none⟩ (.int .i64 ((rd_T48 aa ab).f2))).setCell ⟨ac, 3, none⟩ (.bool ((rd_T48 aa ab).f3))).heap[ac]? = some (.cells #[.int .i64 ((rd_T48 aa ab).f0), .int .i64 ((rd_T48 aa ab).f1), .int .i64 ((rd_T48 aa ab).f2), .bool ((rd_T48 aa ab).f3)] 48 (0, 0))) := ⟨by (with_reducible repeat (first | refine blk_drewN ?_ _ | refine blk_drew ?_ | refine blk_alloc ?_ _)); refine blk_put (cs := #[.int .i64 ((rd_T48 aa ab).f0), .int .i64 ((rd_T48 aa ab).f1), .int .i64 ((rd_T48 aa ab).f2), .bool false]) ?_ 3 _ rfl; (with_reducible repeat (first | refine blk_drewN ?_ _ | refine blk_drew ?_ | refine blk_alloc ?_ _)); refine blk_put (cs := #[.int .i64 ((rd_T48 aa ab).f0), .int .i64 ((rd_T48 aa ab).f1), .int .i64 0, .bool false]) ?_ 2 _ rfl; (with_reducible repeat (first | refine blk_drewN ?_ _ | refine blk_drew ?_ | refine blk_alloc ?_ _)); refine blk_put (cs := #[.int .i64 ((rd_T48 aa ab).f0), .int .i64 0, .int .i64 0, .bool false]) ?_ 1 _ rfl; (with_reducible repeat (first | refine blk_drewN ?_ _ | refine blk_drew ?_ | refine blk_alloc ?_ _)); refine blk_put (cs := #[.int .i64 0, .int .i64 0, .int .i64 0, .bool false]) ?_ 0 _ rfl; (with_reducible repeat (first | refine blk_drewN ?_ _ | refine blk_drew ?_ | refine blk_alloc ?_ _)); exact ad.out⟩; have ao : Aside0 (Below w.heap.size w ((((bc.setCell ⟨ac, 0, none⟩ (.int .i64 ((rd_T48 aa ab).f0))).setCell ⟨ac, 1, none⟩ (.int .i64 ((rd_T48 aa ab).f1))).setCell ⟨ac, 2, none⟩ (.int .i64 ((rd_T48 aa ab).f2))).setCell ⟨ac, 3, none⟩ (.bool ((rd_T48 aa ab).f3)))) := ⟨zS HB.out⟩
           (try clear af)
           (try clear ae)
           (try clear ad)
           (try clear HB)
           generalize ((((bc.setCell ⟨ac, 0, none⟩ (.int .i64 ((rd_T48 aa ab).f0))).setCell ⟨ac, 1, none⟩ (.int .i64 ((rd_T48 aa ab).f1))).setCell ⟨ac, 2, none⟩ (.int .i64 ((rd_T48 aa ab).f2))).setCell ⟨ac, 3, none⟩ (.bool ((rd_T48 aa ab).f3))) = dk at al am an ao ⊢; have af := al; have ae := am; have ad := an; have HB := ao; clear al am an ao; replace af := Aside0.mk (Kd.R_drew af.out); replace ae := Aside0.mk (Kd.R_drew ae.out); replace ad := Aside0.mk (blk_drew ad.out); replace HB := Aside0.mk (below_drew1 HB.out); have au : 0 ≤ ((ji11) : Int) := oD; have q262 : (ji11) < (x4_1.length : Int) := oD; obtain ⟨ad262, e262, ai, aj, ak, ah⟩ := at_T48 (Kd.R_reads' af.out).2.2 (ji11) au q262
           (try rw [← Nbq16.out] at ah)
           cases e262
           replace au := eq_true au; replace q262 := eq_true q262; refine start_ (n := 11) (S := fun w' => w'.cell? ⟨ac, 0, none⟩ = some (.int .i64 ((rd_T48 aa ab).f0)) ∧ w'.cell? ⟨ac, 1, none⟩ = some (.int .i64 ((rd_T48 aa ab).f1)) ∧ w'.cell? ⟨ac, 2, none⟩ = some (.int .i64 ((rd_T48 aa ab).f2)) ∧ w'.cell? ⟨ac, 3, none⟩ = some (.bool ((rd_T48 aa ab).f3)) ∧ w'.cell? (ad262.add (((ji11)).toNat * 4)) = some (.int .i64 ((rd_T48 x4_1 (ji11)).f0)) ∧ w'.cell? ⟨(ad262.add (((ji11)).toNat * 4)).block, (ad262.add (((ji11)).toNat * 4)).off + 1, none⟩ = some (.int .i64 ((rd_T48 x4_1 (ji11)).f1)) ∧ w'.cell? ⟨(ad262.add (((ji11)).toNat * 4)).block, (ad262.add (((ji11)).toNat * 4)).off + 2, none⟩ = some (.int .i64 ((rd_T48 x4_1 (ji11)).f2)) ∧ w'.cell? ⟨(ad262.add (((ji11)).toNat * 4)).block, (ad262.add (((ji11)).toNat * 4)).off + 3, none⟩ = some (.bool false)) (ds := []) bl0 (by kernel_rfl) rfl rfl ⟨b1 ad 0, b1 ad 1, b1 ad 2, b1 ad 3, ai, aj, ak, ah⟩ (fun hHeld => ?_); refine with_tabW impl_ordered.tab8 impl_ordered.bits8 (fun HT_ HW_ => ?_); generalize dk.drew = dD at af ae ad HB ai aj ak ah hHeld ⊢
           refine pv_ 0 (some 21) bl1 HT_ ?_
           refine pv_ 1 (some 22) bl2 HT_ ?_
           refine pv_ 2 (some 23) bl3 HT_ ?_
           refine pv_ 3 (some 24) bl4 HT_ ?_
           refine pv_ 4 (some 25) bl5 HT_ ?_
           refine pv_ 5 (some 26) bl6 HT_ ?_
           refine tk_ 6 (some 27) bl7 HT_ HW_ hHeld ?_
           refine tk_ 7 (some 28) bl8 HT_ HW_ hHeld ?_
           refine on_ 8 (some 29) bl9 HT_ (fun K hK => ?_); refine goes_ Try.func44 (by kernel_rfl) rfl #[.agg #[.int .i64 ((rd_T48 x4_1 (ji11)).f0), .int .i64 ((rd_T48 x4_1 (ji11)).f1), .int .i64 ((rd_T48 x4_1 (ji11)).f2), .bool false], .agg #[.int .i64 ((rd_T48 aa ab).f0), .int .i64 ((rd_T48 aa ab).f1), .int .i64 ((rd_T48 aa ab).f2), .bool ((rd_T48 aa ab).f3)]] (by rfl) rfl rfl (by (try simp only [m3]); first | done | (simp only [hji11]; rfl) | rfl | (simp only [d2]; rfl)) ?_
           with_reducible refine (impl_compareEdges.calls k1 ((rd_T48 x4_1 (ji11)).f0) ((rd_T48 x4_1 (ji11)).f1) ((rd_T48 x4_1 (ji11)).f2) false ((rd_T48 aa ab).f0) ((rd_T48 aa ab).f1) ((rd_T48 aa ab).f2) ((rd_T48 aa ab).f3) ar _ (by first | with_reducible exact ba.out | (have h_ := ba.out; rw [← Nbq16.out] at h_; exact h_))).mono ?_
           rintro e ay ⟨rfl, hb⟩; have HS4_ := (hb.cell (World.block_lt_of_cell? _ _ (hHeld.2.2.2.2.1))).trans (hHeld.2.2.2.2.1); have HS5_ := (hb.cell (World.block_lt_of_cell? _ _ (hHeld.2.2.2.2.2.1))).trans (hHeld.2.2.2.2.2.1); have HS6_ := (hb.cell (World.block_lt_of_cell? _ _ (hHeld.2.2.2.2.2.2.1))).trans (hHeld.2.2.2.2.2.2.1); have HS7_ := (hb.cell (World.block_lt_of_cell? _ _ (hHeld.2.2.2.2.2.2.2))).trans (hHeld.2.2.2.2.2.2.2); refine ⟨_, rfl, ?_⟩; replace af := xR af hb; replace ae := xR ae hb; replace ad := xB ad hb; replace HB := xS HB hb
           (try clear hb)
           (try clear hb2)
           (try clear hk)
           (try clear hi)
           refine hK.out _ _ ⟨b1 ad 0, b1 ad 1, b1 ad 2, b1 ad 3, HS4_, HS5_, HS6_, HS7_⟩ (fun hHeld => ?_); clear hK K; refine nr_ (some 29) ?_
           refine pv_ 9 (some 30) bl10 HT_ ?_
           refine pv_ 10 (some 31) bl11 HT_ ?_
           refine done_ (done_of HT_.out (by kernel_rfl)) ?_; have aA : 0 ≤ ((ji11) : Int) := oD; have q264 : (ji11) < (x4_1.length : Int) := oD; obtain ⟨ad264, e264, aN, aQ, aR, aw⟩ := at_T48 (Kd.R_reads' af.out).2.2 (ji11) aA q264
           (try rw [← Nbq16.out] at aw)
           obtain rfl : ad262 = ad264 := (by injection e264); replace aA := eq_true aA; replace q264 := eq_true q264; obtain ⟨cn, co, cp, cq, cr, ct, cu, cv⟩ := cz4 ad; have bz : 0 ≤ ((ji11) : Int) := oD; have q27 : ((ji11) : Int) < ((x4_1.length : Int) : Int) := oD; obtain ⟨go27, dz, bA, bB, gl27, cl27, HG27⟩ := Kd.R_form af.out (by omega)
           (first | cases bA | (injection bA with ea_ en_ ec_; (first | subst ea_ | (injection ea_ with ea_; subst ea_)); subst ec_; clear en_))
           have GB27 := Aside0.mk bB; have GG27 := Aside0.mk HG27; clear bB gl27 HG27
           (first | simp only [add_plain] at ai | skip)
           (first | simp only [add_plain] at aj | skip)
           (first | simp only [add_plain] at ak | skip)
           (first | simp only [add_plain] at ah | skip)
           (first | simp only [add_plain] at aN | skip)
           (first | simp only [add_plain] at aQ | skip)
           (first | simp only [add_plain] at aR | skip)
           (first | simp only [add_plain] at aw | skip)
           obtain ⟨ce27, hcl27, hM27, hcc27, hfr27⟩ := Kd.R_elem af.out z48 ((ji11) : Int) bz q27; obtain rfl := k48_openM hM27; have dl : ay.cell? ⟨go27, ((ji11) : Int).toNat * 4, none⟩ = some (.int .i64 ((rd_T48 x4_1 (ji11)).f0)) := hcc27 0 _ rfl; have dm : ay.cell? ⟨go27, ((ji11) : Int).toNat * 4 + 1, none⟩ = some (.int .i64 ((rd_T48 x4_1 (ji11)).f1)) := hcc27 1 _ rfl; have dn : ay.cell? ⟨go27, ((ji11) : Int).toNat * 4 + 2, none⟩ = some (.int .i64 ((rd_T48 x4_1 (ji11)).f2)) := hcc27 2 _ rfl; have dp : ay.cell? ⟨go27, ((ji11) : Int).toNat * 4 + 3, none⟩ = some (.bool ((rd_T48 x4_1 (ji11)).f3)) := hcc27 3 _ rfl; have hf27_0 : ay.frozen? ⟨go27, ((ji11) : Int).toNat * 4, none⟩ = false := hfr27 0; have hf27_1 : ay.frozen? ⟨go27, ((ji11) : Int).toNat * 4 + 1, none⟩ = false := hfr27 1; have hf27_2 : ay.frozen? ⟨go27, ((ji11) : Int).toNat * 4 + 2, none⟩ = false := hfr27 2; have hf27_3 : ay.frozen? ⟨go27, ((ji11) : Int).toNat * 4 + 3, none⟩ = false := hfr27 3; clear hcl27 hcc27 hfr27 hM27; replace bz := eq_true bz; replace q27 := eq_true q27; have HX35 := Aside0.mk (show Kd.R k48 48 ay w.heap.size (fun k_ => some k_ ≠ (.slice (some ad260) aa.length aq : Value).ownBlock ∧ k_ ≠ ac) (.slice (some ⟨go27, 0, none⟩) x4_1.length aT) x4_1 from (zR af.out)); obtain ⟨ce35, hcl35, hM35, hcc35, hfr35⟩ := Kd.R_elem HX35.out z48 ((ji11) : Int) (oD) (by have h_ : ((ji11) : Int) < ((x4_1.length : Int) : Int) := oD; first | exact h_ | (have e_ := (Kd.R_reads' af.out).1; omega) | simpa using h_); obtain rfl := k48_openM hM35; have HP35 := Kd.R_seg HX35.out ((ji11) : Int) (oD) (by have h_ : ((ji11) : Int) < ((x4_1.length : Int) : Int) := oD; first | exact h_ | (have e_ := (Kd.R_reads' af.out).1; omega) | simpa using h_) (seg := [.bool ((rd_T48 aa ab).f3)]) (j := 3) hcl35 hcc35 (show 4 ≤ 4 from by decide) (x' := (⟨(rd_T48 x4_1 (ji11)).f0, (rd_T48 x4_1 (ji11)).f1, (rd_T48 x4_1 (ji11)).f2, (rd_T48 aa ab).f3⟩ : S48)) (k48_mkM _ _ _ (⟨(rd_T48 x4_1 (ji11)).f0, (rd_T48 x4_1 (ji11)).f1, (rd_T48 x4_1 (ji11)).f2, (rd_T48 aa ab).f3⟩ : S48) ) (fun _ hk => hk); have bC := hcc35 3 _ rfl
           (try simp only [show (k48).sz = 4 from rfl, Nat.mul_one, Nat.add_zero] at bC)
           have hf35_3 := hfr35 3
           (try simp only [show (k48).sz = 4 from rfl, Nat.mul_one, Nat.add_zero] at hf35_3)
           clear hcl35 hcc35 hfr35 hM35
           try go_wp2_with (first | ((with_reducible refine gate_store (t := 4) (p := 44) rfl ?_); refine store_event (t := 4) (p := 44) (v := ?vo_w36) (w1 := (ay.setCell ⟨go27, ((ji11) : Int).toNat * 4 + 3, none⟩ (.bool ((rd_T48 aa ab).f3)))) ?hg ?ho ?hn ?hr ?_; (case ho => rfl); (case hg => rfl); (case hn => rfl); (case hr => first | (go_simp; done) | (go_simp; rfl)); intro bD hw; have hg : ay.grownBy bD (some go27) := (by rw [hw]; exact HP35.2); have hp_ : Kd.R k48 48 bD w.heap.size (fun k_ => some k_ ≠ (.slice (some ad260) aa.length aq : Value).ownBlock ∧ k_ ≠ ac) (.slice (some ⟨go27, 0, none⟩) x4_1.length aT) bg := (by rw [hw, bL.out]; exact HP35.1); clear HP35; replace ae := Aside0.mk (Kd.R_after (v := (.slice (some ⟨go27, 0, none⟩) x4_1.length aT)) (v1 := (.slice (some ⟨go27, 0, none⟩) x4_1.length aT)) (ok := (fun k_ => k_ ≠ ac)) (rM ae (fun _ hk => ⟨hk.2, hk.1⟩)) hg (.inl rfl)); replace ad := Aside0.mk (blk_grown (g := ac) (o := .cells #[.int .i64 ((rd_T48 aa ab).f0), .int .i64 ((rd_T48 aa ab).f1), .int .i64 ((rd_T48 aa ab).f2), .bool ((rd_T48 aa ab).f3)] 48 (0, 0)) (zB ad.out) hg (Kd.R_away af.out (fun _ hk => hk.2))); replace af := Aside0.mk (hp_); replace HB := Aside0.mk ((by rw [hw]; exact below_set (HB.out) GB27.out : Below w.heap.size w bD)); clear hg hw hp_))
           (try simp only [← hl12_1])
           (first | go_roundg k1 | ((try simp only [← hji11]); go_roundg k1))
           case measure => have := HK1.out; omega
           case rel => exact ⟨(bg), (aa), (wrap64 (ab + 1)), vv, (by first | exact H' | (have h_ := H'; (try simp only [← hji11] at h_); (try simp only [← hji11]); exact h_)), ⟨by have := HK1.out; omega⟩, ⟨by (try simp only [hl12_1]); (with_reducible repeat (first | apply Kd.R_alloc | apply Kd.R_drewN | apply Kd.R_drew)); exact Kd.R_mono af.out (fun _ hk => hk.1)⟩, ⟨by (try simp only [hl12_1]); (with_reducible repeat (first | apply Kd.R_alloc | apply Kd.R_drewN | apply Kd.R_drew)); exact Kd.R_mono ae.out (fun _ hk => hk.2)⟩, ⟨zS HB.out⟩⟩
         ·rw [if_neg aU] at H; have bH : (ar == 0) = false := beq_eq_false_iff_ne.mpr aU; have bJ : (ar != 0) = true := bne_iff_ne.mpr aU
          by_cases bn : x4_1.length < 4398046511104
          ·rw [if_pos bn] at H; have LMc37 := Aside0.mk bn; clear bn; obtain ⟨bE, aG⟩ : ∃ y_ : List (S48), y_ = (x4_1 ++ [(⟨(rd_T48 aa ab).f0, (rd_T48 aa ab).f1, (rd_T48 aa ab).f2, (rd_T48 aa ab).f3⟩ : S48)]) := ⟨_, rfl⟩
           replace H : (impl_ordered.l0 k1 bE aa (ag.length : Int) (wrap64 (ab + 1))) = some r := by first | (rw [aG]; with_reducible exact H) | (have H2_ := (Option.bind_some _ _).symm.trans H; rw [aG]; with_reducible exact H2_) | (have H2_ := (Option.bind_some _ _).symm.trans H; with_reducible exact H2_) | with_reducible exact H | (rw [aG]; exact H) | exact H
           have bM := Aside0.mk aG; clear aG; have H' := Aside0.mk H; clear H; have ap : 0 ≤ (ab : Int) := oD; have q260 : ab < (aa.length : Int) := oD; obtain ⟨ad260, e260, aI, aJ, aK, av⟩ := at_T48 (Kd.R_reads' ae.out).2.2 ab ap q260
           cases e260
           replace ap := eq_true ap; replace q260 := eq_true q260
           try go_wp2_with (first | ((with_reducible refine gate_dst (N := 6) rfl ?_); refine bx_ 6 #[.int .i64 0, .int .i64 0, .int .i64 0, .bool false] 48 ?_; intro ac hg bd hbox hb; replace af := Aside0.mk (Kd.R_below (Kd.R_elderB (zR af.out) ac (Nat.le_of_eq hg.symm)) hb); replace ae := Aside0.mk (Kd.R_below (Kd.R_elderB (zR ae.out) ac (Nat.le_of_eq hg.symm)) hb); have ad := Aside0.mk (hbox); have aX := xG HB hg; have aY := xG HB hg; replace HB := xS HB hb; clear hb hbox hg; obtain ⟨cw, cx, cy, cz, cA, cB, cC, cD⟩ := cz4 ad; obtain ⟨bF, bh, bV⟩ := Kd.R_slice af.out; subst bV))
           have al : Aside0 (Kd.R k48 48 ((((bd.setCell ⟨ac, 0, none⟩ (.int .i64 ((rd_T48 aa ab).f0))).setCell ⟨ac, 1, none⟩ (.int .i64 ((rd_T48 aa ab).f1))).setCell ⟨ac, 2, none⟩ (.int .i64 ((rd_T48 aa ab).f2))).setCell ⟨ac, 3, none⟩ (.bool ((rd_T48 aa ab).f3))) w.heap.size (fun k_ => some k_ ≠ (.slice (some ad260) aa.length aq : Value).ownBlock ∧ k_ ≠ ac) (.slice bF x4_1.length bh) x4_1) := ⟨by (with_reducible repeat (first | apply Kd.R_alloc | apply Kd.R_drewN | apply Kd.R_drew)); exact Kd.R_mono (Kd.R_far (p := ⟨ac, 3, none⟩) (Kd.R_far (p := ⟨ac, 2, none⟩) (Kd.R_far (p := ⟨ac, 1, none⟩) (Kd.R_far (p := ⟨ac, 0, none⟩) (Kd.R_mono af.out (fun k_ hk => (⟨hk, hk.2⟩ : _ ∧ k_ ≠ ac))) (fun _ hk => hk.2) (.int .i64 ((rd_T48 aa ab).f0))) (fun _ hk => hk.2) (.int .i64 ((rd_T48 aa ab).f1))) (fun _ hk => hk.2) (.int .i64 ((rd_T48 aa ab).f2))) (fun _ hk => hk.2) (.bool ((rd_T48 aa ab).f3))) (fun _ hk => ⟨hk.1.1, hk.1.2⟩)⟩; have am : Aside0 (Kd.R k48 48 ((((bd.setCell ⟨ac, 0, none⟩ (.int .i64 ((rd_T48 aa ab).f0))).setCell ⟨ac, 1, none⟩ (.int .i64 ((rd_T48 aa ab).f1))).setCell ⟨ac, 2, none⟩ (.int .i64 ((rd_T48 aa ab).f2))).setCell ⟨ac, 3, none⟩ (.bool ((rd_T48 aa ab).f3))) w.heap.size (fun k_ => some k_ ≠ (.slice bF x4_1.length bh : Value).ownBlock ∧ k_ ≠ ac) (.slice (some ad260) aa.length aq) aa) := ⟨by (with_reducible repeat (first | apply Kd.R_alloc | apply Kd.R_drewN | apply Kd.R_drew)); exact Kd.R_mono (Kd.R_far (p := ⟨ac, 3, none⟩) (Kd.R_far (p := ⟨ac, 2, none⟩) (Kd.R_far (p := ⟨ac, 1, none⟩) (Kd.R_far (p := ⟨ac, 0, none⟩) (Kd.R_mono ae.out (fun k_ hk => (⟨hk, hk.2⟩ : _ ∧ k_ ≠ ac))) (fun _ hk => hk.2) (.int .i64 ((rd_T48 aa ab).f0))) (fun _ hk => hk.2) (.int .i64 ((rd_T48 aa ab).f1))) (fun _ hk => hk.2) (.int .i64 ((rd_T48 aa ab).f2))) (fun _ hk => hk.2) (.bool ((rd_T48 aa ab).f3))) (fun _ hk => ⟨hk.1.1, hk.1.2⟩)⟩
           have an : Aside0 (((((bd.setCell ⟨ac, 0, none⟩ (.int .i64 ((rd_T48 aa ab).f0))).setCell ⟨ac, 1, none⟩ (.int .i64 ((rd_T48 aa ab).f1))).setCell ⟨ac, 2, none⟩ (.int .i64 ((rd_T48 aa ab).f2))).setCell ⟨ac, 3, none⟩ (.bool ((rd_T48 aa ab).f3))).heap[ac]? = some (.cells #[.int .i64 ((rd_T48 aa ab).f0), .int .i64 ((rd_T48 aa ab).f1), .int .i64 ((rd_T48 aa ab).f2), .bool ((rd_T48 aa ab).f3)] 48 (0, 0))) := ⟨by (with_reducible repeat (first | refine blk_drewN ?_ _ | refine blk_drew ?_ | refine blk_alloc ?_ _)); refine blk_put (cs := #[.int .i64 ((rd_T48 aa ab).f0), .int .i64 ((rd_T48 aa ab).f1), .int .i64 ((rd_T48 aa ab).f2), .bool false]) ?_ 3 _ rfl; (with_reducible repeat (first | refine blk_drewN ?_ _ | refine blk_drew ?_ | refine blk_alloc ?_ _)); refine blk_put (cs := #[.int .i64 ((rd_T48 aa ab).f0), .int .i64 ((rd_T48 aa ab).f1), .int .i64 0, .bool false]) ?_ 2 _ rfl; (with_reducible repeat (first | refine blk_drewN ?_ _ | refine blk_drew ?_ | refine blk_alloc ?_ _)); refine blk_put (cs := #[.int .i64 ((rd_T48 aa ab).f0), .int .i64 0, .int .i64 0, .bool false]) ?_ 1 _ rfl; (with_reducible repeat (first | refine blk_drewN ?_ _ | refine blk_drew ?_ | refine blk_alloc ?_ _)); refine blk_put (cs := #[.int .i64 0, .int .i64 0, .int .i64 0, .bool false]) ?_ 0 _ rfl; (with_reducible repeat (first | refine blk_drewN ?_ _ | refine blk_drew ?_ | refine blk_alloc ?_ _)); exact ad.out⟩; have ao : Aside0 (Below w.heap.size w ((((bd.setCell ⟨ac, 0, none⟩ (.int .i64 ((rd_T48 aa ab).f0))).setCell ⟨ac, 1, none⟩ (.int .i64 ((rd_T48 aa ab).f1))).setCell ⟨ac, 2, none⟩ (.int .i64 ((rd_T48 aa ab).f2))).setCell ⟨ac, 3, none⟩ (.bool ((rd_T48 aa ab).f3)))) := ⟨zS HB.out⟩
           (try clear af)
           (try clear ae)
           (try clear ad)
           (try clear HB)
           generalize ((((bd.setCell ⟨ac, 0, none⟩ (.int .i64 ((rd_T48 aa ab).f0))).setCell ⟨ac, 1, none⟩ (.int .i64 ((rd_T48 aa ab).f1))).setCell ⟨ac, 2, none⟩ (.int .i64 ((rd_T48 aa ab).f2))).setCell ⟨ac, 3, none⟩ (.bool ((rd_T48 aa ab).f3))) = dq at al am an ao ⊢; have af := al; have ae := am; have ad := an; have HB := ao; clear al am an ao; replace af := Aside0.mk (Kd.R_drew af.out); replace ae := Aside0.mk (Kd.R_drew ae.out); replace ad := Aside0.mk (blk_drew ad.out); replace HB := Aside0.mk (below_drew1 HB.out); have au : 0 ≤ ((ji11) : Int) := oD; have q262 : (ji11) < (x4_1.length : Int) := oD; obtain ⟨ad262, e262, ai, aj, ak, ah⟩ := at_T48 (Kd.R_reads' af.out).2.2 (ji11) au q262
           cases e262
           replace au := eq_true au; replace q262 := eq_true q262; refine start_ (n := 11) (S := fun w' => w'.cell? ⟨ac, 0, none⟩ = some (.int .i64 ((rd_T48 aa ab).f0)) ∧ w'.cell? ⟨ac, 1, none⟩ = some (.int .i64 ((rd_T48 aa ab).f1)) ∧ w'.cell? ⟨ac, 2, none⟩ = some (.int .i64 ((rd_T48 aa ab).f2)) ∧ w'.cell? ⟨ac, 3, none⟩ = some (.bool ((rd_T48 aa ab).f3)) ∧ w'.cell? (ad262.add (((ji11)).toNat * 4)) = some (.int .i64 ((rd_T48 x4_1 (ji11)).f0)) ∧ w'.cell? ⟨(ad262.add (((ji11)).toNat * 4)).block, (ad262.add (((ji11)).toNat * 4)).off + 1, none⟩ = some (.int .i64 ((rd_T48 x4_1 (ji11)).f1)) ∧ w'.cell? ⟨(ad262.add (((ji11)).toNat * 4)).block, (ad262.add (((ji11)).toNat * 4)).off + 2, none⟩ = some (.int .i64 ((rd_T48 x4_1 (ji11)).f2)) ∧ w'.cell? ⟨(ad262.add (((ji11)).toNat * 4)).block, (ad262.add (((ji11)).toNat * 4)).off + 3, none⟩ = some (.bool ((rd_T48 x4_1 (ji11)).f3))) (ds := []) bl0 (by kernel_rfl) rfl rfl ⟨b1 ad 0, b1 ad 1, b1 ad 2, b1 ad 3, ai, aj, ak, ah⟩ (fun hHeld => ?_); refine with_tabW impl_ordered.tab8 impl_ordered.bits8 (fun HT_ HW_ => ?_); generalize dq.drew = dE at af ae ad HB ai aj ak ah hHeld ⊢
           refine pv_ 0 (some 21) bl1 HT_ ?_
           refine pv_ 1 (some 22) bl2 HT_ ?_
           refine pv_ 2 (some 23) bl3 HT_ ?_
           refine pv_ 3 (some 24) bl4 HT_ ?_
           refine pv_ 4 (some 25) bl5 HT_ ?_
           refine pv_ 5 (some 26) bl6 HT_ ?_
           refine tk_ 6 (some 27) bl7 HT_ HW_ hHeld ?_
           refine tk_ 7 (some 28) bl8 HT_ HW_ hHeld ?_
           refine on_ 8 (some 29) bl9 HT_ (fun K hK => ?_); refine goes_ Try.func44 (by kernel_rfl) rfl #[.agg #[.int .i64 ((rd_T48 x4_1 (ji11)).f0), .int .i64 ((rd_T48 x4_1 (ji11)).f1), .int .i64 ((rd_T48 x4_1 (ji11)).f2), .bool ((rd_T48 x4_1 (ji11)).f3)], .agg #[.int .i64 ((rd_T48 aa ab).f0), .int .i64 ((rd_T48 aa ab).f1), .int .i64 ((rd_T48 aa ab).f2), .bool ((rd_T48 aa ab).f3)]] (by rfl) rfl rfl (by (try simp only [m3]); first | done | (simp only [hji11]; rfl) | rfl | (simp only [d2]; rfl)) ?_
           with_reducible refine (impl_compareEdges.calls k1 ((rd_T48 x4_1 (ji11)).f0) ((rd_T48 x4_1 (ji11)).f1) ((rd_T48 x4_1 (ji11)).f2) ((rd_T48 x4_1 (ji11)).f3) ((rd_T48 aa ab).f0) ((rd_T48 aa ab).f1) ((rd_T48 aa ab).f2) ((rd_T48 aa ab).f3) ar _ ba.out).mono ?_
           rintro e dF ⟨rfl, hb⟩; have HS4_ := (hb.cell (World.block_lt_of_cell? _ _ (hHeld.2.2.2.2.1))).trans (hHeld.2.2.2.2.1); have HS5_ := (hb.cell (World.block_lt_of_cell? _ _ (hHeld.2.2.2.2.2.1))).trans (hHeld.2.2.2.2.2.1); have HS6_ := (hb.cell (World.block_lt_of_cell? _ _ (hHeld.2.2.2.2.2.2.1))).trans (hHeld.2.2.2.2.2.2.1); have HS7_ := (hb.cell (World.block_lt_of_cell? _ _ (hHeld.2.2.2.2.2.2.2))).trans (hHeld.2.2.2.2.2.2.2); refine ⟨_, rfl, ?_⟩; replace af := xR af hb; replace ae := xR ae hb; replace ad := xB ad hb; replace HB := xS HB hb
           (try clear hb)
           (try clear hb2)
           (try clear hk)
           (try clear hi)
           refine hK.out _ _ ⟨b1 ad 0, b1 ad 1, b1 ad 2, b1 ad 3, HS4_, HS5_, HS6_, HS7_⟩ (fun hHeld => ?_); clear hK K; refine nr_ (some 29) ?_
           refine pv_ 9 (some 30) bl10 HT_ ?_
           refine pv_ 10 (some 31) bl11 HT_ ?_
           refine done_ (done_of HT_.out (by kernel_rfl)) ?_; obtain ⟨cE, cF, cG, cH, cI, cJ, cK, cL⟩ := cz4 ad
           try go_wp2_with (first | ((with_reducible refine gate_builtin (b := .append) (xs := #[.tmp 45, .tmp 47]) rfl ?_); at_builtin; refine Kd.R_append k48 (w0 := w) w.heap.size rfl (.tmp 45) (.tmp 47) 26 48 (.agg #[(.int .i64 0), (.int .i64 0), (.int .i64 0), (.bool false)]) 32 rfl Try.underlying26 info48 rfl (by decide) (by omega) (.slice (some ad262) x4_1.length bh) x4_1 (⟨(rd_T48 aa ab).f0, (rd_T48 aa ab).f1, (rd_T48 aa ab).f2, (rd_T48 aa ab).f3⟩ : S48) [.int .i64 ((rd_T48 aa ab).f0), .int .i64 ((rd_T48 aa ab).f1), .int .i64 ((rd_T48 aa ab).f2), .bool ((rd_T48 aa ab).f3)] (fun k_ => some k_ ≠ (.slice (some ad260) aa.length aq : Value).ownBlock ∧ k_ ≠ ac) (fun _ => False) rfl rfl ?aP (fun _ hk => hk.elim) ?aF ?aO ?aB ?aS ?aL ?_; (case aP => exact k48_mkM _ _ _ (⟨(rd_T48 aa ab).f0, (rd_T48 aa ab).f1, (rd_T48 aa ab).f2, (rd_T48 aa ab).f3⟩ : S48)); (case aB => exact (zS HB.out)); (case aF => exact (fun k_ hk => ⟨Kd.fresh' (Kd.R_lt (zR ae.out)) k_ hk, Kd.freshB (g := ac) (o := .cells #[.int .i64 ((rd_T48 aa ab).f0), .int .i64 ((rd_T48 aa ab).f1), .int .i64 ((rd_T48 aa ab).f2), .bool ((rd_T48 aa ab).f3)] 48 (0, 0)) (zB ad.out) k_ hk⟩)); (case aO => exact (zR af.out)); (case aS => exact (below_size (zS HB.out))); (case aL => have := LMc37.out; omega); intro dA dG ho hb hg hat; rw [← bM.out] at ho; have al := Aside0.mk (Kd.R_after (ok := (fun k_ => k_ ≠ ac)) (rM ae (fun _ hk => ⟨hk.2, hk.1⟩)) hg hat); have am := Aside0.mk (blk_grown (g := ac) (o := .cells #[.int .i64 ((rd_T48 aa ab).f0), .int .i64 ((rd_T48 aa ab).f1), .int .i64 ((rd_T48 aa ab).f2), .bool ((rd_T48 aa ab).f3)] 48 (0, 0)) (zB ad.out) hg (Kd.R_away af.out (fun _ hk => hk.2))); have an := Aside0.mk (hb); have ao := Aside0.mk (ho); clear ae; clear ad; clear HB; clear af; have ae := al; have ad := am; have HB := an; have bN := ao; clear al am an ao; clear ho hb hg hat))
           (try simp only [← hl12_1])
           (first | go_roundg k1 | ((try simp only [← hji11]); go_roundg k1))
           case measure => have := HK1.out; omega
           case rel => exact ⟨(bE), (aa), (wrap64 (ab + 1)), vv, (by first | exact H' | (have h_ := H'; (try simp only [← hji11] at h_); (try simp only [← hji11]); exact h_)), ⟨by have := HK1.out; omega⟩, ⟨by (try simp only [hl12_1]); (with_reducible repeat (first | apply Kd.R_alloc | apply Kd.R_drewN | apply Kd.R_drew)); exact Kd.R_mono bN.out (fun _ hk => hk.1)⟩, ⟨by (try simp only [hl12_1]); (with_reducible repeat (first | apply Kd.R_alloc | apply Kd.R_drewN | apply Kd.R_drew)); exact Kd.R_mono ae.out (fun _ hk => hk.2)⟩, ⟨zS HB.out⟩⟩
          ·rw [if_neg bn] at H; exact absurd H (by simp)
        ·rw [if_neg bl] at H; exact absurd H (by simp)
       ·rw [if_neg bk] at H; exact absurd H (by simp)
      ·rw [if_neg aV] at H; have aW : decide (0 ≤ (wrap64 ((x4_1.length : Int) - 1))) = false := decide_eq_false aV
       (try simp only [hl12_1] at aW)
       clear aV
       by_cases bo : x4_1.length < 4398046511104
       ·rw [if_pos bo] at H; have LMc46 := Aside0.mk bo; clear bo; obtain ⟨bG, aH⟩ : ∃ y_ : List (S48), y_ = (x4_1 ++ [(⟨(rd_T48 aa ab).f0, (rd_T48 aa ab).f1, (rd_T48 aa ab).f2, (rd_T48 aa ab).f3⟩ : S48)]) := ⟨_, rfl⟩
        replace H : (impl_ordered.l0 k1 bG aa (ag.length : Int) (wrap64 (ab + 1))) = some r := by first | (rw [aH]; with_reducible exact H) | (have H2_ := (Option.bind_some _ _).symm.trans H; rw [aH]; with_reducible exact H2_) | (have H2_ := (Option.bind_some _ _).symm.trans H; with_reducible exact H2_) | with_reducible exact H | (rw [aH]; exact H) | exact H
        have bO := Aside0.mk aH; clear aH; have H' := Aside0.mk H; clear H; have ap : 0 ≤ (ab : Int) := oD; have q260 : ab < (aa.length : Int) := oD; obtain ⟨ad260, e260, aI, aJ, aK, av⟩ := at_T48 (Kd.R_reads' ae.out).2.2 ab ap q260
        cases e260
        replace ap := eq_true ap; replace q260 := eq_true q260
        try go_wp2_with (first | ((with_reducible refine gate_dst (N := 6) rfl ?_); refine bx_ 6 #[.int .i64 0, .int .i64 0, .int .i64 0, .bool false] 48 ?_; intro ac hg be hbox hb; replace af := Aside0.mk (Kd.R_below (Kd.R_elderB (zR af.out) ac (Nat.le_of_eq hg.symm)) hb); replace ae := Aside0.mk (Kd.R_below (Kd.R_elderB (zR ae.out) ac (Nat.le_of_eq hg.symm)) hb); have ad := Aside0.mk (hbox); have aX := xG HB hg; have aY := xG HB hg; replace HB := xS HB hb; clear hb hbox hg; obtain ⟨cM, cN, cO, cP, cQ, cR, cS, cU⟩ := cz4 ad; obtain ⟨bi, bj, bW⟩ := Kd.R_slice af.out; subst bW))
        have al : Aside0 (Kd.R k48 48 ((((be.setCell ⟨ac, 0, none⟩ (.int .i64 ((rd_T48 aa ab).f0))).setCell ⟨ac, 1, none⟩ (.int .i64 ((rd_T48 aa ab).f1))).setCell ⟨ac, 2, none⟩ (.int .i64 ((rd_T48 aa ab).f2))).setCell ⟨ac, 3, none⟩ (.bool ((rd_T48 aa ab).f3))) w.heap.size (fun k_ => some k_ ≠ (.slice (some ad260) aa.length aq : Value).ownBlock ∧ k_ ≠ ac) (.slice bi x4_1.length bj) x4_1) := ⟨by (with_reducible repeat (first | apply Kd.R_alloc | apply Kd.R_drewN | apply Kd.R_drew)); exact Kd.R_mono (Kd.R_far (p := ⟨ac, 3, none⟩) (Kd.R_far (p := ⟨ac, 2, none⟩) (Kd.R_far (p := ⟨ac, 1, none⟩) (Kd.R_far (p := ⟨ac, 0, none⟩) (Kd.R_mono af.out (fun k_ hk => (⟨hk, hk.2⟩ : _ ∧ k_ ≠ ac))) (fun _ hk => hk.2) (.int .i64 ((rd_T48 aa ab).f0))) (fun _ hk => hk.2) (.int .i64 ((rd_T48 aa ab).f1))) (fun _ hk => hk.2) (.int .i64 ((rd_T48 aa ab).f2))) (fun _ hk => hk.2) (.bool ((rd_T48 aa ab).f3))) (fun _ hk => ⟨hk.1.1, hk.1.2⟩)⟩; have am : Aside0 (Kd.R k48 48 ((((be.setCell ⟨ac, 0, none⟩ (.int .i64 ((rd_T48 aa ab).f0))).setCell ⟨ac, 1, none⟩ (.int .i64 ((rd_T48 aa ab).f1))).setCell ⟨ac, 2, none⟩ (.int .i64 ((rd_T48 aa ab).f2))).setCell ⟨ac, 3, none⟩ (.bool ((rd_T48 aa ab).f3))) w.heap.size (fun k_ => some k_ ≠ (.slice bi x4_1.length bj : Value).ownBlock ∧ k_ ≠ ac) (.slice (some ad260) aa.length aq) aa) := ⟨by (with_reducible repeat (first | apply Kd.R_alloc | apply Kd.R_drewN | apply Kd.R_drew)); exact Kd.R_mono (Kd.R_far (p := ⟨ac, 3, none⟩) (Kd.R_far (p := ⟨ac, 2, none⟩) (Kd.R_far (p := ⟨ac, 1, none⟩) (Kd.R_far (p := ⟨ac, 0, none⟩) (Kd.R_mono ae.out (fun k_ hk => (⟨hk, hk.2⟩ : _ ∧ k_ ≠ ac))) (fun _ hk => hk.2) (.int .i64 ((rd_T48 aa ab).f0))) (fun _ hk => hk.2) (.int .i64 ((rd_T48 aa ab).f1))) (fun _ hk => hk.2) (.int .i64 ((rd_T48 aa ab).f2))) (fun _ hk => hk.2) (.bool ((rd_T48 aa ab).f3))) (fun _ hk => ⟨hk.1.1, hk.1.2⟩)⟩
        have an : Aside0 (((((be.setCell ⟨ac, 0, none⟩ (.int .i64 ((rd_T48 aa ab).f0))).setCell ⟨ac, 1, none⟩ (.int .i64 ((rd_T48 aa ab).f1))).setCell ⟨ac, 2, none⟩ (.int .i64 ((rd_T48 aa ab).f2))).setCell ⟨ac, 3, none⟩ (.bool ((rd_T48 aa ab).f3))).heap[ac]? = some (.cells #[.int .i64 ((rd_T48 aa ab).f0), .int .i64 ((rd_T48 aa ab).f1), .int .i64 ((rd_T48 aa ab).f2), .bool ((rd_T48 aa ab).f3)] 48 (0, 0))) := ⟨by (with_reducible repeat (first | refine blk_drewN ?_ _ | refine blk_drew ?_ | refine blk_alloc ?_ _)); refine blk_put (cs := #[.int .i64 ((rd_T48 aa ab).f0), .int .i64 ((rd_T48 aa ab).f1), .int .i64 ((rd_T48 aa ab).f2), .bool false]) ?_ 3 _ rfl; (with_reducible repeat (first | refine blk_drewN ?_ _ | refine blk_drew ?_ | refine blk_alloc ?_ _)); refine blk_put (cs := #[.int .i64 ((rd_T48 aa ab).f0), .int .i64 ((rd_T48 aa ab).f1), .int .i64 0, .bool false]) ?_ 2 _ rfl; (with_reducible repeat (first | refine blk_drewN ?_ _ | refine blk_drew ?_ | refine blk_alloc ?_ _)); refine blk_put (cs := #[.int .i64 ((rd_T48 aa ab).f0), .int .i64 0, .int .i64 0, .bool false]) ?_ 1 _ rfl; (with_reducible repeat (first | refine blk_drewN ?_ _ | refine blk_drew ?_ | refine blk_alloc ?_ _)); refine blk_put (cs := #[.int .i64 0, .int .i64 0, .int .i64 0, .bool false]) ?_ 0 _ rfl; (with_reducible repeat (first | refine blk_drewN ?_ _ | refine blk_drew ?_ | refine blk_alloc ?_ _)); exact ad.out⟩; have ao : Aside0 (Below w.heap.size w ((((be.setCell ⟨ac, 0, none⟩ (.int .i64 ((rd_T48 aa ab).f0))).setCell ⟨ac, 1, none⟩ (.int .i64 ((rd_T48 aa ab).f1))).setCell ⟨ac, 2, none⟩ (.int .i64 ((rd_T48 aa ab).f2))).setCell ⟨ac, 3, none⟩ (.bool ((rd_T48 aa ab).f3)))) := ⟨zS HB.out⟩
        (try clear af)
        (try clear ae)
        (try clear ad)
        (try clear HB)
        generalize ((((be.setCell ⟨ac, 0, none⟩ (.int .i64 ((rd_T48 aa ab).f0))).setCell ⟨ac, 1, none⟩ (.int .i64 ((rd_T48 aa ab).f1))).setCell ⟨ac, 2, none⟩ (.int .i64 ((rd_T48 aa ab).f2))).setCell ⟨ac, 3, none⟩ (.bool ((rd_T48 aa ab).f3))) = dr at al am an ao ⊢; have af := al; have ae := am; have ad := an; have HB := ao; clear al am an ao; replace af := Aside0.mk (Kd.R_drew af.out); replace ae := Aside0.mk (Kd.R_drew ae.out); replace ad := Aside0.mk (blk_drew ad.out); replace HB := Aside0.mk (below_drew1 HB.out); refine start_ (n := 11) (S := fun w' => True) (ds := []) bl0 (by kernel_rfl) rfl rfl trivial (fun hHeld => ?_); refine with_tabW impl_ordered.tab8 impl_ordered.bits8 (fun HT_ HW_ => ?_); generalize dr.drew = dH at af ae ad HB hHeld ⊢
        refine pv_ 0 (some 21) bl1 HT_ ?_
        refine pv_ 1 (some 22) bl2 HT_ ?_
        refine pv_ 2 (some 23) bl3 HT_ ?_
        refine pn_ 3 (some 24) bl4 HT_ ?_
        refine pn_ 4 (some 25) bl5 HT_ ?_
        refine pn_ 5 (some 26) bl6 HT_ ?_
        refine pn_ 6 (some 27) bl7 HT_ ?_
        refine pn_ 7 (some 28) bl8 HT_ ?_
        refine pn_ 8 (some 29) bl9 HT_ ?_
        refine pn_ 9 (some 30) bl10 HT_ ?_
        refine pv_ 10 (some 31) bl11 HT_ ?_
        refine done_ (done_of HT_.out (by kernel_rfl)) ?_; obtain ⟨cV, cW, cX, cY, cZ, da, db, dc⟩ := cz4 ad
        try go_wp2_with (first | ((with_reducible refine gate_builtin (b := .append) (xs := #[.tmp 45, .tmp 47]) rfl ?_); at_builtin; refine Kd.R_append k48 (w0 := w) w.heap.size rfl (.tmp 45) (.tmp 47) 26 48 (.agg #[(.int .i64 0), (.int .i64 0), (.int .i64 0), (.bool false)]) 32 rfl Try.underlying26 info48 rfl (by decide) (by omega) (.slice bi x4_1.length bj) x4_1 (⟨(rd_T48 aa ab).f0, (rd_T48 aa ab).f1, (rd_T48 aa ab).f2, (rd_T48 aa ab).f3⟩ : S48) [.int .i64 ((rd_T48 aa ab).f0), .int .i64 ((rd_T48 aa ab).f1), .int .i64 ((rd_T48 aa ab).f2), .bool ((rd_T48 aa ab).f3)] (fun k_ => some k_ ≠ (.slice (some ad260) aa.length aq : Value).ownBlock ∧ k_ ≠ ac) (fun _ => False) rfl rfl ?aP (fun _ hk => hk.elim) ?aF ?aO ?aB ?aS ?aL ?_; (case aP => exact k48_mkM _ _ _ (⟨(rd_T48 aa ab).f0, (rd_T48 aa ab).f1, (rd_T48 aa ab).f2, (rd_T48 aa ab).f3⟩ : S48)); (case aB => exact (zS HB.out)); (case aF => exact (fun k_ hk => ⟨Kd.fresh' (Kd.R_lt (zR ae.out)) k_ hk, Kd.freshB (g := ac) (o := .cells #[.int .i64 ((rd_T48 aa ab).f0), .int .i64 ((rd_T48 aa ab).f1), .int .i64 ((rd_T48 aa ab).f2), .bool ((rd_T48 aa ab).f3)] 48 (0, 0)) (zB ad.out) k_ hk⟩)); (case aO => exact (zR af.out)); (case aS => exact (below_size (zS HB.out))); (case aL => have := LMc46.out; omega); intro dB dI ho hb hg hat; rw [← bO.out] at ho; have al := Aside0.mk (Kd.R_after (ok := (fun k_ => k_ ≠ ac)) (rM ae (fun _ hk => ⟨hk.2, hk.1⟩)) hg hat); have am := Aside0.mk (blk_grown (g := ac) (o := .cells #[.int .i64 ((rd_T48 aa ab).f0), .int .i64 ((rd_T48 aa ab).f1), .int .i64 ((rd_T48 aa ab).f2), .bool ((rd_T48 aa ab).f3)] 48 (0, 0)) (zB ad.out) hg (Kd.R_away af.out (fun _ hk => hk.2))); have an := Aside0.mk (hb); have ao := Aside0.mk (ho); clear ae; clear ad; clear HB; clear af; have ae := al; have ad := am; have HB := an; have bP := ao; clear al am an ao; clear ho hb hg hat))
        (try simp only [← hl12_1])
        go_roundg k1
        case measure => have := HK1.out; omega
        case rel => exact ⟨(bG), (aa), (wrap64 (ab + 1)), vv, H', ⟨by have := HK1.out; omega⟩, ⟨by (try simp only [hl12_1]); (with_reducible repeat (first | apply Kd.R_alloc | apply Kd.R_drewN | apply Kd.R_drew)); exact Kd.R_mono bP.out (fun _ hk => hk.1)⟩, ⟨by (try simp only [hl12_1]); (with_reducible repeat (first | apply Kd.R_alloc | apply Kd.R_drewN | apply Kd.R_drew)); exact Kd.R_mono ae.out (fun _ hk => hk.2)⟩, ⟨zS HB.out⟩⟩
       ·rw [if_neg bo] at H; exact absurd H (by simp)
     ·rw [if_neg c9] at H; exact absurd H (by simp)
    ·rw [if_neg c8] at H; exact absurd H (by simp)
   ·rw [if_neg c7] at H; have bp : decide (ab < (ag.length : Int)) = false := decide_eq_false c7
    (try simp only [hl12_1] at bp)
    clear c7; obtain rfl := Option.some.inj H
    go_wp2
    go_ret; exact ⟨_, vw, rM af (fun _ hk => trivial), zS HB.out⟩

end Go.Proofs.Ytnflbjdmbaaokaa.MFnExactGenDegen
