-- Written by a program of this session, out of Lean's print of the translation. Not trusted: Lean checks it.
import Derived.Test.YtlallflpicgcmaaMFnExactAutoTrimx0
import Derived.Test.YtlallflpicgcmaaMFnExactAutoTrimx5
import Derived.Test.YtlallflpicgcmaaMFnExactAutoTrimx6
namespace Go.Proofs.Ytlallflpicgcmaa.MFnExactAutoTrim
open Go.RowKit Go.Proofs.YtlallflpicgcmaaW.PrintWords Go.Proofs.YtlallflpicgcmaaW.PrintLast Go.Proofs.YtlallflpicgcmaaW.PrintMore Go.Proofs.Ytlallflpicgcmaa.Short4
attribute [local go_sem] max2_int min2_int max_two min_two max_three min_three max_four min_four   -- for this text's walks alone
set_option linter.unusedVariables false
set_option linter.unusedSimpArgs false

section
open Go.Proofs.Ytlallflpicgcmaa.Short2.T
abbrev spec_AutoTrim.bl0 : Array Bool := #[f, f, f, f, f, f, f, f, f, f, f, f]
abbrev spec_AutoTrim.bl1 : Array Bool := #[f, f, t, f, f, f, f, f, f, f, f, f]
abbrev spec_AutoTrim.bl2 : Array Bool := #[t, f, t, f, f, f, f, f, f, f, f, f]
abbrev spec_AutoTrim.bl3 : Array Bool := #[t, t, t, f, f, f, f, f, f, f, f, f]
abbrev spec_AutoTrim.bl4 : Array Bool := #[t, t, t, t, f, f, f, f, f, f, f, f]
abbrev spec_AutoTrim.bl5 : Array Bool := #[t, t, t, t, t, t, t, t, t, t, f, f]
abbrev spec_AutoTrim.bl6 : Array Bool := #[t, t, t, t, t, f, f, f, f, f, f, f]
abbrev spec_AutoTrim.bl7 : Array Bool := #[t, t, t, t, f, f, f, f, f, t, f, f]
abbrev spec_AutoTrim.bl8 : Array Bool := #[t, t, t, t, t, t, f, f, f, f, f, f]
abbrev spec_AutoTrim.bl9 : Array Bool := #[t, t, t, t, t, f, f, f, f, t, f, f]
abbrev spec_AutoTrim.bl10 : Array Bool := #[t, t, t, t, t, t, t, f, f, f, f, f]
abbrev spec_AutoTrim.bl11 : Array Bool := #[t, t, t, t, t, t, t, t, f, f, f, f]
abbrev spec_AutoTrim.bl12 : Array Bool := #[t, t, t, t, t, t, t, t, t, f, f, f]
abbrev spec_AutoTrim.bl13 : Array Bool := #[t, t, t, t, t, t, f, f, f, t, f, f]
abbrev spec_AutoTrim.bl14 : Array Bool := #[t, t, t, t, t, t, t, f, f, t, f, f]
abbrev spec_AutoTrim.bl15 : Array Bool := #[t, t, t, t, t, t, t, t, f, t, f, f]
abbrev spec_AutoTrim.bl16 : Array Bool := #[t, t, t, t, t, t, t, t, t, t, t, f]
abbrev spec_AutoTrim.bl17 : Array Bool := #[t, t, t, t, t, t, t, t, t, t, t, t]
end
/-! ### spec_AutoTrim: function 46 -/
def spec_AutoTrim.f (k : Nat) (a0_0 : Int) (a0_1 : Int) (a0_2 : Int) (l0_3 : List (S68)) : Option (Int × Int × Int × (List (S68)) × List Int) := (spec_AutoOk.f k a0_0 a0_1 a0_2 l0_3).bind fun t274 => (if t274 = true then ((spec_l4Reach.f k a0_0 a0_1 a0_2 l0_3 a0_2).bind fun t275 => ((spec_l4Keep.f k a0_0 a0_1 a0_2 l0_3 t275).bind fun bt276 => (some (bt276.1, bt276.2.1, bt276.2.2.1, bt276.2.2.2.1, bt276.2.2.2.2)))) else (some (0, 0, 0, ([] : List (S68)), (([] : List Int)))))
theorem spec_AutoTrim.mono : ∀ a0 a1 a2 a3 k, LeO (spec_AutoTrim.f k a0 a1 a2 a3) (spec_AutoTrim.f (k + 1) a0 a1 a2 a3) := by
 intro a0 a1 a2 a3 k
 unfold spec_AutoTrim.f
 repeat' first
   | (with_reducible exact spec_AutoOk.mono _ _ _ _ _)
   | (with_reducible exact spec_l4Keep.mono _ _ _ _ _ _)
   | (with_reducible exact spec_l4Reach.mono _ _ _ _ _ _)
   | (with_reducible exact LeO.refl _)
   | (with_reducible exact LeO.none _)
   | (with_reducible refine LeO.ite ?_ ?_)
   | (with_reducible refine LeO.bind ?_ (fun _ => ?_))
   | exact spec_AutoOk.mono _ _ _ _ _
   | exact spec_l4Keep.mono _ _ _ _ _ _
   | exact spec_l4Reach.mono _ _ _ _ _ _
   | exact LeO.none _
   | refine LeO.ite ?_ ?_
   | refine LeO.bind ?_ (fun _ => ?_)
def spec_AutoTrim.T3 : Bool × List (List Nat × List Nat) := (true, [([], []), ([], []), ([], []), ([2], [2]), ([1, 3], [1, 3]), ([0, 4, 4], [0, 4]), ([5], [5]), ([6], [6]), ([6], [6]), ([], []), ([9, 7, 5, 0, 1, 2, 3, 4, 5, 6, 7, 9], [7, 9]), ([8, 10, 0, 1, 2, 3, 4, 5, 6, 7, 8, 9, 10], [8])])
def spec_AutoTrim.B3 : List Nat := [0, 0, 0, 4, 14, 31, 63, 127, 127, 0, 767, 2047]
theorem spec_AutoTrim.tab3 : rtab .any (opsOf Try.f46 3) = spec_AutoTrim.T3 := by kernel_rfl
theorem spec_AutoTrim.bits3 : waitsOk spec_AutoTrim.T3.2 spec_AutoTrim.B3 = true := by kernel_rfl
open Go.Proofs.Ytlallflpicgcmaa.Short2 in
set_option maxHeartbeats 8000000 in
set_option maxRecDepth 100000 in
theorem spec_AutoTrim.calls (k : Nat) (a0_0 : Int) (a0_1 : Int) (a0_2 : Int) (A0_3 : Option Addr) (c0_3 : Nat) (l0_3 : List (S68)) (r1 : Int) (r2 : Int) (r3 : Int) (r4 : List (S68)) (r5 : List Int) (w : World) (hr0_3 : Kd.C k68 w A0_3 l0_3.length l0_3) (hc0_3 : l0_3.length ≤ c0_3) (h : spec_AutoTrim.f k a0_0 a0_1 a0_2 l0_3 = some (r1, r2, r3, r4, r5)) :
  Calls Try.prog 46 #[.agg #[.int .i64 a0_0, .int .i64 a0_1, .int .i64 a0_2, .slice A0_3 l0_3.length c0_3]] w fun e w' => ∃ v3_ v4_ : Value, e = .returned (.tuple #[.agg #[.int .i64 r1, .int .i64 r2, .int .i64 r3, v3_], v4_]) ∧ Kd.R k68 68 w' w.heap.size (fun _ => True) v3_ r4 ∧ Kd.R (Kd.int .i64) 3 w' w.heap.size (fun _ => True) v4_ r5 ∧ Below w.heap.size w w' := by
 have hu24 := Try.underlying24; have HR0_3 := Aside0.mk hr0_3; have HC0_3 := Aside0.mk hc0_3; clear hr0_3 hc0_3; have HB := Aside0.mk (Below.refl w.heap.size w); have H : ((spec_AutoOk.f k a0_0 a0_1 a0_2 l0_3).bind fun t274 => (if t274 = true then ((spec_l4Reach.f k a0_0 a0_1 a0_2 l0_3 a0_2).bind fun t275 => ((spec_l4Keep.f k a0_0 a0_1 a0_2 l0_3 t275).bind fun bt276 => (some (bt276.1, bt276.2.1, bt276.2.2.1, bt276.2.2.2.1, bt276.2.2.2.2)))) else (some (0, 0, 0, ([] : List (S68)), (([] : List Int)))))) = some (r1, r2, r3, r4, r5) := h; clear h; replace H := Option.bind_eq_some_iff.mp H; obtain ⟨t274, A20, H⟩ := H; replace H : (if t274 = true then ((spec_l4Reach.f k a0_0 a0_1 a0_2 l0_3 a0_2).bind fun t275 => ((spec_l4Keep.f k a0_0 a0_1 a0_2 l0_3 t275).bind fun bt276 => (some (bt276.1, bt276.2.1, bt276.2.2.1, bt276.2.2.2.1, bt276.2.2.2.2)))) else (some (0, 0, 0, ([] : List (S68)), (([] : List Int))))) = some (r1, r2, r3, r4, r5) := H; have A2 := Aside0.mk A20; clear A20
 by_cases c3 : t274 = true
 ·subst c3
  have H1 : ((spec_l4Reach.f k a0_0 a0_1 a0_2 l0_3 a0_2).bind fun t275 => ((spec_l4Keep.f k a0_0 a0_1 a0_2 l0_3 t275).bind fun bt276 => (some (bt276.1, bt276.2.1, bt276.2.2.1, bt276.2.2.2.1, bt276.2.2.2.2)))) = some (r1, r2, r3, r4, r5) := by rw [if_pos rfl] at H; exact H
  clear H; have H := H1; clear H1; replace H := Option.bind_eq_some_iff.mp H; obtain ⟨t275, A40, H⟩ := H; replace H : ((spec_l4Keep.f k a0_0 a0_1 a0_2 l0_3 t275).bind fun bt276 => (some (bt276.1, bt276.2.1, bt276.2.2.1, bt276.2.2.2.1, bt276.2.2.2.2))) = some (r1, r2, r3, r4, r5) := H; have A4 := Aside0.mk A40; clear A40; replace H := Option.bind_eq_some_iff.mp H; obtain ⟨⟨t276, t277, t278, t279, t282⟩, A50, H⟩ := H; replace H : (some (t276, t277, t278, t279, t282)) = some (r1, r2, r3, r4, r5) := H; have A5 := Aside0.mk A50; clear A50; simp only [Option.some.injEq, Prod.mk.injEq] at H; obtain ⟨rfl, rfl, rfl, rfl, rfl⟩ := H
  go_enter Try.func46, Try.ntmps46
  try go_wp2_with (first | ((with_reducible refine gate_dst (N := 1) rfl ?_); refine box_event ?hg (N := 1) ?hd (cs := #[.int .i64 a0_0, .int .i64 a0_1, .int .i64 a0_2, .slice A0_3 l0_3.length c0_3]) (t := 24) ?hr ?_; (case hd => rfl); (case hg => rfl); (case hr => first | (go_simp; done) | (go_simp; rfl)); intro gb272 hg w6 hbox hb; have BK272 := Aside0.mk (hbox); have GW272 := xG HB hg; have GE272 := xG HB hg; replace HB := xS HB hb; clear hb hbox hg) | ((with_reducible refine gate_dst (N := 2) rfl ?_); refine box_event ?hg (N := 2) ?hd (cs := #[.int .i64 0, .int .i64 0, .int .i64 0, .slice none 0 0]) (t := 24) ?hr ?_; (case hd => rfl); (case hg => rfl); (case hr => first | (go_simp; done) | (go_simp; rfl)); intro gb273 hg w7 hbox hb; have BK273 := Aside0.mk (hbox); have GW273 := xG HB hg; have GE273 := xG HB hg; replace HB := xS HB hb; have NB272_273 := xN BK272 hg; have NB273_272 := xM BK272 hg; replace BK272 := xB BK272 hb; clear hb hbox hg; have hnb8 := NB272_273.out; have hnc8 := NB273_272.out; have hcz9_0 : w7.cell? ⟨gb272, 0, none⟩ = some (.int .i64 a0_0) := b1 BK272 0; have hcz9_1 : w7.cell? ⟨gb272, 1, none⟩ = some (.int .i64 a0_1) := b1 BK272 1; have hcz9_2 : w7.cell? ⟨gb272, 2, none⟩ = some (.int .i64 a0_2) := b1 BK272 2; have hcz9_3 : w7.cell? ⟨gb272, 3, none⟩ = some (.slice A0_3 l0_3.length c0_3) := b1 BK272 3; have hfz9_0 := blk_frozen BK272.out 0; have hfz9_1 := blk_frozen BK272.out 1; have hfz9_2 := blk_frozen BK272.out 2; have hfz9_3 := blk_frozen BK272.out 3) | ((with_reducible refine gate_callee (f := 20) rfl ?_); refine goesL_ (some 7) rfl rfl Try.func20 (by kernel_rfl) rfl #[.agg #[.int .i64 a0_0, .int .i64 a0_1, .int .i64 a0_2, .slice A0_3 l0_3.length c0_3]] rfl (by (try simp only [m3]); first | done | rfl | (simp only [d2]; rfl)) ?_; (with_reducible refine (spec_AutoOk.calls k a0_0 a0_1 a0_2 _ _ l0_3 true _ ?side1 ?side2 A2.out).mono ?_); (case side1 => exact zC (Kd.C_below HR0_3.out HB.out)); (case side2 => exact HC0_3.out); rintro e w10 ⟨rfl, hb⟩; refine ⟨_, rfl, ?_⟩; replace BK272 := xB BK272 hb; replace BK273 := xB BK273 hb; replace HB := xS HB hb; (try clear hb); (try clear hb2); (try clear hk); (try clear hi)))
  replace BK272 := Aside0.mk (blk_drew BK272.out); replace BK273 := Aside0.mk (blk_drew BK273.out); replace HB := Aside0.mk (below_drew1 HB.out); refine start_ (n := 12) (S := fun w' => w'.cell? ⟨gb272, 0, none⟩ = some (.int .i64 a0_0) ∧ w'.cell? ⟨gb272, 1, none⟩ = some (.int .i64 a0_1) ∧ w'.cell? ⟨gb272, 2, none⟩ = some (.int .i64 a0_2) ∧ w'.cell? ⟨gb272, 3, none⟩ = some (.slice A0_3 l0_3.length c0_3)) (ds := []) bl0 (by kernel_rfl) rfl rfl ⟨b1 BK272 0, b1 BK272 1, b1 BK272 2, b1 BK272 3⟩ (fun hHeld => ?_); refine with_tabW spec_AutoTrim.tab3 spec_AutoTrim.bits3 (fun HT_ HW_ => ?_); generalize w10.drew = w11 at BK272 BK273 HB hHeld ⊢
  refine pu 2 (some 14) bl1 HT_ ?_ rfl rfl (.inl ⟨by rfl, ?_⟩) ?_ ?_ ?_; rotate_left; (intro w'; go_simp; with_reducible rfl); rotate_left; (simp only [Act.put, q5]; rfl)
  refine take_ (i := 0) (N := some 12) (v := ?_) (a' := ?_) bl2 rfl rfl (take_ofW HT_.out HW_.out (by kernel_rfl)) (fun _ _ _ h => h) (Or.inl ⟨by rfl, ?_⟩) hHeld ?_ ?_; rotate_left
  ·rintro w' ⟨s0, s1, s2, s3⟩; go_simp; with_reducible rfl
  rotate_left
  ·simp only [Act.put, q5]; rfl
  refine take_ (i := 1) (N := some 13) (v := ?_) (a' := ?_) bl3 rfl rfl (take_ofW HT_.out HW_.out (by kernel_rfl)) (fun _ _ _ h => h) (Or.inl ⟨by rfl, ?_⟩) hHeld ?_ ?_; rotate_left
  ·rintro w' ⟨s0, s1, s2, s3⟩; go_simp; with_reducible rfl
  rotate_left
  ·simp only [Act.put, q5]; rfl
  refine take_ (i := 3) (N := some 15) (v := ?_) (a' := ?_) bl4 rfl rfl (take_ofW HT_.out HW_.out (by kernel_rfl)) (fun _ _ _ h => h) (Or.inl ⟨by rfl, ?_⟩) hHeld ?_ ?_; rotate_left
  ·rintro w' ⟨s0, s1, s2, s3⟩; go_simp; with_reducible rfl
  rotate_left
  ·simp only [Act.put, q5]; rfl
  refine join_ (σ := Value × Value × Nat) 2 bl5 (fun s_ => [(16, .int .i64 t275), (17, .tuple #[.agg #[.int .i64 t276, .int .i64 t277, .int .i64 t278, s_.1], s_.2.1]), (4, .pointer (some ⟨s_.2.2, 0, none⟩)), (11, .tuple #[.agg #[.int .i64 t276, .int .i64 t277, .int .i64 t278, s_.1], s_.2.1]), (18, .agg #[.int .i64 t276, .int .i64 t277, .int .i64 t278, s_.1]), (19, s_.2.1)]) (fun s_ w' => (w'.cell? ⟨gb272, 0, none⟩ = some (.int .i64 a0_0) ∧ w'.cell? ⟨gb272, 1, none⟩ = some (.int .i64 a0_1) ∧ w'.cell? ⟨gb272, 2, none⟩ = some (.int .i64 a0_2) ∧ w'.cell? ⟨gb272, 3, none⟩ = some (.slice A0_3 l0_3.length c0_3)) ∧ (Kd.R k68 68 w' w.heap.size (fun _ => True) s_.1 t279) ∧ (Kd.R (Kd.int .i64) 3 w' w.heap.size (fun _ => True) s_.2.1 t282) ∧ (w'.heap[gb272]? = some (.cells #[.int .i64 a0_0, .int .i64 a0_1, .int .i64 a0_2, .slice A0_3 l0_3.length c0_3] 24 (0, 0))) ∧ (w'.heap[gb273]? = some (.cells #[.int .i64 0, .int .i64 0, .int .i64 0, .slice none 0 0] 24 (0, 0))) ∧ (w'.heap[s_.2.2]? = some (.cells #[.int .i64 0, .int .i64 0, .int .i64 0, .slice none 0 0] 24 (0, 0))) ∧ (w.heap.size ≤ s_.2.2) ∧ (w.heap.size ≤ s_.2.2) ∧ (gb272 ≠ s_.2.2) ∧ (s_.2.2 ≠ gb272) ∧ (gb273 ≠ s_.2.2) ∧ (s_.2.2 ≠ gb273) ∧ (Below w.heap.size w w')) ?_ ?_; rotate_left
  ·intro hCont; refine two_ (i := 4) (j := 9) (Ni := some 16) (Nj := some 4) bl6 bl7 rfl rfl rfl rfl (two_of HT_.out (by kernel_rfl)) (by decide) (by decide) (fun K hK => ?_) (fun K hK => ?_)
   ·skip
    refine goes_ Try.func80 (by kernel_rfl) rfl #[.agg #[.int .i64 a0_0, .int .i64 a0_1, .int .i64 a0_2, .slice A0_3 l0_3.length c0_3], .int .i64 a0_2] (by rfl) rfl rfl (by (try simp only [m3]); first | done | rfl | (simp only [d2]; rfl)) ?_
    with_reducible refine (spec_l4Reach.calls k a0_0 a0_1 a0_2 _ _ l0_3 a0_2 t275 _ ?side1 ?side2 A4.out).mono ?_
    (case side1 => exact zC (Kd.C_below HR0_3.out HB.out))
    (case side2 => exact HC0_3.out)
    rintro e w12 ⟨rfl, hb⟩; refine ⟨_, rfl, ?_⟩; replace BK272 := xB BK272 hb; replace BK273 := xB BK273 hb; replace HB := xS HB hb
    (try clear hb)
    (try clear hb2)
    (try clear hk)
    (try clear hi)
    refine hK.out _ _ ⟨b1 BK272 0, b1 BK272 1, b1 BK272 2, b1 BK272 3⟩ (fun hHeld => ?_); clear hK K; refine norm_ (a' := ?_) ?_ ?_; rotate_left
    ·show Act.put _ (some 16) _ = _; simp only [Act.put, q5]; rfl
    refine two_ (i := 5) (j := 9) (Ni := some 17) (Nj := some 4) bl8 bl9 rfl rfl rfl rfl (two_of HT_.out (by kernel_rfl)) (by decide) (by decide) (fun K hK => ?_) (fun K hK => ?_)
    ·skip
     refine goes_ Try.func93 (by kernel_rfl) rfl #[.agg #[.int .i64 a0_0, .int .i64 a0_1, .int .i64 a0_2, .slice A0_3 l0_3.length c0_3], .int .i64 t275] (by rfl) rfl rfl (by (try simp only [m3]); first | done | rfl | (simp only [d2]; rfl)) ?_
     with_reducible refine (spec_l4Keep.calls k a0_0 a0_1 a0_2 _ _ l0_3 t275 t276 t277 t278 t279 t282 _ ?side1 ?side2 A5.out).mono ?_
     (case side1 => exact zC (Kd.C_below HR0_3.out HB.out))
     (case side2 => exact HC0_3.out)
     rintro e w13 ⟨v280, v283, rfl, ho0, ho1, hb⟩; refine ⟨_, rfl, ?_⟩; have HO281 := Aside0.mk (Kd.R_lower ho0 (below_size (zS HB.out))); have HO284 := Aside0.mk (Kd.R_lower ho1 (below_size (zS HB.out))); replace BK272 := xB BK272 hb; replace BK273 := xB BK273 hb; replace HB := xS HB hb
     (try clear hb)
     (try clear hb2)
     (try clear hk)
     (try clear hi)
     (try clear ho0)
     (try clear ho1)
     refine hK.out _ _ ⟨b1 BK272 0, b1 BK272 1, b1 BK272 2, b1 BK272 3⟩ (fun hHeld => ?_); clear hK K; refine norm_ (a' := ?_) ?_ ?_; rotate_left
     ·show Act.put _ (some 17) _ = _; simp only [Act.put, q5]; rfl
     refine pu 6 (some 11) bl10 HT_ ?_ rfl rfl (.inl ⟨by rfl, ?_⟩) ?_ ?_ ?_; rotate_left; (intro w'; go_simp; with_reducible rfl); rotate_left; (simp only [Act.put, q5]; rfl)
     refine pu 7 (some 18) bl11 HT_ ?_ rfl rfl (.inl ⟨by rfl, ?_⟩) ?_ ?_ ?_; rotate_left; (intro w'; go_simp; with_reducible rfl); rotate_left; (simp only [Act.put, q5]; rfl)
     refine pu 8 (some 19) bl12 HT_ ?_ rfl rfl (.inl ⟨by rfl, ?_⟩) ?_ ?_ ?_; rotate_left; (intro w'; go_simp; with_reducible rfl); rotate_left; (simp only [Act.put, q5]; rfl)
     refine one_ (i := 9) (N := some 4) bl5 rfl rfl (one_of HT_.out (by kernel_rfl)) (by decide) (fun K hK => ?_)
     refine box_step ?hg (N := 4) ?hd (cs := #[.int .i64 0, .int .i64 0, .int .i64 0, .slice none 0 0]) (t := 24) ?hr ?_; (case hd => rfl); (case hg => rfl); (case hr => first | (go_simp; done) | (go_simp; rfl))
     intro gb285 hg w14 hbox hb; replace HO281 := xR HO281 hb; replace HO284 := xR HO284 hb; have BK285 := Aside0.mk (hbox); have GW285 := xG HB hg; have GE285 := xG HB hg; replace HB := xS HB hb; have NB272_285 := xN BK272 hg; have NB285_272 := xM BK272 hg; replace BK272 := xB BK272 hb; have NB273_285 := xN BK273 hg; have NB285_273 := xM BK273 hg; replace BK273 := xB BK273 hb; clear hb hbox hg; refine hK.out _ _ ⟨b1 BK272 0, b1 BK272 1, b1 BK272 2, b1 BK272 3⟩ (fun hHeld => ?_); clear hK K; refine norm_ (a' := ?_) ?_ ?_; rotate_left
     ·show Act.put _ (some 4) _ = _; simp only [Act.put, q5]; rfl
     exact norm_ (by simp only [putAll, Act.put, q3]) (hCont (v280, v283, gb285) _ ⟨hHeld, (zR HO281.out), (zR HO284.out), (zB BK272.out), (zB BK273.out), (zB BK285.out), GW285.out, GE285.out, NB272_285.out, NB285_272.out, NB273_285.out, NB285_273.out, (zS HB.out)⟩)
    ·skip
     refine box_step ?hg (N := 4) ?hd (cs := #[.int .i64 0, .int .i64 0, .int .i64 0, .slice none 0 0]) (t := 24) ?hr ?_; (case hd => rfl); (case hg => rfl); (case hr => first | (go_simp; done) | (go_simp; rfl))
     intro gb285 hg w13 hbox hb; have BK285 := Aside0.mk (hbox); have GW285 := xG HB hg; have GE285 := xG HB hg; replace HB := xS HB hb; have NB272_285 := xN BK272 hg; have NB285_272 := xM BK272 hg; replace BK272 := xB BK272 hb; have NB273_285 := xN BK273 hg; have NB285_273 := xM BK273 hg; replace BK273 := xB BK273 hb; clear hb hbox hg; refine hK.out _ _ ⟨b1 BK272 0, b1 BK272 1, b1 BK272 2, b1 BK272 3⟩ (fun hHeld => ?_); clear hK K; refine norm_ (a' := ?_) ?_ ?_; rotate_left
     ·show Act.put _ (some 4) _ = _; simp only [Act.put, q5]; rfl
     refine one_ (i := 5) (N := some 17) bl13 rfl rfl (one_of HT_.out (by kernel_rfl)) (by decide) (fun K hK => ?_); refine goes_ Try.func93 (by kernel_rfl) rfl #[.agg #[.int .i64 a0_0, .int .i64 a0_1, .int .i64 a0_2, .slice A0_3 l0_3.length c0_3], .int .i64 t275] (by rfl) rfl rfl (by (try simp only [m3]); first | done | rfl | (simp only [d2]; rfl)) ?_
     with_reducible refine (spec_l4Keep.calls k a0_0 a0_1 a0_2 _ _ l0_3 t275 t276 t277 t278 t279 t282 _ ?side1 ?side2 A5.out).mono ?_
     (case side1 => exact zC (Kd.C_below HR0_3.out HB.out))
     (case side2 => exact HC0_3.out)
     rintro e w14 ⟨v280, v283, rfl, ho0, ho1, hb⟩; refine ⟨_, rfl, ?_⟩; have HO281 := Aside0.mk (Kd.R_lower ho0 (below_size (zS HB.out))); have HO284 := Aside0.mk (Kd.R_lower ho1 (below_size (zS HB.out))); replace BK272 := xB BK272 hb; replace BK273 := xB BK273 hb; replace BK285 := xB BK285 hb; replace HB := xS HB hb
     (try clear hb)
     (try clear hb2)
     (try clear hk)
     (try clear hi)
     (try clear ho0)
     (try clear ho1)
     refine hK.out _ _ ⟨b1 BK272 0, b1 BK272 1, b1 BK272 2, b1 BK272 3⟩ (fun hHeld => ?_); clear hK K; refine norm_ (a' := ?_) ?_ ?_; rotate_left
     ·show Act.put _ (some 17) _ = _; simp only [Act.put, q5]; rfl
     refine pu 6 (some 11) bl14 HT_ ?_ rfl rfl (.inl ⟨by rfl, ?_⟩) ?_ ?_ ?_; rotate_left; (intro w'; go_simp; with_reducible rfl); rotate_left; (simp only [Act.put, q5]; rfl)
     refine pu 7 (some 18) bl15 HT_ ?_ rfl rfl (.inl ⟨by rfl, ?_⟩) ?_ ?_ ?_; rotate_left; (intro w'; go_simp; with_reducible rfl); rotate_left; (simp only [Act.put, q5]; rfl)
     refine pu 8 (some 19) bl5 HT_ ?_ rfl rfl (.inl ⟨by rfl, ?_⟩) ?_ ?_ ?_; rotate_left; (intro w'; go_simp; with_reducible rfl); rotate_left; (simp only [Act.put, q5]; rfl)
     exact norm_ (by simp only [putAll, Act.put, q3]) (hCont (v280, v283, gb285) _ ⟨hHeld, (zR HO281.out), (zR HO284.out), (zB BK272.out), (zB BK273.out), (zB BK285.out), GW285.out, GE285.out, NB272_285.out, NB285_272.out, NB273_285.out, NB285_273.out, (zS HB.out)⟩)
   ·skip
    refine box_step ?hg (N := 4) ?hd (cs := #[.int .i64 0, .int .i64 0, .int .i64 0, .slice none 0 0]) (t := 24) ?hr ?_; (case hd => rfl); (case hg => rfl); (case hr => first | (go_simp; done) | (go_simp; rfl))
    intro gb285 hg w12 hbox hb; have BK285 := Aside0.mk (hbox); have GW285 := xG HB hg; have GE285 := xG HB hg; replace HB := xS HB hb; have NB272_285 := xN BK272 hg; have NB285_272 := xM BK272 hg; replace BK272 := xB BK272 hb; have NB273_285 := xN BK273 hg; have NB285_273 := xM BK273 hg; replace BK273 := xB BK273 hb; clear hb hbox hg; refine hK.out _ _ ⟨b1 BK272 0, b1 BK272 1, b1 BK272 2, b1 BK272 3⟩ (fun hHeld => ?_); clear hK K; refine norm_ (a' := ?_) ?_ ?_; rotate_left
    ·show Act.put _ (some 4) _ = _; simp only [Act.put, q5]; rfl
    refine one_ (i := 4) (N := some 16) bl9 rfl rfl (one_of HT_.out (by kernel_rfl)) (by decide) (fun K hK => ?_); refine goes_ Try.func80 (by kernel_rfl) rfl #[.agg #[.int .i64 a0_0, .int .i64 a0_1, .int .i64 a0_2, .slice A0_3 l0_3.length c0_3], .int .i64 a0_2] (by rfl) rfl rfl (by (try simp only [m3]); first | done | rfl | (simp only [d2]; rfl)) ?_
    with_reducible refine (spec_l4Reach.calls k a0_0 a0_1 a0_2 _ _ l0_3 a0_2 t275 _ ?side1 ?side2 A4.out).mono ?_
    (case side1 => exact zC (Kd.C_below HR0_3.out HB.out))
    (case side2 => exact HC0_3.out)
    rintro e w13 ⟨rfl, hb⟩; refine ⟨_, rfl, ?_⟩; replace BK272 := xB BK272 hb; replace BK273 := xB BK273 hb; replace BK285 := xB BK285 hb; replace HB := xS HB hb
    (try clear hb)
    (try clear hb2)
    (try clear hk)
    (try clear hi)
    refine hK.out _ _ ⟨b1 BK272 0, b1 BK272 1, b1 BK272 2, b1 BK272 3⟩ (fun hHeld => ?_); clear hK K; refine norm_ (a' := ?_) ?_ ?_; rotate_left
    ·show Act.put _ (some 16) _ = _; simp only [Act.put, q5]; rfl
    refine one_ (i := 5) (N := some 17) bl13 rfl rfl (one_of HT_.out (by kernel_rfl)) (by decide) (fun K hK => ?_); refine goes_ Try.func93 (by kernel_rfl) rfl #[.agg #[.int .i64 a0_0, .int .i64 a0_1, .int .i64 a0_2, .slice A0_3 l0_3.length c0_3], .int .i64 t275] (by rfl) rfl rfl (by (try simp only [m3]); first | done | rfl | (simp only [d2]; rfl)) ?_
    with_reducible refine (spec_l4Keep.calls k a0_0 a0_1 a0_2 _ _ l0_3 t275 t276 t277 t278 t279 t282 _ ?side1 ?side2 A5.out).mono ?_
    (case side1 => exact zC (Kd.C_below HR0_3.out HB.out))
    (case side2 => exact HC0_3.out)
    rintro e w14 ⟨v280, v283, rfl, ho0, ho1, hb⟩; refine ⟨_, rfl, ?_⟩; have HO281 := Aside0.mk (Kd.R_lower ho0 (below_size (zS HB.out))); have HO284 := Aside0.mk (Kd.R_lower ho1 (below_size (zS HB.out))); replace BK272 := xB BK272 hb; replace BK273 := xB BK273 hb; replace BK285 := xB BK285 hb; replace HB := xS HB hb
    (try clear hb)
    (try clear hb2)
    (try clear hk)
    (try clear hi)
    (try clear ho0)
    (try clear ho1)
    refine hK.out _ _ ⟨b1 BK272 0, b1 BK272 1, b1 BK272 2, b1 BK272 3⟩ (fun hHeld => ?_); clear hK K; refine norm_ (a' := ?_) ?_ ?_; rotate_left
    ·show Act.put _ (some 17) _ = _; simp only [Act.put, q5]; rfl
    refine pu 6 (some 11) bl14 HT_ ?_ rfl rfl (.inl ⟨by rfl, ?_⟩) ?_ ?_ ?_; rotate_left; (intro w'; go_simp; with_reducible rfl); rotate_left; (simp only [Act.put, q5]; rfl)
    refine pu 7 (some 18) bl15 HT_ ?_ rfl rfl (.inl ⟨by rfl, ?_⟩) ?_ ?_ ?_; rotate_left; (intro w'; go_simp; with_reducible rfl); rotate_left; (simp only [Act.put, q5]; rfl)
    refine pu 8 (some 19) bl5 HT_ ?_ rfl rfl (.inl ⟨by rfl, ?_⟩) ?_ ?_ ?_; rotate_left; (intro w'; go_simp; with_reducible rfl); rotate_left; (simp only [Act.put, q5]; rfl)
    exact norm_ (by simp only [putAll, Act.put, q3]) (hCont (v280, v283, gb285) _ ⟨hHeld, (zR HO281.out), (zR HO284.out), (zB BK272.out), (zB BK273.out), (zB BK285.out), GW285.out, GE285.out, NB272_285.out, NB285_272.out, NB273_285.out, NB285_273.out, (zS HB.out)⟩)
  rintro ⟨v280, v283, gb285⟩ w15 ⟨hS_, h0_, h1_, h2_, h3_, h4_, h5_, h6_, h7_, h8_, h9_, h10_, h11_⟩; have n0_ : Aside0 (Kd.R k68 68 w15 w.heap.size (fun _ => True) v280 t279) := ⟨h0_⟩; have n1_ : Aside0 (Kd.R (Kd.int .i64) 3 w15 w.heap.size (fun _ => True) v283 t282) := ⟨h1_⟩; have n2_ : Aside0 (w15.heap[gb272]? = some (.cells #[.int .i64 a0_0, .int .i64 a0_1, .int .i64 a0_2, .slice A0_3 l0_3.length c0_3] 24 (0, 0))) := ⟨h2_⟩; have n3_ : Aside0 (w15.heap[gb273]? = some (.cells #[.int .i64 0, .int .i64 0, .int .i64 0, .slice none 0 0] 24 (0, 0))) := ⟨h3_⟩; have n4_ : Aside0 (w15.heap[gb285]? = some (.cells #[.int .i64 0, .int .i64 0, .int .i64 0, .slice none 0 0] 24 (0, 0))) := ⟨h4_⟩; have n5_ : Aside0 (w.heap.size ≤ gb285) := ⟨h5_⟩; have n6_ : Aside0 (w.heap.size ≤ gb285) := ⟨h6_⟩; have n7_ : Aside0 (gb272 ≠ gb285) := ⟨h7_⟩; have n8_ : Aside0 (gb285 ≠ gb272) := ⟨h8_⟩; have n9_ : Aside0 (gb273 ≠ gb285) := ⟨h9_⟩; have n10_ : Aside0 (gb285 ≠ gb273) := ⟨h10_⟩; have n11_ : Aside0 (Below w.heap.size w w15) := ⟨h11_⟩; clear BK272; clear BK273; clear HB; clear h0_ h1_ h2_ h3_ h4_ h5_ h6_ h7_ h8_ h9_ h10_ h11_; have HO281 := n0_; have HO284 := n1_; have BK272 := n2_; have BK273 := n3_; have BK285 := n4_; have GW285 := n5_; have GE285 := n6_; have NB272_285 := n7_; have NB285_272 := n8_; have NB273_285 := n9_; have NB285_273 := n10_; have HB := n11_; clear n0_ n1_ n2_ n3_ n4_ n5_ n6_ n7_ n8_ n9_ n10_ n11_; have hHeld : w15.cell? ⟨gb272, 0, none⟩ = some (.int .i64 a0_0) ∧ w15.cell? ⟨gb272, 1, none⟩ = some (.int .i64 a0_1) ∧ w15.cell? ⟨gb272, 2, none⟩ = some (.int .i64 a0_2) ∧ w15.cell? ⟨gb272, 3, none⟩ = some (.slice A0_3 l0_3.length c0_3) := hS_; obtain ⟨Ao19, co19, eo19⟩ := Kd.R_slice HO281.out
  (first | subst eo19 | (injection eo19 with f1_ f2_ f3_; have f4_ := f1_.symm; have f5_ := f3_.symm; clear f1_ f2_ f3_; subst f4_; subst f5_))
  refine norm_ (a' := ?_) ?_ ?_; rotate_left
  ·simp only [putAll, Act.put, q3]; rfl
  refine one_ (i := 10) (N := none) bl16 rfl rfl (one_of HT_.out (by kernel_rfl)) (by decide) (fun K hK => ?_); have hs16 : w15.cell? ⟨gb285, 0, none⟩ = some (.int .i64 0) := b1 BK285 0; have hfs16 := blk_frozen BK285.out 0; have hns16_0 := NB272_285.out; have hns16_1 := NB273_285.out; have hms16_0 := NB285_272.out; have hms16_1 := NB285_273.out; have hs17 : w15.cell? ⟨gb285, 1, none⟩ = some (.int .i64 0) := b1 BK285 1; have hfs17 := blk_frozen BK285.out 1; have hns17_0 := NB272_285.out; have hns17_1 := NB273_285.out; have hms17_0 := NB285_272.out; have hms17_1 := NB285_273.out; have hs18 : w15.cell? ⟨gb285, 2, none⟩ = some (.int .i64 0) := b1 BK285 2; have hfs18 := blk_frozen BK285.out 2; have hns18_0 := NB272_285.out; have hns18_1 := NB273_285.out; have hms18_0 := NB285_272.out; have hms18_1 := NB285_273.out; have hs20 : w15.cell? ⟨gb285, 3, none⟩ = some (.slice none 0 0) := b1 BK285 3; have hfs20 := blk_frozen BK285.out 3; have hns20_0 := NB272_285.out; have hns20_1 := NB273_285.out; have hms20_0 := NB285_272.out; have hms20_1 := NB285_273.out; refine skip_ (w1 := ?_) (by rfl) rfl ?_ ?_; rotate_left
  ·go_simp; rfl
  refine hK.out _ _ ⟨((cell_far (p := ⟨gb285, _, none⟩) NB272_285.out _).trans (((cell_far (p := ⟨gb285, _, none⟩) NB272_285.out _).trans (((cell_far (p := ⟨gb285, _, none⟩) NB272_285.out _).trans (((cell_far (p := ⟨gb285, _, none⟩) NB272_285.out _).trans (hHeld.1)))))))), ((cell_far (p := ⟨gb285, _, none⟩) NB272_285.out _).trans (((cell_far (p := ⟨gb285, _, none⟩) NB272_285.out _).trans (((cell_far (p := ⟨gb285, _, none⟩) NB272_285.out _).trans (((cell_far (p := ⟨gb285, _, none⟩) NB272_285.out _).trans (hHeld.2.1)))))))), ((cell_far (p := ⟨gb285, _, none⟩) NB272_285.out _).trans (((cell_far (p := ⟨gb285, _, none⟩) NB272_285.out _).trans (((cell_far (p := ⟨gb285, _, none⟩) NB272_285.out _).trans (((cell_far (p := ⟨gb285, _, none⟩) NB272_285.out _).trans (hHeld.2.2.1)))))))), ((cell_far (p := ⟨gb285, _, none⟩) NB272_285.out _).trans (((cell_far (p := ⟨gb285, _, none⟩) NB272_285.out _).trans (((cell_far (p := ⟨gb285, _, none⟩) NB272_285.out _).trans (((cell_far (p := ⟨gb285, _, none⟩) NB272_285.out _).trans (hHeld.2.2.2))))))))⟩ (fun hHeld => ?_); clear hK K
  refine pu 11 (some 5) bl17 HT_ ?_ rfl rfl (.inl ⟨by rfl, ?_⟩) ?_ ?_ ?_; rotate_left; (intro w'; go_simp; with_reducible rfl); rotate_left; (simp only [Act.put, q5]; rfl)
  refine done_ (done_of HT_.out (by kernel_rfl)) ?_; have hnb21 := NB285_272.out; have hnc21 := NB272_285.out; have hnb22 := NB285_273.out; have hnc22 := NB273_285.out; have hcz23_0 : w15.cell? ⟨gb285, 0, none⟩ = some (.int .i64 0) := b1 BK285 0; have hcz23_1 : w15.cell? ⟨gb285, 1, none⟩ = some (.int .i64 0) := b1 BK285 1; have hcz23_2 : w15.cell? ⟨gb285, 2, none⟩ = some (.int .i64 0) := b1 BK285 2; have hcz23_3 : w15.cell? ⟨gb285, 3, none⟩ = some (.slice none 0 0) := b1 BK285 3; have hfz23_0 := blk_frozen BK285.out 0; have hfz23_1 := blk_frozen BK285.out 1; have hfz23_2 := blk_frozen BK285.out 2; have hfz23_3 := blk_frozen BK285.out 3; have hcz24_0 : w15.cell? ⟨gb273, 0, none⟩ = some (.int .i64 0) := b1 BK273 0; have hcz24_1 : w15.cell? ⟨gb273, 1, none⟩ = some (.int .i64 0) := b1 BK273 1; have hcz24_2 : w15.cell? ⟨gb273, 2, none⟩ = some (.int .i64 0) := b1 BK273 2; have hcz24_3 : w15.cell? ⟨gb273, 3, none⟩ = some (.slice none 0 0) := b1 BK273 3; have hfz24_0 := blk_frozen BK273.out 0; have hfz24_1 := blk_frozen BK273.out 1; have hfz24_2 := blk_frozen BK273.out 2; have hfz24_3 := blk_frozen BK273.out 3
  try go_wp2
  refine bodyPost_ret (results_ct rfl _ _ gb273 24 #[.int .i64 t276, .int .i64 t277, .int .i64 t278, .slice Ao19 t279.length co19] (0, 0) _ rfl (by (with_reducible repeat (first | refine blk_drewN ?_ _ | refine blk_drew ?_ | refine blk_alloc ?_ _)); refine blk_put (cs := #[.int .i64 t276, .int .i64 t277, .int .i64 t278, .slice none 0 0]) ?_ 3 _ rfl; (with_reducible repeat (first | refine blk_drewN ?_ _ | refine blk_drew ?_ | refine blk_alloc ?_ _)); refine blk_put (cs := #[.int .i64 t276, .int .i64 t277, .int .i64 0, .slice none 0 0]) ?_ 2 _ rfl; (with_reducible repeat (first | refine blk_drewN ?_ _ | refine blk_drew ?_ | refine blk_alloc ?_ _)); refine blk_put (cs := #[.int .i64 t276, .int .i64 0, .int .i64 0, .slice none 0 0]) ?_ 1 _ rfl; (with_reducible repeat (first | refine blk_drewN ?_ _ | refine blk_drew ?_ | refine blk_alloc ?_ _)); refine blk_put (cs := #[.int .i64 0, .int .i64 0, .int .i64 0, .slice none 0 0]) ?_ 0 _ rfl; (with_reducible repeat (first | refine blk_drewN ?_ _ | refine blk_drew ?_ | refine blk_alloc ?_ _)); refine blk_far ?_ NB273_285.out _; (with_reducible repeat (first | refine blk_drewN ?_ _ | refine blk_drew ?_ | refine blk_alloc ?_ _)); refine blk_far ?_ NB273_285.out _; (with_reducible repeat (first | refine blk_drewN ?_ _ | refine blk_drew ?_ | refine blk_alloc ?_ _)); refine blk_far ?_ NB273_285.out _; (with_reducible repeat (first | refine blk_drewN ?_ _ | refine blk_drew ?_ | refine blk_alloc ?_ _)); refine blk_far ?_ NB273_285.out _; (with_reducible repeat (first | refine blk_drewN ?_ _ | refine blk_drew ?_ | refine blk_alloc ?_ _)); exact BK273.out) Try.underlying24 rfl (by kernel_rfl)) rfl ?_
  exact ⟨_, _, by first | rfl | (simp [errW_none, errW_some] <;> rfl) | (simp [*, errW_none, errW_some] <;> rfl), by (with_reducible repeat (first | apply Kd.R_alloc | apply Kd.R_drewN | apply Kd.R_drew)); exact Kd.R_mono (Kd.R_far (p := ⟨gb273, 3, none⟩) (Kd.R_far (p := ⟨gb273, 2, none⟩) (Kd.R_far (p := ⟨gb273, 1, none⟩) (Kd.R_far (p := ⟨gb273, 0, none⟩) (Kd.R_far (p := ⟨gb285, 3, none⟩) (Kd.R_far (p := ⟨gb285, 2, none⟩) (Kd.R_far (p := ⟨gb285, 1, none⟩) (Kd.R_far (p := ⟨gb285, 0, none⟩) (Kd.R_types (Kd.R_types HO281.out BK285.out (by decide)) BK273.out (by decide)) (fun _ hk => hk.1.2) (.int .i64 t276)) (fun _ hk => hk.1.2) (.int .i64 t277)) (fun _ hk => hk.1.2) (.int .i64 t278)) (fun _ hk => hk.1.2) (.slice Ao19 t279.length co19)) (fun _ hk => hk.2) (.int .i64 t276)) (fun _ hk => hk.2) (.int .i64 t277)) (fun _ hk => hk.2) (.int .i64 t278)) (fun _ hk => hk.2) (.slice Ao19 t279.length co19)) (fun _ hk => trivial), by (with_reducible repeat (first | apply Kd.R_alloc | apply Kd.R_drewN | apply Kd.R_drew)); exact Kd.R_mono (Kd.R_far (p := ⟨gb273, 3, none⟩) (Kd.R_far (p := ⟨gb273, 2, none⟩) (Kd.R_far (p := ⟨gb273, 1, none⟩) (Kd.R_far (p := ⟨gb273, 0, none⟩) (Kd.R_far (p := ⟨gb285, 3, none⟩) (Kd.R_far (p := ⟨gb285, 2, none⟩) (Kd.R_far (p := ⟨gb285, 1, none⟩) (Kd.R_far (p := ⟨gb285, 0, none⟩) (Kd.R_types (Kd.R_types HO284.out BK285.out (by decide)) BK273.out (by decide)) (fun _ hk => hk.1.2) (.int .i64 t276)) (fun _ hk => hk.1.2) (.int .i64 t277)) (fun _ hk => hk.1.2) (.int .i64 t278)) (fun _ hk => hk.1.2) (.slice Ao19 t279.length co19)) (fun _ hk => hk.2) (.int .i64 t276)) (fun _ hk => hk.2) (.int .i64 t277)) (fun _ hk => hk.2) (.int .i64 t278)) (fun _ hk => hk.2) (.slice Ao19 t279.length co19)) (fun _ hk => trivial), by repeat (first | (with_reducible first | exact HB.out | apply below_alloc | apply pw_below_drewN | apply below_drew1 | refine below_set ?_ GE272.out | refine below_set ?_ GE273.out | refine below_set ?_ GE285.out) | exact HB.out)⟩
 ·replace c3 := Bool.eq_false_iff.mpr c3; subst c3
  have H1 : (some (0, 0, 0, ([] : List (S68)), (([] : List Int)))) = some (r1, r2, r3, r4, r5) := by rw [if_neg (show ¬ (false = true) by decide)] at H; exact H
  clear H; have H := H1; clear H1; obtain ⟨y286, hy286⟩ : ∃ y_ : List Int, y_ = (([] : List Int)) := ⟨_, rfl⟩
  replace H : (some (0, 0, 0, ([] : List (S68)), y286)) = some (r1, r2, r3, r4, r5) := by first | (rw [hy286]; with_reducible exact H) | (have H2_ := (Option.bind_some _ _).symm.trans H; rw [hy286]; with_reducible exact H2_) | (have H2_ := (Option.bind_some _ _).symm.trans H; with_reducible exact H2_) | with_reducible exact H | (rw [hy286]; exact H) | exact H
  have Ny286 := Aside0.mk hy286; clear hy286; simp only [Option.some.injEq, Prod.mk.injEq] at H; obtain ⟨rfl, rfl, rfl, rfl, rfl⟩ := H
  go_enter Try.func46, Try.ntmps46
  go_wp2_with (first | ((with_reducible refine gate_dst (N := 1) rfl ?_); refine box_event ?hg (N := 1) ?hd (cs := #[.int .i64 a0_0, .int .i64 a0_1, .int .i64 a0_2, .slice A0_3 l0_3.length c0_3]) (t := 24) ?hr ?_; (case hd => rfl); (case hg => rfl); (case hr => first | (go_simp; done) | (go_simp; rfl)); intro gb272 hg w25 hbox hb; have BK272 := Aside0.mk (hbox); have GW272 := xG HB hg; have GE272 := xG HB hg; replace HB := xS HB hb; clear hb hbox hg) | ((with_reducible refine gate_dst (N := 2) rfl ?_); refine box_event ?hg (N := 2) ?hd (cs := #[.int .i64 0, .int .i64 0, .int .i64 0, .slice none 0 0]) (t := 24) ?hr ?_; (case hd => rfl); (case hg => rfl); (case hr => first | (go_simp; done) | (go_simp; rfl)); intro gb273 hg w26 hbox hb; have BK273 := Aside0.mk (hbox); have GW273 := xG HB hg; have GE273 := xG HB hg; replace HB := xS HB hb; have NB272_273 := xN BK272 hg; have NB273_272 := xM BK272 hg; replace BK272 := xB BK272 hb; clear hb hbox hg; have hnb27 := NB272_273.out; have hnc27 := NB273_272.out; have hcz28_0 : w26.cell? ⟨gb272, 0, none⟩ = some (.int .i64 a0_0) := b1 BK272 0; have hcz28_1 : w26.cell? ⟨gb272, 1, none⟩ = some (.int .i64 a0_1) := b1 BK272 1; have hcz28_2 : w26.cell? ⟨gb272, 2, none⟩ = some (.int .i64 a0_2) := b1 BK272 2; have hcz28_3 : w26.cell? ⟨gb272, 3, none⟩ = some (.slice A0_3 l0_3.length c0_3) := b1 BK272 3; have hfz28_0 := blk_frozen BK272.out 0; have hfz28_1 := blk_frozen BK272.out 1; have hfz28_2 := blk_frozen BK272.out 2; have hfz28_3 := blk_frozen BK272.out 3) | ((with_reducible refine gate_callee (f := 20) rfl ?_); refine goesL_ (some 7) rfl rfl Try.func20 (by kernel_rfl) rfl #[.agg #[.int .i64 a0_0, .int .i64 a0_1, .int .i64 a0_2, .slice A0_3 l0_3.length c0_3]] rfl (by (try simp only [m3]); first | done | rfl | (simp only [d2]; rfl)) ?_; (with_reducible refine (spec_AutoOk.calls k a0_0 a0_1 a0_2 _ _ l0_3 false _ ?side1 ?side2 A2.out).mono ?_); (case side1 => exact zC (Kd.C_below HR0_3.out HB.out)); (case side2 => exact HC0_3.out); rintro e w29 ⟨rfl, hb⟩; refine ⟨_, rfl, ?_⟩; replace BK272 := xB BK272 hb; replace BK273 := xB BK273 hb; replace HB := xS HB hb; (try clear hb); (try clear hb2); (try clear hk); (try clear hi)) | ((with_reducible refine gate_dst (N := 10) rfl ?_); refine Kd.R_lit (Kd.int .i64) _ 3 ?hg (N := 10) ?hd (xs := ([] : List Int)) (inner := []) (ok := fun _ => True) (okp := fun _ => True) ?hr ?hp (fun _ hk => hk) trivial (Below.refl _ _) (Nat.le_refl _) (by simp) ?_; (case hd => rfl); (case hg => rfl); (case hr => first | (go_simp; done) | (go_simp; rfl)); (case hp => exact (Reps.none _ _)); intro v287 w30 ho31 hb hg_ hnew_; clear hg_ hnew_; (first | rw [← Ny286.out] at ho31 | (simp only [Int.reduceToNat] at ho31; rw [← Ny286.out] at ho31)); have HO288 := Aside0.mk (Kd.R_lower ho31 (below_size (zS HB.out))); replace BK272 := xB BK272 hb; replace BK273 := xB BK273 hb; replace HB := xS HB hb; clear hb ho31; have hcz32_0 : w30.cell? ⟨gb273, 0, none⟩ = some (.int .i64 0) := b1 BK273 0; have hcz32_1 : w30.cell? ⟨gb273, 1, none⟩ = some (.int .i64 0) := b1 BK273 1; have hcz32_2 : w30.cell? ⟨gb273, 2, none⟩ = some (.int .i64 0) := b1 BK273 2; have hcz32_3 : w30.cell? ⟨gb273, 3, none⟩ = some (.slice none 0 0) := b1 BK273 3; have hfz32_0 := blk_frozen BK273.out 0; have hfz32_1 := blk_frozen BK273.out 1; have hfz32_2 := blk_frozen BK273.out 2; have hfz32_3 := blk_frozen BK273.out 3))
  refine bodyPost_ret (results_ct rfl _ _ gb273 24 #[.int .i64 0, .int .i64 0, .int .i64 0, .slice none 0 0] (0, 0) _ rfl (xP4 BK273.out) Try.underlying24 rfl (by kernel_rfl)) rfl ?_; exact ⟨_, _, by first | rfl | (simp [errW_none, errW_some] <;> rfl) | (simp [*, errW_none, errW_some] <;> rfl), by first | exact Kd.R_nil _ _ _ _ _ | exact Kd.N_nil _ _ _ _ _ | exact Kd.V_nil _ _ _ _ _ | exact Kd.Q_nil _ _ _ _ _ | exact Kd.S_nil _ _ _ _ _, by (with_reducible repeat (first | apply Kd.R_alloc | apply Kd.R_drewN | apply Kd.R_drew)); exact Kd.R_mono (Kd.R_far (p := ⟨gb273, 3, none⟩) (Kd.R_far (p := ⟨gb273, 2, none⟩) (Kd.R_far (p := ⟨gb273, 1, none⟩) (Kd.R_far (p := ⟨gb273, 0, none⟩) (Kd.R_types HO288.out BK273.out (by decide)) (fun _ hk => hk.2) (.int .i64 0)) (fun _ hk => hk.2) (.int .i64 0)) (fun _ hk => hk.2) (.int .i64 0)) (fun _ hk => hk.2) (.slice none 0 0)) (fun _ hk => trivial), by repeat (first | (with_reducible first | exact HB.out | apply below_alloc | apply pw_below_drewN | apply below_drew1 | refine below_set ?_ GE272.out | refine below_set ?_ GE273.out) | exact HB.out)⟩


/-! ### laws_eqIntS: function 47 -/
def laws_eqIntS.l0 : Nat → List Int → List Int → Int → Option (Bool)
 | 0, _, _, _ => none
 | k + 1, x0, x1, x5 => if x5 < (x0.length : Int) then (if 0 ≤ x5 then (if x5 < (x1.length : Int) then (if (rd x0 x5) = (rd x1 x5) then (laws_eqIntS.l0 k x0 x1 (wrap64 (x5 + 1))) else (some false)) else (none)) else (none)) else (some true)
def laws_eqIntS.f (k : Nat) (l0 : List Int) (l1 : List Int) : Option (Bool) := if (l0.length : Int) = (l1.length : Int) then (laws_eqIntS.l0 k l0 l1 0) else (some false)
theorem laws_eqIntS.mono_l : ∀ k, (∀ y0 y1 y2, LeO (laws_eqIntS.l0 k y0 y1 y2) (laws_eqIntS.l0 (k + 1) y0 y1 y2))
 | 0 => fun _ _ _ r h => by simp [laws_eqIntS.l0] at h
 | k + 1 => by
  have ih0 := laws_eqIntS.mono_l k
  ·intro y0 y1 y2
   unfold laws_eqIntS.l0
   repeat' first
   | (with_reducible exact ih0 _ _ _)
   | (with_reducible exact LeO.refl _)
   | (with_reducible exact LeO.none _)
   | (with_reducible refine LeO.ite ?_ ?_)
   | (with_reducible refine LeO.bind ?_ (fun _ => ?_))
   | exact ih0 _ _ _
   | exact LeO.none _
   | refine LeO.ite ?_ ?_
   | refine LeO.bind ?_ (fun _ => ?_)
theorem laws_eqIntS.mono : ∀ a0 a1 k, LeO (laws_eqIntS.f k a0 a1) (laws_eqIntS.f (k + 1) a0 a1) := by
 intro a0 a1 k
 have ih0 := laws_eqIntS.mono_l k
 unfold laws_eqIntS.f
 repeat' first
   | (with_reducible exact ih0 _ _ _)
   | (with_reducible exact LeO.refl _)
   | (with_reducible exact LeO.none _)
   | (with_reducible refine LeO.ite ?_ ?_)
   | (with_reducible refine LeO.bind ?_ (fun _ => ?_))
   | exact ih0 _ _ _
   | exact LeO.none _
   | refine LeO.ite ?_ ?_
   | refine LeO.bind ?_ (fun _ => ?_)
open Go.Proofs.Ytlallflpicgcmaa.Short2 in
set_option maxHeartbeats 8000000 in
set_option maxRecDepth 100000 in
theorem laws_eqIntS.calls (k : Nat) (A0 : Option Addr) (c0 : Nat) (l0 : List Int) (A1 : Option Addr) (c1 : Nat) (l1 : List Int) (r : Bool) (w : World) (hr0 : Kd.C (Kd.int .i64) w A0 l0.length l0) (hc0 : l0.length ≤ c0) (hr1 : Kd.C (Kd.int .i64) w A1 l1.length l1) (hc1 : l1.length ≤ c1) (h : laws_eqIntS.f k l0 l1 = some r) :
  Calls Try.prog 47 #[.slice A0 l0.length c0, .slice A1 l1.length c1] w fun e w' => e = .returned (.bool r) ∧ Drawn0 w w' := by
 have HR0 := Aside0.mk hr0; have HC0 := Aside0.mk hc0; clear hr0 hc0; have HR1 := Aside0.mk hr1; have HC1 := Aside0.mk hc1; clear hr1 hc1; have H : (if (l0.length : Int) = (l1.length : Int) then (laws_eqIntS.l0 k l0 l1 0) else (some false)) = some r := h; clear h
 by_cases c3 : (l0.length : Int) = (l1.length : Int)
 ·rw [if_pos c3] at H; have c3b0 : ((l0.length : Int) == (l1.length : Int)) = true := beq_iff_eq.mpr c3; have c3b1 : ((l0.length : Int) != (l1.length : Int)) = false := bne_eq_false_iff_eq.mpr c3
  have c3b2 : (l0.length == l1.length) = true := by first | simpa using c3 | (simp at c3 ⊢; omega)
  clear c3; have H' := Aside0.mk H; clear H
  go_enter Try.func47, Try.ntmps47
  go_wp2
  repeat (go_quiet (fail); try go_wp2)
  go_loopg [5] k (fun kq v5 w' => ∃ (x5_1 : Int), v5 = .int .i64 x5_1 ∧ Aside0 (laws_eqIntS.l0 kq l0 l1 x5_1 = some r) ∧ Aside0 (kq ≤ k) ∧ Drawn0 w w')
  case atStart => exact ⟨(0), (by first | rfl | (simp; done) | (simp [*]; done) | (rw [Int.tmod_eq_emod_of_nonneg (Int.natCast_nonneg _)]; done)), H', ⟨Nat.le_refl _⟩, by repeat (first | exact Drawn0.refl _ | apply Drawn0.step)⟩
  case round =>
   clear H'
   try clear c1
   try clear p2
   try clear c3
   try clear c3b0
   try clear c3b1
   try clear c3b2
   obtain ⟨x5_1, rfl, HA, HK1, ⟨m1, rfl⟩⟩ := hrel
   cases gk with
   | zero => exact absurd HA.out (by simp [laws_eqIntS.l0])
   | succ k1 =>
    have H := HA.out; clear HA; simp only [laws_eqIntS.l0] at H
    by_cases c4 : x5_1 < (l0.length : Int)
    ·rw [if_pos c4] at H; have c4b0 : decide (x5_1 < (l0.length : Int)) = true := decide_eq_true c4; clear c4
     by_cases c5 : 0 ≤ x5_1
     ·rw [if_pos c5] at H; have c5b0 : decide (0 ≤ x5_1) = true := decide_eq_true c5; clear c5
      by_cases c6 : x5_1 < (l1.length : Int)
      ·rw [if_pos c6] at H; have c6b0 : decide (x5_1 < (l1.length : Int)) = true := decide_eq_true c6; clear c6
       by_cases c7 : (rd l0 x5_1) = (rd l1 x5_1)
       ·rw [if_pos c7] at H; have c7b0 : ((rd l0 x5_1) == (rd l1 x5_1)) = true := beq_iff_eq.mpr c7; have c7b1 : ((rd l0 x5_1) != (rd l1 x5_1)) = false := bne_eq_false_iff_eq.mpr c7; clear c7; have H' := Aside0.mk H; clear H; have p289 : 0 ≤ (x5_1 : Int) := oD; have q289 : x5_1 < (l0.length : Int) := oD; obtain ⟨ad289, e289, hx289_0⟩ := Kd.at_int HR0.out x5_1 p289 q289
        cases e289
        replace p289 := eq_true p289; replace q289 := eq_true q289; have p290 : 0 ≤ (x5_1 : Int) := oD; have q290 : x5_1 < (l1.length : Int) := oD; obtain ⟨ad290, e290, hx290_0⟩ := Kd.at_int HR1.out x5_1 p290 q290
        cases e290
        replace p290 := eq_true p290; replace q290 := eq_true q290
        go_wp2
        repeat (go_quiet (fail); try go_wp2)
        go_roundg k1
        case measure => have := HK1.out; omega
        case rel => exact ⟨(wrap64 (x5_1 + 1)), (by first | rfl | (simp; done) | (simp [*]; done) | (rw [Int.tmod_eq_emod_of_nonneg (Int.natCast_nonneg _)]; done)), H', ⟨by have := HK1.out; omega⟩, by repeat (first | exact Drawn0.refl _ | apply Drawn0.step)⟩
       ·rw [if_neg c7] at H; have c7b0 : ((rd l0 x5_1) == (rd l1 x5_1)) = false := beq_eq_false_iff_ne.mpr c7; have c7b1 : ((rd l0 x5_1) != (rd l1 x5_1)) = true := bne_iff_ne.mpr c7; obtain rfl := Option.some.inj H; have p289 : 0 ≤ (x5_1 : Int) := oD; have q289 : x5_1 < (l0.length : Int) := oD; obtain ⟨ad289, e289, hx289_0⟩ := Kd.at_int HR0.out x5_1 p289 q289
        cases e289
        replace p289 := eq_true p289; replace q289 := eq_true q289; have p290 : 0 ≤ (x5_1 : Int) := oD; have q290 : x5_1 < (l1.length : Int) := oD; obtain ⟨ad290, e290, hx290_0⟩ := Kd.at_int HR1.out x5_1 p290 q290
        cases e290
        replace p290 := eq_true p290; replace q290 := eq_true q290
        go_wp2
        repeat (go_quiet (fail); try go_wp2)
        go_ret; exact ⟨by first | rfl | (simp; done) | (simp [*]; done), by repeat (first | exact Drawn0.refl _ | apply Drawn0.step)⟩
      ·rw [if_neg c6] at H; exact absurd H (by simp)
     ·rw [if_neg c5] at H; exact absurd H (by simp)
    ·rw [if_neg c4] at H; have c4b0 : decide (x5_1 < (l0.length : Int)) = false := decide_eq_false c4; clear c4; obtain rfl := Option.some.inj H
     go_wp2
     repeat (go_quiet (fail); try go_wp2)
     go_ret; exact ⟨by first | rfl | (simp; done) | (simp [*]; done), by repeat (first | exact Drawn0.refl _ | apply Drawn0.step)⟩
 ·rw [if_neg c3] at H; have c3b0 : ((l0.length : Int) == (l1.length : Int)) = false := beq_eq_false_iff_ne.mpr c3; have c3b1 : ((l0.length : Int) != (l1.length : Int)) = true := bne_iff_ne.mpr c3
  have c3b2 : (l0.length == l1.length) = false := by first | simpa using c3 | (simp at c3 ⊢; omega)
  obtain rfl := Option.some.inj H
  go_enter Try.func47, Try.ntmps47
  go_wp2
  repeat (go_quiet (fail); try go_wp2)
  go_ret; exact ⟨by first | rfl | (simp; done) | (simp [*]; done), by repeat (first | exact Drawn0.refl _ | apply Drawn0.step)⟩


/-! ### laws_markIntS: function 48 -/
def laws_markIntS.l0 : Nat → List Int → Int → Int → Option (Int × List Int)
 | 0, _, _, _ => none
 | k + 1, x0, x1, x5 => if x5 < (x0.length : Int) then (if 0 ≤ x5 then (laws_markIntS.l0 k (x0.set (x5 : Int).toNat x1) (wrap64 (x1 + 1)) (wrap64 (x5 + 1))) else (none)) else (some (x1, x0))
def laws_markIntS.f (k : Nat) (l0 : List Int) (a1 : Int) : Option (Int × List Int) := laws_markIntS.l0 k l0 a1 0
theorem laws_markIntS.mono_l : ∀ k, (∀ y0 y1 y2, LeO (laws_markIntS.l0 k y0 y1 y2) (laws_markIntS.l0 (k + 1) y0 y1 y2))
 | 0 => fun _ _ _ r h => by simp [laws_markIntS.l0] at h
 | k + 1 => by
  have ih0 := laws_markIntS.mono_l k
  ·intro y0 y1 y2
   unfold laws_markIntS.l0
   repeat' first
   | (with_reducible exact ih0 _ _ _)
   | (with_reducible exact LeO.refl _)
   | (with_reducible exact LeO.none _)
   | (with_reducible refine LeO.ite ?_ ?_)
   | (with_reducible refine LeO.bind ?_ (fun _ => ?_))
   | exact ih0 _ _ _
   | exact LeO.none _
   | refine LeO.ite ?_ ?_
   | refine LeO.bind ?_ (fun _ => ?_)
theorem laws_markIntS.mono : ∀ a0 a1 k, LeO (laws_markIntS.f k a0 a1) (laws_markIntS.f (k + 1) a0 a1) := by
 intro a0 a1 k
 have ih0 := laws_markIntS.mono_l k
 unfold laws_markIntS.f
 repeat' first
   | (with_reducible exact ih0 _ _ _)
   | (with_reducible exact LeO.refl _)
   | (with_reducible exact LeO.none _)
   | (with_reducible refine LeO.ite ?_ ?_)
   | (with_reducible refine LeO.bind ?_ (fun _ => ?_))
   | exact ih0 _ _ _
   | exact LeO.none _
   | refine LeO.ite ?_ ?_
   | refine LeO.bind ?_ (fun _ => ?_)
open Go.Proofs.Ytlallflpicgcmaa.Short2 in
set_option maxHeartbeats 8000000 in
set_option maxRecDepth 100000 in
theorem laws_markIntS.calls (k : Nat) (P0_ : Nat → Prop) (u9000_ : Value) (l0 : List Int) (a1 : Int) (r1 : Int) (r2 : List Int) (w0 w : World) (hB : Below w0.heap.size w0 w) (ho0 : Kd.R (Kd.int .i64) 3 w w0.heap.size P0_ u9000_ l0) (h : laws_markIntS.f k l0 a1 = some (r1, r2)) :
  Calls Try.prog 48 #[u9000_, .int .i64 a1] w fun e w' => e = .returned (.int .i64 r1) ∧ Kd.R (Kd.int .i64) 3 w' w0.heap.size (fun k_ => (P0_ k_ ∨ w.heap.size ≤ k_)) u9000_ r2 ∧ Below w0.heap.size w0 w' ∧ Kept w w' (fun k_ => P0_ k_) := by
 have HO0 := Aside0.mk (show Kd.R (Kd.int .i64) 3 w w0.heap.size (fun k_ => (P0_ k_ ∨ w.heap.size ≤ k_)) u9000_ l0 from Kd.R_mono ho0 (fun k_ hk => (.inl hk))); have HK := Aside0.mk (Kept.refl w (fun k_ => P0_ k_)); have HW0 := Aside0.mk hB.size; have HB := Aside0.mk hB; clear hB; have H : (laws_markIntS.l0 k l0 a1 0) = some (r1, r2) := h; clear h; have H' := Aside0.mk H; clear H
 go_enter Try.func48, Try.ntmps48
 go_wp2
 go_loopg [1, 5] k (fun kq v1 v5 w' => ∃ (x0_1 : List Int) (x1_1 : Int) (x5_1 : Int), v1 = .int .i64 x1_1 ∧ v5 = .int .i64 x5_1 ∧ Aside0 (laws_markIntS.l0 kq x0_1 x1_1 x5_1 = some (r1, r2)) ∧ Aside0 (kq ≤ k) ∧ Aside0 (Kd.R (Kd.int .i64) 3 w' w0.heap.size (fun k_ => (P0_ k_ ∨ w.heap.size ≤ k_)) u9000_ x0_1) ∧ Aside0 (Kept w w' (fun k_ => P0_ k_)) ∧ Aside0 (Below w0.heap.size w0 w'))
 case atStart => exact ⟨(l0), (a1), (0), (by first | rfl | (simp; done) | (simp [*]; done) | (rw [Int.tmod_eq_emod_of_nonneg (Int.natCast_nonneg _)]; done)), (by first | rfl | (simp; done) | (simp [*]; done) | (rw [Int.tmod_eq_emod_of_nonneg (Int.natCast_nonneg _)]; done)), H', ⟨Nat.le_refl _⟩, ⟨zR HO0.out⟩, ⟨by repeat (first | (with_reducible first | exact HK.out | apply Kept.alloc | apply Kept.drewN | apply Kept.drew) | exact HK.out)⟩, ⟨zS HB.out⟩⟩
 case round =>
  clear H'
  try clear p2
  obtain ⟨x0_1, x1_1, x5_1, rfl, rfl, HA, HK1, HO_0, HK, HB⟩ := hrel
  cases gk with
  | zero => exact absurd HA.out (by simp [laws_markIntS.l0])
  | succ k1 =>
   have H := HA.out; clear HA; simp only [laws_markIntS.l0] at H
   by_cases c3 : x5_1 < (x0_1.length : Int)
   ·rw [if_pos c3] at H; have c3b0 : decide (x5_1 < (x0_1.length : Int)) = true := decide_eq_true c3; clear c3
    by_cases c4 : 0 ≤ x5_1
    ·rw [if_pos c4] at H; have c4b0 : decide (0 ≤ x5_1) = true := decide_eq_true c4; clear c4; obtain ⟨y291, hy291⟩ : ∃ y_ : List Int, y_ = (x0_1.set (x5_1 : Int).toNat x1_1) := ⟨_, rfl⟩
     replace H : (laws_markIntS.l0 k1 y291 (wrap64 (x1_1 + 1)) (wrap64 (x5_1 + 1))) = some (r1, r2) := by first | (rw [hy291]; with_reducible exact H) | (have H2_ := (Option.bind_some _ _).symm.trans H; rw [hy291]; with_reducible exact H2_) | (have H2_ := (Option.bind_some _ _).symm.trans H; with_reducible exact H2_) | with_reducible exact H | (rw [hy291]; exact H) | exact H
     have Ny291 := Aside0.mk hy291; clear hy291; have H' := Aside0.mk H; clear H; obtain ⟨Ao6, co6, eo6⟩ := Kd.R_slice HO_0.out; subst eo6; have p5 : 0 ≤ (x5_1 : Int) := oD; have q5 : (x5_1 : Int) < ((x0_1.length : Int) : Int) := oD; obtain ⟨go5, co5, eo5, gb5, gl5, cl5, HG5⟩ := Kd.R_form HO_0.out (by omega)
     (first | cases eo5 | (injection eo5 with ea_ en_ ec_; (first | subst ea_ | (injection ea_ with ea_; subst ea_)); subst ec_; clear en_))
     have GB5 := Aside0.mk gb5; have GG5 := Aside0.mk HG5; clear gb5 gl5 HG5; have HMgo5 := Aside0.mk (show (P0_ go5 ∨ w.heap.size ≤ go5) from (HO_0.out.1 _ rfl)); obtain ⟨hx5_0, hf5_0⟩ := Kd.R_celln 0 HO_0.out (x5_1 : Int) p5 q5; replace p5 := eq_true p5; replace q5 := eq_true q5; have HP7 := Kd.R_putg HO_0.out (x5_1 : Int) x1_1
     go_wp2_with (first | ((with_reducible refine gate_store (t := 3) (p := 15) rfl ?_); refine store_event (t := 3) (p := 15) (v := ?vo_w8) (w1 := (wr.setCell ⟨go5, (x5_1 : Int).toNat, none⟩ (.int .i64 x1_1))) ?hg ?ho ?hn ?hr ?_; (case ho => rfl); (case hg => rfl); (case hn => rfl); (case hr => first | (go_simp; done) | (go_simp; rfl)); intro w8 hw; have hg : wr.grownBy w8 (some go5) := (by rw [hw]; exact HP7.2); have hp_ : Kd.R (Kd.int .i64) 3 w8 w0.heap.size (fun k_ => (P0_ k_ ∨ w.heap.size ≤ k_)) (.slice (some ⟨go5, 0, none⟩) x0_1.length co6) y291 := (by rw [hw, Ny291.out]; exact HP7.1); clear HP7; have n0_ := Aside0.mk (hp_); have n1_ := Aside0.mk ((by rw [hw]; exact below_set (HB.out) GB5.out : Below w0.heap.size w0 w8)); have n2_ := Aside0.mk (Kept.of_grown (S := (fun k_ => P0_ k_)) hg (by repeat (first | (with_reducible first | exact HK.out | apply Kept.alloc | apply Kept.drewN | apply Kept.drew) | exact HK.out)) (fun k_ e_ => (HO_0.out.1 k_ e_))); clear HO_0; clear HB; clear HK; have HO_0 := n0_; have HB := n1_; have HK := n2_; clear n0_ n1_ n2_; clear hg hw hp_))
     go_roundg k1
     case measure => have := HK1.out; omega
     case rel => exact ⟨(y291), (wrap64 (x1_1 + 1)), (wrap64 (x5_1 + 1)), (by first | rfl | (simp; done) | (simp [*]; done) | (rw [Int.tmod_eq_emod_of_nonneg (Int.natCast_nonneg _)]; done)), (by first | rfl | (simp; done) | (simp [*]; done) | (rw [Int.tmod_eq_emod_of_nonneg (Int.natCast_nonneg _)]; done)), H', ⟨by have := HK1.out; omega⟩, ⟨zR HO_0.out⟩, ⟨by repeat (first | (with_reducible first | exact HK.out | apply Kept.alloc | apply Kept.drewN | apply Kept.drew) | exact HK.out)⟩, ⟨zS HB.out⟩⟩
    ·rw [if_neg c4] at H; exact absurd H (by simp)
   ·rw [if_neg c3] at H; have c3b0 : decide (x5_1 < (x0_1.length : Int)) = false := decide_eq_false c3; clear c3; simp only [Option.some.injEq, Prod.mk.injEq] at H; obtain ⟨rfl, rfl⟩ := H; obtain ⟨Ao9, co9, eo9⟩ := Kd.R_slice HO_0.out; subst eo9
    go_wp2
    go_ret; exact ⟨by first | rfl | (simp [errW_none, errW_some] <;> rfl) | (simp [*, errW_none, errW_some] <;> rfl), by (with_reducible repeat (first | apply Kd.R_alloc | apply Kd.R_drewN | apply Kd.R_drew)); exact HO_0.out, by repeat (first | (with_reducible first | exact HB.out | apply below_alloc | apply pw_below_drewN | apply below_drew1) | exact HB.out), by repeat (first | (with_reducible first | exact HK.out | apply Kept.alloc | apply Kept.drewN | apply Kept.drew) | exact HK.out)⟩


/-! ### laws_heldIntS: function 49 -/
def laws_heldIntS.l0 : Nat → List Int → Int → Int → Option (Int)
 | 0, _, _, _ => none
 | k + 1, x0, x1, x5 => if x5 < (x0.length : Int) then (if 0 ≤ x5 then (if (rd x0 x5) = x1 then (laws_heldIntS.l0 k x0 (wrap64 (x1 + 1)) (wrap64 (x5 + 1))) else (some (-1))) else (none)) else (some x1)
def laws_heldIntS.f (k : Nat) (l0 : List Int) (a1 : Int) : Option (Int) := laws_heldIntS.l0 k l0 a1 0
theorem laws_heldIntS.mono_l : ∀ k, (∀ y0 y1 y2, LeO (laws_heldIntS.l0 k y0 y1 y2) (laws_heldIntS.l0 (k + 1) y0 y1 y2))
 | 0 => fun _ _ _ r h => by simp [laws_heldIntS.l0] at h
 | k + 1 => by
  have ih0 := laws_heldIntS.mono_l k
  ·intro y0 y1 y2
   unfold laws_heldIntS.l0
   repeat' first
   | (with_reducible exact ih0 _ _ _)
   | (with_reducible exact LeO.refl _)
   | (with_reducible exact LeO.none _)
   | (with_reducible refine LeO.ite ?_ ?_)
   | (with_reducible refine LeO.bind ?_ (fun _ => ?_))
   | exact ih0 _ _ _
   | exact LeO.none _
   | refine LeO.ite ?_ ?_
   | refine LeO.bind ?_ (fun _ => ?_)
theorem laws_heldIntS.mono : ∀ a0 a1 k, LeO (laws_heldIntS.f k a0 a1) (laws_heldIntS.f (k + 1) a0 a1) := by
 intro a0 a1 k
 have ih0 := laws_heldIntS.mono_l k
 unfold laws_heldIntS.f
 repeat' first
   | (with_reducible exact ih0 _ _ _)
   | (with_reducible exact LeO.refl _)
   | (with_reducible exact LeO.none _)
   | (with_reducible refine LeO.ite ?_ ?_)
   | (with_reducible refine LeO.bind ?_ (fun _ => ?_))
   | exact ih0 _ _ _
   | exact LeO.none _
   | refine LeO.ite ?_ ?_
   | refine LeO.bind ?_ (fun _ => ?_)
open Go.Proofs.Ytlallflpicgcmaa.Short2 in
set_option maxHeartbeats 8000000 in
set_option maxRecDepth 100000 in
theorem laws_heldIntS.calls (k : Nat) (A0 : Option Addr) (c0 : Nat) (l0 : List Int) (a1 : Int) (r : Int) (w : World) (hr0 : Kd.C (Kd.int .i64) w A0 l0.length l0) (hc0 : l0.length ≤ c0) (h : laws_heldIntS.f k l0 a1 = some r) :
  Calls Try.prog 49 #[.slice A0 l0.length c0, .int .i64 a1] w fun e w' => e = .returned (.int .i64 r) ∧ Drawn0 w w' := by
 have HR0 := Aside0.mk hr0; have HC0 := Aside0.mk hc0; clear hr0 hc0; have H : (laws_heldIntS.l0 k l0 a1 0) = some r := h; clear h; have H' := Aside0.mk H; clear H
 go_enter Try.func49, Try.ntmps49
 go_wp2
 go_loopg [1, 5] k (fun kq v1 v5 w' => ∃ (x1_1 : Int) (x5_1 : Int), v1 = .int .i64 x1_1 ∧ v5 = .int .i64 x5_1 ∧ Aside0 (laws_heldIntS.l0 kq l0 x1_1 x5_1 = some r) ∧ Aside0 (kq ≤ k) ∧ Drawn0 w w')
 case atStart => exact ⟨(a1), (0), (by first | rfl | (simp; done) | (simp [*]; done) | (rw [Int.tmod_eq_emod_of_nonneg (Int.natCast_nonneg _)]; done)), (by first | rfl | (simp; done) | (simp [*]; done) | (rw [Int.tmod_eq_emod_of_nonneg (Int.natCast_nonneg _)]; done)), H', ⟨Nat.le_refl _⟩, by repeat (first | exact Drawn0.refl _ | apply Drawn0.step)⟩
 case round =>
  clear H'
  try clear p2
  obtain ⟨x1_1, x5_1, rfl, rfl, HA, HK1, ⟨m1, rfl⟩⟩ := hrel
  cases gk with
  | zero => exact absurd HA.out (by simp [laws_heldIntS.l0])
  | succ k1 =>
   have H := HA.out; clear HA; simp only [laws_heldIntS.l0] at H
   by_cases c3 : x5_1 < (l0.length : Int)
   ·rw [if_pos c3] at H; have c3b0 : decide (x5_1 < (l0.length : Int)) = true := decide_eq_true c3; clear c3
    by_cases c4 : 0 ≤ x5_1
    ·rw [if_pos c4] at H; have c4b0 : decide (0 ≤ x5_1) = true := decide_eq_true c4; clear c4
     by_cases c5 : (rd l0 x5_1) = x1_1
     ·rw [if_pos c5] at H; have c5b0 : ((rd l0 x5_1) == x1_1) = true := beq_iff_eq.mpr c5; have c5b1 : ((rd l0 x5_1) != x1_1) = false := bne_eq_false_iff_eq.mpr c5; clear c5; have H' := Aside0.mk H; clear H; have p292 : 0 ≤ (x5_1 : Int) := oD; have q292 : x5_1 < (l0.length : Int) := oD; obtain ⟨ad292, e292, hx292_0⟩ := Kd.at_int HR0.out x5_1 p292 q292
      cases e292
      replace p292 := eq_true p292; replace q292 := eq_true q292
      go_wp2
      go_roundg k1
      case measure => have := HK1.out; omega
      case rel => exact ⟨(wrap64 (x1_1 + 1)), (wrap64 (x5_1 + 1)), (by first | rfl | (simp; done) | (simp [*]; done) | (rw [Int.tmod_eq_emod_of_nonneg (Int.natCast_nonneg _)]; done)), (by first | rfl | (simp; done) | (simp [*]; done) | (rw [Int.tmod_eq_emod_of_nonneg (Int.natCast_nonneg _)]; done)), H', ⟨by have := HK1.out; omega⟩, by repeat (first | exact Drawn0.refl _ | apply Drawn0.step)⟩
     ·rw [if_neg c5] at H; have c5b0 : ((rd l0 x5_1) == x1_1) = false := beq_eq_false_iff_ne.mpr c5; have c5b1 : ((rd l0 x5_1) != x1_1) = true := bne_iff_ne.mpr c5; obtain rfl := Option.some.inj H; have p292 : 0 ≤ (x5_1 : Int) := oD; have q292 : x5_1 < (l0.length : Int) := oD; obtain ⟨ad292, e292, hx292_0⟩ := Kd.at_int HR0.out x5_1 p292 q292
      cases e292
      replace p292 := eq_true p292; replace q292 := eq_true q292
      go_wp2
      go_ret; exact ⟨by first | rfl | (simp; done) | (simp [*]; done), by repeat (first | exact Drawn0.refl _ | apply Drawn0.step)⟩
    ·rw [if_neg c4] at H; exact absurd H (by simp)
   ·rw [if_neg c3] at H; have c3b0 : decide (x5_1 < (l0.length : Int)) = false := decide_eq_false c3; clear c3; obtain rfl := Option.some.inj H
    go_wp2
    go_ret; exact ⟨by first | rfl | (simp; done) | (simp [*]; done), by repeat (first | exact Drawn0.refl _ | apply Drawn0.step)⟩

end Go.Proofs.Ytlallflpicgcmaa.MFnExactAutoTrim
