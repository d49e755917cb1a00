-- Written by a program of this session, out of Lean's print of the translation. Not trusted: Lean checks it.
import Derived.Test.YtigmokdcanebeaaMFnExactAutoMakex0
import Derived.Test.YtigmokdcanebeaaMFnExactAutoMakex5
namespace Go.Proofs.Ytigmokdcanebeaa.MFnExactAutoMake
open Go.RowKit Go.Proofs.YtigmokdcanebeaaW.PrintWords Go.Proofs.YtigmokdcanebeaaW.PrintLast Go.Proofs.YtigmokdcanebeaaW.PrintMore
attribute [local go_sem] max2_int min2_int max_two min_two max_three min_three max_four min_four   -- for this text's walks alone
set_option linter.unusedVariables false
set_option linter.unusedSimpArgs false


/-! ### laws_toEdgeS: function 12 -/
def laws_toEdgeS.l0 : Nat → List (S57) → List (S33) → Int → Option ((List (S33)))
 | 0, _, _, _ => none
 | k + 1, x0, x3, x4 => if x4 < (x0.length : Int) then (if 0 ≤ x4 then ((laws_toEdge.f ((rd_T57 x0 x4).f0) ((rd_T57 x0 x4).f1) ((rd_T57 x0 x4).f2) ((rd_T57 x0 x4).f3)).bind fun bt205 => (if x4 < (x3.length : Int) then (laws_toEdgeS.l0 k x0 (x3.set (x4 : Int).toNat (⟨bt205.1, bt205.2.1, bt205.2.2.1, bt205.2.2.2⟩ : S33)) (wrap64 (x4 + 1))) else (none))) else (none)) else (some x3)
def laws_toEdgeS.f (k : Nat) (l0 : List (S57)) : Option ((List (S33))) := if 0 ≤ (l0.length : Int) then (if ((l0.length : Int) : Int).toNat ≤ 8796093022208 then (laws_toEdgeS.l0 k l0 (List.replicate ((l0.length : Int) : Int).toNat z33) 0) else (none)) else (none)
theorem laws_toEdgeS.mono_l : ∀ k, (∀ y0 y1 y2, LeO (laws_toEdgeS.l0 k y0 y1 y2) (laws_toEdgeS.l0 (k + 1) y0 y1 y2))
 | 0 => fun _ _ _ r h => by simp [laws_toEdgeS.l0] at h
 | k + 1 => by
  have ih0 := laws_toEdgeS.mono_l k
  ·intro y0 y1 y2
   unfold laws_toEdgeS.l0
   repeat' first
   | (with_reducible exact ih0 _ _ _)
   | (with_reducible exact LeO.refl _)
   | (with_reducible exact LeO.none _)
   | (with_reducible refine LeO.ite ?_ ?_)
   | (with_reducible refine LeO.bind ?_ (fun _ => ?_))
   | exact ih0 _ _ _
   | exact LeO.none _
   | refine LeO.ite ?_ ?_
   | refine LeO.bind ?_ (fun _ => ?_)
theorem laws_toEdgeS.mono : ∀ a0 k, LeO (laws_toEdgeS.f k a0) (laws_toEdgeS.f (k + 1) a0) := by
 intro a0 k
 have ih0 := laws_toEdgeS.mono_l k
 unfold laws_toEdgeS.f
 repeat' first
   | (with_reducible exact ih0 _ _ _)
   | (with_reducible exact LeO.refl _)
   | (with_reducible exact LeO.none _)
   | (with_reducible refine LeO.ite ?_ ?_)
   | (with_reducible refine LeO.bind ?_ (fun _ => ?_))
   | exact ih0 _ _ _
   | exact LeO.none _
   | refine LeO.ite ?_ ?_
   | refine LeO.bind ?_ (fun _ => ?_)
open Go.Proofs.Ytigmokdcanebeaa.Short2 in
set_option maxHeartbeats 8000000 in
set_option maxRecDepth 100000 in
theorem laws_toEdgeS.calls (k : Nat) (A0 : Option Addr) (c0 : Nat) (l0 : List (S57)) (r : List (S33)) (w : World) (hr0 : Kd.C k57 w A0 l0.length l0) (hc0 : l0.length ≤ c0) (h : laws_toEdgeS.f k l0 = some r) :
  Calls Try.prog 12 #[.slice A0 l0.length c0] w fun e w' => ∃ v0_ : Value, e = .returned (v0_) ∧ Kd.R k33 33 w' w.heap.size (fun _ => True) v0_ r ∧ Below w.heap.size w w' := by
 have hu57 := Try.underlying57; have hu33 := Try.underlying33; have HR0 := Aside0.mk hr0; have HC0 := Aside0.mk hc0; clear hr0 hc0; have HB := Aside0.mk (Below.refl w.heap.size w); have H : (if 0 ≤ (l0.length : Int) then (if ((l0.length : Int) : Int).toNat ≤ 8796093022208 then (laws_toEdgeS.l0 k l0 (List.replicate ((l0.length : Int) : Int).toNat z33) 0) else (none)) else (none)) = some r := h; clear h
 by_cases c2 : 0 ≤ (l0.length : Int)
 ·rw [if_pos c2] at H; have c2b0 := eq_true c2; have c2b1 : decide (0 ≤ (l0.length : Int)) = true := decide_eq_true c2; clear c2
  by_cases c3 : ((l0.length : Int) : Int).toNat ≤ 8796093022208
  ·rw [if_pos c3] at H; have c3b0 := eq_true c3; have c3b1 : decide (((l0.length : Int) : Int).toNat ≤ 8796093022208) = true := decide_eq_true c3; clear c3; obtain ⟨y201, hy201⟩ : ∃ y_ : List (S33), y_ = (List.replicate ((l0.length : Int) : Int).toNat z33) := ⟨_, rfl⟩
   replace H : (laws_toEdgeS.l0 k l0 y201 0) = some r := by first | (rw [hy201]; with_reducible exact H) | (have H2_ := (Option.bind_some _ _).symm.trans H; rw [hy201]; with_reducible exact H2_) | (have H2_ := (Option.bind_some _ _).symm.trans H; with_reducible exact H2_) | with_reducible exact H | (rw [hy201]; exact H) | exact H
   have Ny201 := Aside0.mk hy201; clear hy201; have H' := Aside0.mk H; clear H
   go_enter Try.func12, Try.ntmps12
   go_wp2_with (first | ((with_reducible refine gate_dst (N := 7) rfl ?_); refine Kd.R_make k33 _ 33 rfl (N := 7) rfl 24 _ _ rfl (l0.length : Int) rfl rfl Try.underlying24 (.agg #[(.int .i64 0), (.int .i64 0), (.int .i64 0), (.bool false)]) 32 info33 rfl (by decide) (by omega) z33 (ok := fun _ => True) (okp := fun _ => True) (k33_mkM _ _ _ z33 ) (fun _ hk => hk) trivial (of_decide_eq_true (by first | (with_reducible assumption) | assumption)) (Nat.le_trans (Nat.mul_le_mul_right _ (of_decide_eq_true (by first | (with_reducible assumption) | assumption) : (l0.length : Int).toNat ≤ 8796093022208)) (by omega)) (Below.refl _ _) (Nat.le_refl _) ?_; intro v202 w4 ho5 hb hg_ hnew_; clear hg_ hnew_; (first | rw [← Ny201.out] at ho5 | (simp only [Int.reduceToNat] at ho5; rw [← Ny201.out] at ho5)); have HO203 := Aside0.mk (Kd.R_lower ho5 (below_size (zS HB.out))); replace HB := xS HB hb; clear hb ho5))
   go_loopg [4] k (fun kq v4 w' => ∃ (x3_1 : List (S33)) (x4_1 : Int), v4 = .int .i64 x4_1 ∧ Aside0 (laws_toEdgeS.l0 kq l0 x3_1 x4_1 = some r) ∧ Aside0 (kq ≤ k) ∧ Aside0 (Kd.R k33 33 w' w.heap.size (fun _ => True) v202 x3_1) ∧ Aside0 (Below w.heap.size w w'))
   case atStart => exact ⟨(y201), (0), (by first | rfl | (simp; done) | (simp [*]; done) | (rw [Int.tmod_eq_emod_of_nonneg (Int.natCast_nonneg _)]; done)), H', ⟨Nat.le_refl _⟩, ⟨zR HO203.out⟩, ⟨zS HB.out⟩⟩
   case round =>
    clear H'
    try clear c1
    try clear c2
    try clear c2b0
    try clear c2b1
    try clear p2
    try clear c3
    try clear c3b0
    try clear c3b1
    obtain ⟨x3_1, x4_1, rfl, HA, HK1, HO_3, HB⟩ := hrel
    cases gk with
    | zero => exact absurd HA.out (by simp [laws_toEdgeS.l0])
    | succ k1 =>
     have H := HA.out; clear HA; simp only [laws_toEdgeS.l0] at H
     by_cases c6 : x4_1 < (l0.length : Int)
     ·rw [if_pos c6] at H; have c6b0 : decide (x4_1 < (l0.length : Int)) = true := decide_eq_true c6; clear c6
      by_cases c7 : 0 ≤ x4_1
      ·rw [if_pos c7] at H; have c7b0 : decide (0 ≤ x4_1) = true := decide_eq_true c7; clear c7; replace H := Option.bind_eq_some_iff.mp H; obtain ⟨⟨t205, t206, t207, t208⟩, A80, H⟩ := H; replace H : (if x4_1 < (x3_1.length : Int) then (laws_toEdgeS.l0 k1 l0 (x3_1.set (x4_1 : Int).toNat (⟨t205, t206, t207, t208⟩ : S33)) (wrap64 (x4_1 + 1))) else (none)) = some r := H; have A8 := Aside0.mk A80; clear A80
       by_cases c9 : x4_1 < (x3_1.length : Int)
       ·rw [if_pos c9] at H; have c9b0 : decide (x4_1 < (x3_1.length : Int)) = true := decide_eq_true c9; clear c9; obtain ⟨y209, hy209⟩ : ∃ y_ : List (S33), y_ = (x3_1.set (x4_1 : Int).toNat (⟨t205, t206, t207, t208⟩ : S33)) := ⟨_, rfl⟩
        replace H : (laws_toEdgeS.l0 k1 l0 y209 (wrap64 (x4_1 + 1))) = some r := by first | (rw [hy209]; with_reducible exact H) | (have H2_ := (Option.bind_some _ _).symm.trans H; rw [hy209]; with_reducible exact H2_) | (have H2_ := (Option.bind_some _ _).symm.trans H; with_reducible exact H2_) | with_reducible exact H | (rw [hy209]; exact H) | exact H
        have Ny209 := Aside0.mk hy209; clear hy209; have H' := Aside0.mk H; clear H; have p204 : 0 ≤ (x4_1 : Int) := of_decide_eq_true (by first | (with_reducible assumption) | assumption); have q204 : x4_1 < (l0.length : Int) := of_decide_eq_true (by first | (with_reducible assumption) | assumption); obtain ⟨ad204, e204, hx204_0, hx204_1, hx204_2, hx204_3⟩ := at_T57 HR0.out x4_1 p204 q204
        cases e204
        replace hx204_0 := (HB.out.cell (World.block_lt_of_cell? w _ hx204_0)).trans hx204_0; replace hx204_1 := (HB.out.cell (World.block_lt_of_cell? w _ hx204_1)).trans hx204_1; replace hx204_2 := (HB.out.cell (World.block_lt_of_cell? w _ hx204_2)).trans hx204_2; replace hx204_3 := (HB.out.cell (World.block_lt_of_cell? w _ hx204_3)).trans hx204_3; replace p204 := eq_true p204; replace q204 := eq_true q204
        go_wp2_with (first | ((with_reducible refine gate_callee (f := 32) rfl ?_); refine goesL_ (some 20) rfl rfl Try.func32 (by kernel_rfl) rfl #[.agg #[.int .i64 ((rd_T57 l0 x4_1).f0), .int .i64 ((rd_T57 l0 x4_1).f1), .int .i64 ((rd_T57 l0 x4_1).f2), .bool ((rd_T57 l0 x4_1).f3)]] rfl (by (try simp only [m3]); first | done | rfl | (simp only [d2]; rfl)) ?_; (with_reducible refine (laws_toEdge.calls ((rd_T57 l0 x4_1).f0) ((rd_T57 l0 x4_1).f1) ((rd_T57 l0 x4_1).f2) ((rd_T57 l0 x4_1).f3) t205 t206 t207 t208 _ A8.out).mono ?_); rintro e w11 ⟨rfl, hb⟩; refine ⟨_, rfl, ?_⟩; replace HO_3 := xR HO_3 hb; replace HB := xS HB hb; (try clear hb); (try clear hb2); (try clear hk); (try clear hi); have p10 : 0 ≤ (x4_1 : Int) := of_decide_eq_true (by first | (with_reducible assumption) | assumption); have q10 : (x4_1 : Int) < ((x3_1.length : Int) : Int) := of_decide_eq_true (by first | (with_reducible assumption) | assumption); obtain ⟨go10, co10, eo10, gb10, gl10, cl10, HG10⟩ := Kd.R_form HO_3.out (by omega); (first | cases eo10 | (injection eo10 with ea_ en_ ec_; (first | subst ea_ | (injection ea_ with ea_; subst ea_)); subst ec_; clear en_)); have GB10 := Aside0.mk gb10; have GG10 := Aside0.mk HG10; clear gb10 gl10 HG10; obtain ⟨ce10, hcl10, hM10, hcc10, hfr10⟩ := Kd.R_elem HO_3.out z33 (x4_1 : Int) p10 q10; obtain rfl := k33_openM hM10; have hx10_0 : w11.cell? ⟨go10, (x4_1 : Int).toNat * 4, none⟩ = some (.int .i64 ((rd_T33 x3_1 x4_1).f0)) := hcc10 0 _ rfl; have hx10_1 : w11.cell? ⟨go10, (x4_1 : Int).toNat * 4 + 1, none⟩ = some (.int .i64 ((rd_T33 x3_1 x4_1).f1)) := hcc10 1 _ rfl; have hx10_2 : w11.cell? ⟨go10, (x4_1 : Int).toNat * 4 + 2, none⟩ = some (.int .i64 ((rd_T33 x3_1 x4_1).f2)) := hcc10 2 _ rfl; have hx10_3 : w11.cell? ⟨go10, (x4_1 : Int).toNat * 4 + 3, none⟩ = some (.bool ((rd_T33 x3_1 x4_1).f3)) := hcc10 3 _ rfl; have hf10_0 : w11.frozen? ⟨go10, (x4_1 : Int).toNat * 4, none⟩ = false := hfr10 0; have hf10_1 : w11.frozen? ⟨go10, (x4_1 : Int).toNat * 4 + 1, none⟩ = false := hfr10 1; have hf10_2 : w11.frozen? ⟨go10, (x4_1 : Int).toNat * 4 + 2, none⟩ = false := hfr10 2; have hf10_3 : w11.frozen? ⟨go10, (x4_1 : Int).toNat * 4 + 3, none⟩ = false := hfr10 3; clear hcl10 hcc10 hfr10 hM10; replace p10 := eq_true p10; replace q10 := eq_true q10; have HX12 := Aside0.mk (show Kd.R k33 33 w11 w.heap.size (fun _ => True) (.slice (some ⟨go10, 0, none⟩) x3_1.length co10) x3_1 from (zR HO_3.out)); obtain ⟨ce12, hcl12, hM12, hcc12, hfr12⟩ := Kd.R_elem HX12.out z33 (x4_1 : Int) (of_decide_eq_true (by first | (with_reducible assumption) | assumption)) (by have h_ : (x4_1 : Int) < ((x3_1.length : Int) : Int) := of_decide_eq_true (by first | (with_reducible assumption) | assumption); first | exact h_ | (have e_ := (Kd.R_reads' HO_3.out).1; omega) | simpa using h_); obtain rfl := k33_openM hM12; have HP12 := Kd.R_seg HX12.out (x4_1 : Int) (of_decide_eq_true (by first | (with_reducible assumption) | assumption)) (by have h_ : (x4_1 : Int) < ((x3_1.length : Int) : Int) := of_decide_eq_true (by first | (with_reducible assumption) | assumption); first | exact h_ | (have e_ := (Kd.R_reads' HO_3.out).1; omega) | simpa using h_) (seg := [.int .i64 t205, .int .i64 t206, .int .i64 t207, .bool t208]) (j := 0) hcl12 hcc12 (show 4 ≤ 4 from by decide) (x' := (⟨t205, t206, t207, t208⟩ : S33)) (k33_mkM _ _ _ (⟨t205, t206, t207, t208⟩ : S33) ) (fun _ hk => hk); have hx12_0 := hcc12 0 _ rfl; (try simp only [show (k33).sz = 4 from rfl, Nat.mul_one, Nat.add_zero] at hx12_0); have hf12_0 := hfr12 0; (try simp only [show (k33).sz = 4 from rfl, Nat.mul_one, Nat.add_zero] at hf12_0); have hx12_1 := hcc12 1 _ rfl; (try simp only [show (k33).sz = 4 from rfl, Nat.mul_one, Nat.add_zero] at hx12_1); have hf12_1 := hfr12 1; (try simp only [show (k33).sz = 4 from rfl, Nat.mul_one, Nat.add_zero] at hf12_1); have hx12_2 := hcc12 2 _ rfl; (try simp only [show (k33).sz = 4 from rfl, Nat.mul_one, Nat.add_zero] at hx12_2); have hf12_2 := hfr12 2; (try simp only [show (k33).sz = 4 from rfl, Nat.mul_one, Nat.add_zero] at hf12_2); have hx12_3 := hcc12 3 _ rfl; (try simp only [show (k33).sz = 4 from rfl, Nat.mul_one, Nat.add_zero] at hx12_3); have hf12_3 := hfr12 3; (try simp only [show (k33).sz = 4 from rfl, Nat.mul_one, Nat.add_zero] at hf12_3); clear hcl12 hcc12 hfr12 hM12) | ((with_reducible refine gate_store (t := 33) (p := 21) rfl ?_); refine store_event (t := 33) (p := 21) (v := ?vo_w13) (w1 := ((((w11.setCell ⟨go10, (x4_1 : Int).toNat * 4, none⟩ (.int .i64 t205)).setCell ⟨go10, (x4_1 : Int).toNat * 4 + 1, none⟩ (.int .i64 t206)).setCell ⟨go10, (x4_1 : Int).toNat * 4 + 2, none⟩ (.int .i64 t207)).setCell ⟨go10, (x4_1 : Int).toNat * 4 + 3, none⟩ (.bool t208))) ?hg ?ho ?hn ?hr ?_; (case ho => rfl); (case hg => rfl); (case hn => rfl); (case hr => first | (go_simp; done) | (go_simp; rfl)); intro w13 hw; have hg : w11.grownBy w13 (some go10) := (by rw [hw]; exact HP12.2); have hp_ : Kd.R k33 33 w13 w.heap.size (fun _ => True) (.slice (some ⟨go10, 0, none⟩) x3_1.length co10) y209 := (by rw [hw, Ny209.out]; exact HP12.1); clear HP12; replace HO_3 := Aside0.mk (hp_); replace HB := Aside0.mk ((by rw [hw]; exact below_set (below_set (below_set (below_set (HB.out) GB10.out) GB10.out) GB10.out) GB10.out : Below w.heap.size w w13)); clear hg hw hp_))
        go_roundg k1
        case measure => have := HK1.out; omega
        case rel => exact ⟨(y209), (wrap64 (x4_1 + 1)), (by first | rfl | (simp; done) | (simp [*]; done) | (rw [Int.tmod_eq_emod_of_nonneg (Int.natCast_nonneg _)]; done)), H', ⟨by have := HK1.out; omega⟩, ⟨zR HO_3.out⟩, ⟨zS HB.out⟩⟩
       ·rw [if_neg c9] at H; exact absurd H (by simp)
      ·rw [if_neg c7] at H; exact absurd H (by simp)
     ·rw [if_neg c6] at H; have c6b0 : decide (x4_1 < (l0.length : Int)) = false := decide_eq_false c6; clear c6; obtain rfl := Option.some.inj H
      go_wp2
      go_ret; exact ⟨_, by first | rfl | (simp [errW_none, errW_some] <;> rfl) | (simp [*, errW_none, errW_some] <;> rfl), by (with_reducible repeat (first | apply Kd.R_alloc | apply Kd.R_drewN | apply Kd.R_drew)); exact HO_3.out, by repeat (first | (with_reducible first | exact HB.out | apply below_alloc | apply pw_below_drewN | apply below_drew1) | exact HB.out)⟩
  ·rw [if_neg c3] at H; exact absurd H (by simp)
 ·rw [if_neg c2] at H; exact absurd H (by simp)


/-! ### laws_eqEdge: function 33 -/
def laws_eqEdge.f (a0_0 : Int) (a0_1 : Int) (a0_2 : Int) (a0_3 : Bool) (a1_0 : Int) (a1_1 : Int) (a1_2 : Int) (a1_3 : Bool) : Option (Bool) := if a0_0 = a1_0 then (if a0_1 = a1_1 then (if a0_2 = a1_2 then (if (a0_3 != a1_3) = true then (some false) else (some true)) else (some false)) else (some false)) else (some false)
open Go.Proofs.Ytigmokdcanebeaa.Short2 in
set_option maxHeartbeats 8000000 in
set_option maxRecDepth 100000 in
theorem laws_eqEdge.calls (a0_0 : Int) (a0_1 : Int) (a0_2 : Int) (a0_3 : Bool) (a1_0 : Int) (a1_1 : Int) (a1_2 : Int) (a1_3 : Bool) (r : Bool) (w : World) (h : laws_eqEdge.f a0_0 a0_1 a0_2 a0_3 a1_0 a1_1 a1_2 a1_3 = some r) :
  Calls Try.prog 33 #[.agg #[.int .i64 a0_0, .int .i64 a0_1, .int .i64 a0_2, .bool a0_3], .agg #[.int .i64 a1_0, .int .i64 a1_1, .int .i64 a1_2, .bool a1_3]] w fun e w' => e = .returned (.bool r) ∧ Below w.heap.size w w' := by
 have hu33 := Try.underlying33; have HB := Aside0.mk (Below.refl w.heap.size w); have H : (if a0_0 = a1_0 then (if a0_1 = a1_1 then (if a0_2 = a1_2 then (if (a0_3 != a1_3) = true then (some false) else (some true)) else (some false)) else (some false)) else (some false)) = some r := h; clear h
 by_cases c3 : a0_0 = a1_0
 ·rw [if_pos c3] at H; have c3b0 : (a0_0 == a1_0) = true := beq_iff_eq.mpr c3; have c3b1 : (a0_0 != a1_0) = false := bne_eq_false_iff_eq.mpr c3; clear c3
  by_cases c4 : a0_1 = a1_1
  ·rw [if_pos c4] at H; have c4b0 : (a0_1 == a1_1) = true := beq_iff_eq.mpr c4; have c4b1 : (a0_1 != a1_1) = false := bne_eq_false_iff_eq.mpr c4; clear c4
   by_cases c5 : a0_2 = a1_2
   ·rw [if_pos c5] at H; have c5b0 : (a0_2 == a1_2) = true := beq_iff_eq.mpr c5; have c5b1 : (a0_2 != a1_2) = false := bne_eq_false_iff_eq.mpr c5; clear c5
    by_cases c6 : (a0_3 != a1_3) = true
    ·rw [if_pos c6] at H; have c6b0 : (a0_3 != a1_3) = true := c6
     (try (have c6b1 : decide (a0_3 = a1_3) = false := by simpa using c6))
     (try (have c6b2 : (a0_3 == a1_3) = false := by simpa using c6))
     (try (have c6b3 : ¬ (a0_3 = a1_3) := by simpa using c6))
     clear c6; obtain rfl := Option.some.inj H
     go_enter Try.func33, Try.ntmps33
     go_wp2_with (first | ((with_reducible refine gate_dst (N := 2) rfl ?_); refine box_event ?hg (N := 2) ?hd (cs := #[.int .i64 a0_0, .int .i64 a0_1, .int .i64 a0_2, .bool a0_3]) (t := 33) ?hr ?_; (case hd => rfl); (case hg => rfl); (case hr => first | (go_simp; done) | (go_simp; rfl)); intro gb210 hg w7 hbox hb; have BK210 := Aside0.mk (hbox); have GW210 := xG HB hg; have GE210 := xG HB hg; replace HB := xS HB hb; clear hb hbox hg) | ((with_reducible refine gate_dst (N := 3) rfl ?_); refine box_event ?hg (N := 3) ?hd (cs := #[.int .i64 a1_0, .int .i64 a1_1, .int .i64 a1_2, .bool a1_3]) (t := 33) ?hr ?_; (case hd => rfl); (case hg => rfl); (case hr => first | (go_simp; done) | (go_simp; rfl)); intro gb211 hg w8 hbox hb; have BK211 := Aside0.mk (hbox); have GW211 := xG HB hg; have GE211 := xG HB hg; replace HB := xS HB hb; have NB210_211 := xN BK210 hg; have NB211_210 := xM BK210 hg; replace BK210 := xB BK210 hb; clear hb hbox hg; have hnb9 := NB210_211.out; have hnc9 := NB211_210.out; have hcz10_0 : w8.cell? ⟨gb210, 0, none⟩ = some (.int .i64 a0_0) := b1 BK210 0; have hcz10_1 : w8.cell? ⟨gb210, 1, none⟩ = some (.int .i64 a0_1) := b1 BK210 1; have hcz10_2 : w8.cell? ⟨gb210, 2, none⟩ = some (.int .i64 a0_2) := b1 BK210 2; have hcz10_3 : w8.cell? ⟨gb210, 3, none⟩ = some (.bool a0_3) := b1 BK210 3; have hfz10_0 := blk_frozen BK210.out 0; have hfz10_1 := blk_frozen BK210.out 1; have hfz10_2 := blk_frozen BK210.out 2; have hfz10_3 := blk_frozen BK210.out 3; have hcz11_0 : w8.cell? ⟨gb211, 0, none⟩ = some (.int .i64 a1_0) := b1 BK211 0; have hcz11_1 : w8.cell? ⟨gb211, 1, none⟩ = some (.int .i64 a1_1) := b1 BK211 1; have hcz11_2 : w8.cell? ⟨gb211, 2, none⟩ = some (.int .i64 a1_2) := b1 BK211 2; have hcz11_3 : w8.cell? ⟨gb211, 3, none⟩ = some (.bool a1_3) := b1 BK211 3; have hfz11_0 := blk_frozen BK211.out 0; have hfz11_1 := blk_frozen BK211.out 1; have hfz11_2 := blk_frozen BK211.out 2; have hfz11_3 := blk_frozen BK211.out 3))
     go_ret; exact ⟨by first | rfl | (simp [errW_none, errW_some] <;> rfl) | (simp [*, errW_none, errW_some] <;> rfl), by repeat (first | (with_reducible first | exact HB.out | apply below_alloc | apply pw_below_drewN | apply below_drew1 | refine below_set ?_ GE210.out | refine below_set ?_ GE211.out) | exact HB.out)⟩
    ·rw [if_neg c6] at H
     have c6b0 : (a0_3 != a1_3) = false := by simpa using c6
     (try (have c6b1 : decide (a0_3 = a1_3) = true := by simpa using c6))
     (try (have c6b2 : (a0_3 == a1_3) = true := by simpa using c6))
     clear c6; obtain rfl := Option.some.inj H
     go_enter Try.func33, Try.ntmps33
     go_wp2_with (first | ((with_reducible refine gate_dst (N := 2) rfl ?_); refine box_event ?hg (N := 2) ?hd (cs := #[.int .i64 a0_0, .int .i64 a0_1, .int .i64 a0_2, .bool a0_3]) (t := 33) ?hr ?_; (case hd => rfl); (case hg => rfl); (case hr => first | (go_simp; done) | (go_simp; rfl)); intro gb210 hg w12 hbox hb; have BK210 := Aside0.mk (hbox); have GW210 := xG HB hg; have GE210 := xG HB hg; replace HB := xS HB hb; clear hb hbox hg) | ((with_reducible refine gate_dst (N := 3) rfl ?_); refine box_event ?hg (N := 3) ?hd (cs := #[.int .i64 a1_0, .int .i64 a1_1, .int .i64 a1_2, .bool a1_3]) (t := 33) ?hr ?_; (case hd => rfl); (case hg => rfl); (case hr => first | (go_simp; done) | (go_simp; rfl)); intro gb211 hg w13 hbox hb; have BK211 := Aside0.mk (hbox); have GW211 := xG HB hg; have GE211 := xG HB hg; replace HB := xS HB hb; have NB210_211 := xN BK210 hg; have NB211_210 := xM BK210 hg; replace BK210 := xB BK210 hb; clear hb hbox hg; have hnb14 := NB210_211.out; have hnc14 := NB211_210.out; have hcz15_0 : w13.cell? ⟨gb210, 0, none⟩ = some (.int .i64 a0_0) := b1 BK210 0; have hcz15_1 : w13.cell? ⟨gb210, 1, none⟩ = some (.int .i64 a0_1) := b1 BK210 1; have hcz15_2 : w13.cell? ⟨gb210, 2, none⟩ = some (.int .i64 a0_2) := b1 BK210 2; have hcz15_3 : w13.cell? ⟨gb210, 3, none⟩ = some (.bool a0_3) := b1 BK210 3; have hfz15_0 := blk_frozen BK210.out 0; have hfz15_1 := blk_frozen BK210.out 1; have hfz15_2 := blk_frozen BK210.out 2; have hfz15_3 := blk_frozen BK210.out 3; have hcz16_0 : w13.cell? ⟨gb211, 0, none⟩ = some (.int .i64 a1_0) := b1 BK211 0; have hcz16_1 : w13.cell? ⟨gb211, 1, none⟩ = some (.int .i64 a1_1) := b1 BK211 1; have hcz16_2 : w13.cell? ⟨gb211, 2, none⟩ = some (.int .i64 a1_2) := b1 BK211 2; have hcz16_3 : w13.cell? ⟨gb211, 3, none⟩ = some (.bool a1_3) := b1 BK211 3; have hfz16_0 := blk_frozen BK211.out 0; have hfz16_1 := blk_frozen BK211.out 1; have hfz16_2 := blk_frozen BK211.out 2; have hfz16_3 := blk_frozen BK211.out 3))
     go_ret; exact ⟨by first | rfl | (simp [errW_none, errW_some] <;> rfl) | (simp [*, errW_none, errW_some] <;> rfl), by repeat (first | (with_reducible first | exact HB.out | apply below_alloc | apply pw_below_drewN | apply below_drew1 | refine below_set ?_ GE210.out | refine below_set ?_ GE211.out) | exact HB.out)⟩
   ·rw [if_neg c5] at H; have c5b0 : (a0_2 == a1_2) = false := beq_eq_false_iff_ne.mpr c5; have c5b1 : (a0_2 != a1_2) = true := bne_iff_ne.mpr c5; obtain rfl := Option.some.inj H
    go_enter Try.func33, Try.ntmps33
    go_wp2_with (first | ((with_reducible refine gate_dst (N := 2) rfl ?_); refine box_event ?hg (N := 2) ?hd (cs := #[.int .i64 a0_0, .int .i64 a0_1, .int .i64 a0_2, .bool a0_3]) (t := 33) ?hr ?_; (case hd => rfl); (case hg => rfl); (case hr => first | (go_simp; done) | (go_simp; rfl)); intro gb210 hg w17 hbox hb; have BK210 := Aside0.mk (hbox); have GW210 := xG HB hg; have GE210 := xG HB hg; replace HB := xS HB hb; clear hb hbox hg) | ((with_reducible refine gate_dst (N := 3) rfl ?_); refine box_event ?hg (N := 3) ?hd (cs := #[.int .i64 a1_0, .int .i64 a1_1, .int .i64 a1_2, .bool a1_3]) (t := 33) ?hr ?_; (case hd => rfl); (case hg => rfl); (case hr => first | (go_simp; done) | (go_simp; rfl)); intro gb211 hg w18 hbox hb; have BK211 := Aside0.mk (hbox); have GW211 := xG HB hg; have GE211 := xG HB hg; replace HB := xS HB hb; have NB210_211 := xN BK210 hg; have NB211_210 := xM BK210 hg; replace BK210 := xB BK210 hb; clear hb hbox hg; have hnb19 := NB210_211.out; have hnc19 := NB211_210.out; have hcz20_0 : w18.cell? ⟨gb210, 0, none⟩ = some (.int .i64 a0_0) := b1 BK210 0; have hcz20_1 : w18.cell? ⟨gb210, 1, none⟩ = some (.int .i64 a0_1) := b1 BK210 1; have hcz20_2 : w18.cell? ⟨gb210, 2, none⟩ = some (.int .i64 a0_2) := b1 BK210 2; have hcz20_3 : w18.cell? ⟨gb210, 3, none⟩ = some (.bool a0_3) := b1 BK210 3; have hfz20_0 := blk_frozen BK210.out 0; have hfz20_1 := blk_frozen BK210.out 1; have hfz20_2 := blk_frozen BK210.out 2; have hfz20_3 := blk_frozen BK210.out 3; have hcz21_0 : w18.cell? ⟨gb211, 0, none⟩ = some (.int .i64 a1_0) := b1 BK211 0; have hcz21_1 : w18.cell? ⟨gb211, 1, none⟩ = some (.int .i64 a1_1) := b1 BK211 1; have hcz21_2 : w18.cell? ⟨gb211, 2, none⟩ = some (.int .i64 a1_2) := b1 BK211 2; have hcz21_3 : w18.cell? ⟨gb211, 3, none⟩ = some (.bool a1_3) := b1 BK211 3; have hfz21_0 := blk_frozen BK211.out 0; have hfz21_1 := blk_frozen BK211.out 1; have hfz21_2 := blk_frozen BK211.out 2; have hfz21_3 := blk_frozen BK211.out 3))
    go_ret; exact ⟨by first | rfl | (simp [errW_none, errW_some] <;> rfl) | (simp [*, errW_none, errW_some] <;> rfl), by repeat (first | (with_reducible first | exact HB.out | apply below_alloc | apply pw_below_drewN | apply below_drew1 | refine below_set ?_ GE210.out | refine below_set ?_ GE211.out) | exact HB.out)⟩
  ·rw [if_neg c4] at H; have c4b0 : (a0_1 == a1_1) = false := beq_eq_false_iff_ne.mpr c4; have c4b1 : (a0_1 != a1_1) = true := bne_iff_ne.mpr c4; obtain rfl := Option.some.inj H
   go_enter Try.func33, Try.ntmps33
   go_wp2_with (first | ((with_reducible refine gate_dst (N := 2) rfl ?_); refine box_event ?hg (N := 2) ?hd (cs := #[.int .i64 a0_0, .int .i64 a0_1, .int .i64 a0_2, .bool a0_3]) (t := 33) ?hr ?_; (case hd => rfl); (case hg => rfl); (case hr => first | (go_simp; done) | (go_simp; rfl)); intro gb210 hg w22 hbox hb; have BK210 := Aside0.mk (hbox); have GW210 := xG HB hg; have GE210 := xG HB hg; replace HB := xS HB hb; clear hb hbox hg) | ((with_reducible refine gate_dst (N := 3) rfl ?_); refine box_event ?hg (N := 3) ?hd (cs := #[.int .i64 a1_0, .int .i64 a1_1, .int .i64 a1_2, .bool a1_3]) (t := 33) ?hr ?_; (case hd => rfl); (case hg => rfl); (case hr => first | (go_simp; done) | (go_simp; rfl)); intro gb211 hg w23 hbox hb; have BK211 := Aside0.mk (hbox); have GW211 := xG HB hg; have GE211 := xG HB hg; replace HB := xS HB hb; have NB210_211 := xN BK210 hg; have NB211_210 := xM BK210 hg; replace BK210 := xB BK210 hb; clear hb hbox hg; have hnb24 := NB210_211.out; have hnc24 := NB211_210.out; have hcz25_0 : w23.cell? ⟨gb210, 0, none⟩ = some (.int .i64 a0_0) := b1 BK210 0; have hcz25_1 : w23.cell? ⟨gb210, 1, none⟩ = some (.int .i64 a0_1) := b1 BK210 1; have hcz25_2 : w23.cell? ⟨gb210, 2, none⟩ = some (.int .i64 a0_2) := b1 BK210 2; have hcz25_3 : w23.cell? ⟨gb210, 3, none⟩ = some (.bool a0_3) := b1 BK210 3; have hfz25_0 := blk_frozen BK210.out 0; have hfz25_1 := blk_frozen BK210.out 1; have hfz25_2 := blk_frozen BK210.out 2; have hfz25_3 := blk_frozen BK210.out 3; have hcz26_0 : w23.cell? ⟨gb211, 0, none⟩ = some (.int .i64 a1_0) := b1 BK211 0; have hcz26_1 : w23.cell? ⟨gb211, 1, none⟩ = some (.int .i64 a1_1) := b1 BK211 1; have hcz26_2 : w23.cell? ⟨gb211, 2, none⟩ = some (.int .i64 a1_2) := b1 BK211 2; have hcz26_3 : w23.cell? ⟨gb211, 3, none⟩ = some (.bool a1_3) := b1 BK211 3; have hfz26_0 := blk_frozen BK211.out 0; have hfz26_1 := blk_frozen BK211.out 1; have hfz26_2 := blk_frozen BK211.out 2; have hfz26_3 := blk_frozen BK211.out 3))
   go_ret; exact ⟨by first | rfl | (simp [errW_none, errW_some] <;> rfl) | (simp [*, errW_none, errW_some] <;> rfl), by repeat (first | (with_reducible first | exact HB.out | apply below_alloc | apply pw_below_drewN | apply below_drew1 | refine below_set ?_ GE210.out | refine below_set ?_ GE211.out) | exact HB.out)⟩
 ·rw [if_neg c3] at H; have c3b0 : (a0_0 == a1_0) = false := beq_eq_false_iff_ne.mpr c3; have c3b1 : (a0_0 != a1_0) = true := bne_iff_ne.mpr c3; obtain rfl := Option.some.inj H
  go_enter Try.func33, Try.ntmps33
  go_wp2_with (first | ((with_reducible refine gate_dst (N := 2) rfl ?_); refine box_event ?hg (N := 2) ?hd (cs := #[.int .i64 a0_0, .int .i64 a0_1, .int .i64 a0_2, .bool a0_3]) (t := 33) ?hr ?_; (case hd => rfl); (case hg => rfl); (case hr => first | (go_simp; done) | (go_simp; rfl)); intro gb210 hg w27 hbox hb; have BK210 := Aside0.mk (hbox); have GW210 := xG HB hg; have GE210 := xG HB hg; replace HB := xS HB hb; clear hb hbox hg) | ((with_reducible refine gate_dst (N := 3) rfl ?_); refine box_event ?hg (N := 3) ?hd (cs := #[.int .i64 a1_0, .int .i64 a1_1, .int .i64 a1_2, .bool a1_3]) (t := 33) ?hr ?_; (case hd => rfl); (case hg => rfl); (case hr => first | (go_simp; done) | (go_simp; rfl)); intro gb211 hg w28 hbox hb; have BK211 := Aside0.mk (hbox); have GW211 := xG HB hg; have GE211 := xG HB hg; replace HB := xS HB hb; have NB210_211 := xN BK210 hg; have NB211_210 := xM BK210 hg; replace BK210 := xB BK210 hb; clear hb hbox hg; have hnb29 := NB210_211.out; have hnc29 := NB211_210.out; have hcz30_0 : w28.cell? ⟨gb210, 0, none⟩ = some (.int .i64 a0_0) := b1 BK210 0; have hcz30_1 : w28.cell? ⟨gb210, 1, none⟩ = some (.int .i64 a0_1) := b1 BK210 1; have hcz30_2 : w28.cell? ⟨gb210, 2, none⟩ = some (.int .i64 a0_2) := b1 BK210 2; have hcz30_3 : w28.cell? ⟨gb210, 3, none⟩ = some (.bool a0_3) := b1 BK210 3; have hfz30_0 := blk_frozen BK210.out 0; have hfz30_1 := blk_frozen BK210.out 1; have hfz30_2 := blk_frozen BK210.out 2; have hfz30_3 := blk_frozen BK210.out 3; have hcz31_0 : w28.cell? ⟨gb211, 0, none⟩ = some (.int .i64 a1_0) := b1 BK211 0; have hcz31_1 : w28.cell? ⟨gb211, 1, none⟩ = some (.int .i64 a1_1) := b1 BK211 1; have hcz31_2 : w28.cell? ⟨gb211, 2, none⟩ = some (.int .i64 a1_2) := b1 BK211 2; have hcz31_3 : w28.cell? ⟨gb211, 3, none⟩ = some (.bool a1_3) := b1 BK211 3; have hfz31_0 := blk_frozen BK211.out 0; have hfz31_1 := blk_frozen BK211.out 1; have hfz31_2 := blk_frozen BK211.out 2; have hfz31_3 := blk_frozen BK211.out 3))
  go_ret; exact ⟨by first | rfl | (simp [errW_none, errW_some] <;> rfl) | (simp [*, errW_none, errW_some] <;> rfl), by repeat (first | (with_reducible first | exact HB.out | apply below_alloc | apply pw_below_drewN | apply below_drew1 | refine below_set ?_ GE210.out | refine below_set ?_ GE211.out) | exact HB.out)⟩

section
open Go.Proofs.Ytigmokdcanebeaa.Short2.T
abbrev laws_eqEdgeS.bl0 : Array Bool := #[f, f, f, f, f, f, f, f, f, f]
abbrev laws_eqEdgeS.bl1 : Array Bool := #[t, f, f, f, f, f, f, f, f, f]
abbrev laws_eqEdgeS.bl2 : Array Bool := #[t, t, f, f, f, f, f, f, f, f]
abbrev laws_eqEdgeS.bl3 : Array Bool := #[t, t, t, f, f, f, f, f, f, f]
abbrev laws_eqEdgeS.bl4 : Array Bool := #[t, t, t, f, t, f, f, f, f, f]
abbrev laws_eqEdgeS.bl5 : Array Bool := #[t, t, t, f, t, t, f, f, f, f]
abbrev laws_eqEdgeS.bl6 : Array Bool := #[t, t, t, f, t, t, t, f, f, f]
abbrev laws_eqEdgeS.bl7 : Array Bool := #[t, t, t, t, t, t, t, f, f, f]
abbrev laws_eqEdgeS.bl8 : Array Bool := #[t, t, t, t, t, t, t, t, f, f]
abbrev laws_eqEdgeS.bl9 : Array Bool := #[t, t, t, t, t, t, t, t, t, f]
abbrev laws_eqEdgeS.bl10 : Array Bool := #[t, t, t, t, t, t, t, t, t, t]
end
/-! ### laws_eqEdgeS: function 14 -/
def laws_eqEdgeS.l0 : Nat → List (S33) → List (S33) → Int → Option (Bool)
 | 0, _, _, _ => none
 | k + 1, x0, x1, x5 => if x5 < (x0.length : Int) then (if 0 ≤ x5 then (if x5 < (x1.length : Int) then ((laws_eqEdge.f ((rd_T33 x0 x5).f0) ((rd_T33 x0 x5).f1) ((rd_T33 x0 x5).f2) ((rd_T33 x0 x5).f3) ((rd_T33 x1 x5).f0) ((rd_T33 x1 x5).f1) ((rd_T33 x1 x5).f2) ((rd_T33 x1 x5).f3)).bind fun t214 => (if t214 = true then (laws_eqEdgeS.l0 k x0 x1 (wrap64 (x5 + 1))) else (some false))) else (none)) else (none)) else (some true)
def laws_eqEdgeS.f (k : Nat) (l0 : List (S33)) (l1 : List (S33)) : Option (Bool) := if (l0.length : Int) = (l1.length : Int) then (laws_eqEdgeS.l0 k l0 l1 0) else (some false)
theorem laws_eqEdgeS.mono_l : ∀ k, (∀ y0 y1 y2, LeO (laws_eqEdgeS.l0 k y0 y1 y2) (laws_eqEdgeS.l0 (k + 1) y0 y1 y2))
 | 0 => fun _ _ _ r h => by simp [laws_eqEdgeS.l0] at h
 | k + 1 => by
  have ih0 := laws_eqEdgeS.mono_l k
  ·intro y0 y1 y2
   unfold laws_eqEdgeS.l0
   repeat' first
   | (with_reducible exact ih0 _ _ _)
   | (with_reducible exact LeO.refl _)
   | (with_reducible exact LeO.none _)
   | (with_reducible refine LeO.ite ?_ ?_)
   | (with_reducible refine LeO.bind ?_ (fun _ => ?_))
   | exact ih0 _ _ _
   | exact LeO.none _
   | refine LeO.ite ?_ ?_
   | refine LeO.bind ?_ (fun _ => ?_)
theorem laws_eqEdgeS.mono : ∀ a0 a1 k, LeO (laws_eqEdgeS.f k a0 a1) (laws_eqEdgeS.f (k + 1) a0 a1) := by
 intro a0 a1 k
 have ih0 := laws_eqEdgeS.mono_l k
 unfold laws_eqEdgeS.f
 repeat' first
   | (with_reducible exact ih0 _ _ _)
   | (with_reducible exact LeO.refl _)
   | (with_reducible exact LeO.none _)
   | (with_reducible refine LeO.ite ?_ ?_)
   | (with_reducible refine LeO.bind ?_ (fun _ => ?_))
   | exact ih0 _ _ _
   | exact LeO.none _
   | refine LeO.ite ?_ ?_
   | refine LeO.bind ?_ (fun _ => ?_)
def laws_eqEdgeS.T6 : Bool × List (List Nat × List Nat) := (true, [([], []), ([], []), ([0, 1], [0, 1]), ([2], [2]), ([], []), ([], []), ([4, 5], [4, 5]), ([6], [6]), ([3, 7], [3, 7]), ([8], [8])])
def laws_eqEdgeS.B6 : List Nat := [0, 0, 3, 7, 0, 0, 48, 112, 255, 511]
theorem laws_eqEdgeS.tab6 : rtab .any (opsOf Try.f14 6) = laws_eqEdgeS.T6 := by kernel_rfl
theorem laws_eqEdgeS.bits6 : waitsOk laws_eqEdgeS.T6.2 laws_eqEdgeS.B6 = true := by kernel_rfl
open Go.Proofs.Ytigmokdcanebeaa.Short2 in
set_option maxHeartbeats 8000000 in
set_option maxRecDepth 100000 in
theorem laws_eqEdgeS.calls (k : Nat) (A0 : Option Addr) (c0 : Nat) (l0 : List (S33)) (A1 : Option Addr) (c1 : Nat) (l1 : List (S33)) (r : Bool) (w : World) (hr0 : Kd.C k33 w A0 l0.length l0) (hc0 : l0.length ≤ c0) (hr1 : Kd.C k33 w A1 l1.length l1) (hc1 : l1.length ≤ c1) (h : laws_eqEdgeS.f k l0 l1 = some r) :
  Calls Try.prog 14 #[.slice A0 l0.length c0, .slice A1 l1.length c1] w fun e w' => e = .returned (.bool r) ∧ Below w.heap.size w w' := by
 have hu33 := Try.underlying33; have HR0 := Aside0.mk hr0; have HC0 := Aside0.mk hc0; clear hr0 hc0; have HR1 := Aside0.mk hr1; have HC1 := Aside0.mk hc1; clear hr1 hc1; have HB := Aside0.mk (Below.refl w.heap.size w); have H : (if (l0.length : Int) = (l1.length : Int) then (laws_eqEdgeS.l0 k l0 l1 0) else (some false)) = some r := h; clear h
 by_cases c3 : (l0.length : Int) = (l1.length : Int)
 ·rw [if_pos c3] at H; have c3b0 : ((l0.length : Int) == (l1.length : Int)) = true := beq_iff_eq.mpr c3; have c3b1 : ((l0.length : Int) != (l1.length : Int)) = false := bne_eq_false_iff_eq.mpr c3
  have c3b2 : (l0.length == l1.length) = true := by first | simpa using c3 | (simp at c3 ⊢; omega)
  clear c3; have H' := Aside0.mk H; clear H
  go_enter Try.func14, Try.ntmps14
  go_wp2
  go_loopg [5] k (fun kq v5 w' => ∃ (x5_1 : Int), v5 = .int .i64 x5_1 ∧ Aside0 (laws_eqEdgeS.l0 kq l0 l1 x5_1 = some r) ∧ Aside0 (kq ≤ k) ∧ Aside0 (Below w.heap.size w w'))
  case atStart => exact ⟨(0), (by first | rfl | (simp; done) | (simp [*]; done) | (rw [Int.tmod_eq_emod_of_nonneg (Int.natCast_nonneg _)]; done)), H', ⟨Nat.le_refl _⟩, ⟨zS HB.out⟩⟩
  case round =>
   clear H'
   try clear c1
   try clear p2
   try clear c3
   try clear c3b0
   try clear c3b1
   try clear c3b2
   obtain ⟨x5_1, rfl, HA, HK1, HB⟩ := hrel
   cases gk with
   | zero => exact absurd HA.out (by simp [laws_eqEdgeS.l0])
   | succ k1 =>
    have H := HA.out; clear HA; simp only [laws_eqEdgeS.l0] at H
    by_cases c4 : x5_1 < (l0.length : Int)
    ·rw [if_pos c4] at H; have c4b0 : decide (x5_1 < (l0.length : Int)) = true := decide_eq_true c4; clear c4
     by_cases c5 : 0 ≤ x5_1
     ·rw [if_pos c5] at H; have c5b0 : decide (0 ≤ x5_1) = true := decide_eq_true c5; clear c5
      by_cases c6 : x5_1 < (l1.length : Int)
      ·rw [if_pos c6] at H; have c6b0 : decide (x5_1 < (l1.length : Int)) = true := decide_eq_true c6; clear c6; replace H := Option.bind_eq_some_iff.mp H; obtain ⟨t214, A70, H⟩ := H; replace H : (if t214 = true then (laws_eqEdgeS.l0 k1 l0 l1 (wrap64 (x5_1 + 1))) else (some false)) = some r := H; have A7 := Aside0.mk A70; clear A70
       by_cases c8 : t214 = true
       ·subst c8
        have H1 : (laws_eqEdgeS.l0 k1 l0 l1 (wrap64 (x5_1 + 1))) = some r := by rw [if_pos rfl] at H; exact H
        clear H; have H := H1; clear H1; have H' := Aside0.mk H; clear H
        try go_wp2
        replace HB := Aside0.mk (below_drew1 HB.out); have p212 : 0 ≤ (x5_1 : Int) := of_decide_eq_true (by first | (with_reducible assumption) | assumption); have q212 : x5_1 < (l0.length : Int) := of_decide_eq_true (by first | (with_reducible assumption) | assumption); obtain ⟨ad212, e212, hx212_0, hx212_1, hx212_2, hx212_3⟩ := at_T33 HR0.out x5_1 p212 q212; have hw212_3 := hx212_3; have hw212_2 := hx212_2; have hw212_1 := hx212_1; have hw212_0 := hx212_0
        cases e212
        replace hx212_0 := (HB.out.cell (World.block_lt_of_cell? w _ hx212_0)).trans hx212_0; replace hx212_1 := (HB.out.cell (World.block_lt_of_cell? w _ hx212_1)).trans hx212_1; replace hx212_2 := (HB.out.cell (World.block_lt_of_cell? w _ hx212_2)).trans hx212_2; replace hx212_3 := (HB.out.cell (World.block_lt_of_cell? w _ hx212_3)).trans hx212_3; replace p212 := eq_true p212; replace q212 := eq_true q212; have p213 : 0 ≤ (x5_1 : Int) := of_decide_eq_true (by first | (with_reducible assumption) | assumption); have q213 : x5_1 < (l1.length : Int) := of_decide_eq_true (by first | (with_reducible assumption) | assumption); obtain ⟨ad213, e213, hx213_0, hx213_1, hx213_2, hx213_3⟩ := at_T33 HR1.out x5_1 p213 q213; have hw213_3 := hx213_3; have hw213_2 := hx213_2; have hw213_1 := hx213_1; have hw213_0 := hx213_0
        cases e213
        replace hx213_0 := (HB.out.cell (World.block_lt_of_cell? w _ hx213_0)).trans hx213_0; replace hx213_1 := (HB.out.cell (World.block_lt_of_cell? w _ hx213_1)).trans hx213_1; replace hx213_2 := (HB.out.cell (World.block_lt_of_cell? w _ hx213_2)).trans hx213_2; replace hx213_3 := (HB.out.cell (World.block_lt_of_cell? w _ hx213_3)).trans hx213_3; replace p213 := eq_true p213; replace q213 := eq_true q213; refine start_ (n := 10) (S := fun w' => w'.cell? (ad212.add ((x5_1).toNat * 4)) = some (.int .i64 ((rd_T33 l0 x5_1).f0)) ∧ w'.cell? ⟨(ad212.add ((x5_1).toNat * 4)).block, (ad212.add ((x5_1).toNat * 4)).off + 1, none⟩ = some (.int .i64 ((rd_T33 l0 x5_1).f1)) ∧ w'.cell? ⟨(ad212.add ((x5_1).toNat * 4)).block, (ad212.add ((x5_1).toNat * 4)).off + 2, none⟩ = some (.int .i64 ((rd_T33 l0 x5_1).f2)) ∧ w'.cell? ⟨(ad212.add ((x5_1).toNat * 4)).block, (ad212.add ((x5_1).toNat * 4)).off + 3, none⟩ = some (.bool ((rd_T33 l0 x5_1).f3)) ∧ w'.cell? (ad213.add ((x5_1).toNat * 4)) = some (.int .i64 ((rd_T33 l1 x5_1).f0)) ∧ w'.cell? ⟨(ad213.add ((x5_1).toNat * 4)).block, (ad213.add ((x5_1).toNat * 4)).off + 1, none⟩ = some (.int .i64 ((rd_T33 l1 x5_1).f1)) ∧ w'.cell? ⟨(ad213.add ((x5_1).toNat * 4)).block, (ad213.add ((x5_1).toNat * 4)).off + 2, none⟩ = some (.int .i64 ((rd_T33 l1 x5_1).f2)) ∧ w'.cell? ⟨(ad213.add ((x5_1).toNat * 4)).block, (ad213.add ((x5_1).toNat * 4)).off + 3, none⟩ = some (.bool ((rd_T33 l1 x5_1).f3))) (ds := []) bl0 (by kernel_rfl) rfl rfl ⟨((HB.out.cell (World.block_lt_of_cell? w _ hw212_0)).trans hw212_0), ((HB.out.cell (World.block_lt_of_cell? w _ hw212_1)).trans hw212_1), ((HB.out.cell (World.block_lt_of_cell? w _ hw212_2)).trans hw212_2), ((HB.out.cell (World.block_lt_of_cell? w _ hw212_3)).trans hw212_3), ((HB.out.cell (World.block_lt_of_cell? w _ hw213_0)).trans hw213_0), ((HB.out.cell (World.block_lt_of_cell? w _ hw213_1)).trans hw213_1), ((HB.out.cell (World.block_lt_of_cell? w _ hw213_2)).trans hw213_2), ((HB.out.cell (World.block_lt_of_cell? w _ hw213_3)).trans hw213_3)⟩ (fun hHeld => ?_); refine with_tabW laws_eqEdgeS.tab6 laws_eqEdgeS.bits6 (fun HT_ HW_ => ?_); generalize wr.drew = w9 at HB hx212_0 hx212_1 hx212_2 hx212_3 hx213_0 hx213_1 hx213_2 hx213_3 hHeld ⊢
        refine pu 0 (some 17) bl1 HT_ ?_ rfl rfl (.inl ⟨by rfl, ?_⟩) ?_ ?_ ?_; rotate_left; (intro w'; go_simp; with_reducible rfl); rotate_left; (simp only [Act.put, q5]; rfl)
        refine pu 1 (some 18) bl2 HT_ ?_ rfl rfl (.inl ⟨by rfl, ?_⟩) ?_ ?_ ?_; rotate_left; (intro w'; go_simp; with_reducible rfl); rotate_left; (simp only [Act.put, q5]; rfl)
        refine pu 2 (some 19) bl3 HT_ ?_ rfl rfl (.inl ⟨by rfl, ?_⟩) ?_ ?_ ?_; rotate_left; (intro w'; go_simp; with_reducible rfl); rotate_left; (simp only [Act.put, q5]; rfl)
        refine pu 4 (some 21) bl4 HT_ ?_ rfl rfl (.inl ⟨by rfl, ?_⟩) ?_ ?_ ?_; rotate_left; (intro w'; go_simp; with_reducible rfl); rotate_left; (simp only [Act.put, q5]; rfl)
        refine pu 5 (some 22) bl5 HT_ ?_ rfl rfl (.inl ⟨by rfl, ?_⟩) ?_ ?_ ?_; rotate_left; (intro w'; go_simp; with_reducible rfl); rotate_left; (simp only [Act.put, q5]; rfl)
        refine pu 6 (some 23) bl6 HT_ ?_ rfl rfl (.inl ⟨by rfl, ?_⟩) ?_ ?_ ?_; rotate_left; (intro w'; go_simp; with_reducible rfl); rotate_left; (simp only [Act.put, q5]; rfl)
        refine take_ (i := 3) (N := some 20) (v := ?_) (a' := ?_) bl7 rfl rfl (take_ofW HT_.out HW_.out (by kernel_rfl)) (fun _ _ _ h => h) (Or.inl ⟨by rfl, ?_⟩) hHeld ?_ ?_; rotate_left
        ·rintro w' ⟨s0, s1, s2, s3, s4, s5, s6, s7⟩; go_simp; with_reducible rfl
        rotate_left
        ·simp only [Act.put, q5]; rfl
        refine take_ (i := 7) (N := some 24) (v := ?_) (a' := ?_) bl8 rfl rfl (take_ofW HT_.out HW_.out (by kernel_rfl)) (fun _ _ _ h => h) (Or.inl ⟨by rfl, ?_⟩) hHeld ?_ ?_; rotate_left
        ·rintro w' ⟨s0, s1, s2, s3, s4, s5, s6, s7⟩; go_simp; with_reducible rfl
        rotate_left
        ·simp only [Act.put, q5]; rfl
        refine one_ (i := 8) (N := some 25) bl9 rfl rfl (one_of HT_.out (by kernel_rfl)) (by decide) (fun K hK => ?_); refine goes_ Try.func33 (by kernel_rfl) rfl #[.agg #[.int .i64 ((rd_T33 l0 x5_1).f0), .int .i64 ((rd_T33 l0 x5_1).f1), .int .i64 ((rd_T33 l0 x5_1).f2), .bool ((rd_T33 l0 x5_1).f3)], .agg #[.int .i64 ((rd_T33 l1 x5_1).f0), .int .i64 ((rd_T33 l1 x5_1).f1), .int .i64 ((rd_T33 l1 x5_1).f2), .bool ((rd_T33 l1 x5_1).f3)]] (by rfl) rfl rfl (by (try simp only [m3]); first | done | rfl | (simp only [d2]; rfl)) ?_
        with_reducible refine (laws_eqEdge.calls ((rd_T33 l0 x5_1).f0) ((rd_T33 l0 x5_1).f1) ((rd_T33 l0 x5_1).f2) ((rd_T33 l0 x5_1).f3) ((rd_T33 l1 x5_1).f0) ((rd_T33 l1 x5_1).f1) ((rd_T33 l1 x5_1).f2) ((rd_T33 l1 x5_1).f3) true _ A7.out).mono ?_
        rintro e w10 ⟨rfl, hb⟩; refine ⟨_, rfl, ?_⟩; replace HB := xS HB hb
        (try clear hb)
        (try clear hb2)
        (try clear hk)
        (try clear hi)
        refine hK.out _ _ ⟨((HB.out.cell (World.block_lt_of_cell? w _ hw212_0)).trans hw212_0), ((HB.out.cell (World.block_lt_of_cell? w _ hw212_1)).trans hw212_1), ((HB.out.cell (World.block_lt_of_cell? w _ hw212_2)).trans hw212_2), ((HB.out.cell (World.block_lt_of_cell? w _ hw212_3)).trans hw212_3), ((HB.out.cell (World.block_lt_of_cell? w _ hw213_0)).trans hw213_0), ((HB.out.cell (World.block_lt_of_cell? w _ hw213_1)).trans hw213_1), ((HB.out.cell (World.block_lt_of_cell? w _ hw213_2)).trans hw213_2), ((HB.out.cell (World.block_lt_of_cell? w _ hw213_3)).trans hw213_3)⟩ (fun hHeld => ?_); clear hK K; refine norm_ (a' := ?_) ?_ ?_; rotate_left
        ·show Act.put _ (some 25) _ = _; simp only [Act.put, q5]; rfl
        refine pu 9 (some 26) bl10 HT_ ?_ rfl rfl (.inl ⟨by rfl, ?_⟩) ?_ ?_ ?_; rotate_left; (intro w'; go_simp; with_reducible rfl); rotate_left; (simp only [Act.put, q5]; rfl)
        refine done_ (done_of HT_.out (by kernel_rfl)) ?_
        try go_wp2
        go_roundg k1
        case measure => have := HK1.out; omega
        case rel => exact ⟨(wrap64 (x5_1 + 1)), (by first | rfl | (simp; done) | (simp [*]; done) | (rw [Int.tmod_eq_emod_of_nonneg (Int.natCast_nonneg _)]; done)), H', ⟨by have := HK1.out; omega⟩, ⟨zS HB.out⟩⟩
       ·replace c8 := Bool.eq_false_iff.mpr c8; subst c8
        have H1 : (some false) = some r := by rw [if_neg (show ¬ (false = true) by decide)] at H; exact H
        clear H; have H := H1; clear H1; obtain rfl := Option.some.inj H
        try go_wp2
        replace HB := Aside0.mk (below_drew1 HB.out); have p212 : 0 ≤ (x5_1 : Int) := of_decide_eq_true (by first | (with_reducible assumption) | assumption); have q212 : x5_1 < (l0.length : Int) := of_decide_eq_true (by first | (with_reducible assumption) | assumption); obtain ⟨ad212, e212, hx212_0, hx212_1, hx212_2, hx212_3⟩ := at_T33 HR0.out x5_1 p212 q212; have hw212_3 := hx212_3; have hw212_2 := hx212_2; have hw212_1 := hx212_1; have hw212_0 := hx212_0
        cases e212
        replace hx212_0 := (HB.out.cell (World.block_lt_of_cell? w _ hx212_0)).trans hx212_0; replace hx212_1 := (HB.out.cell (World.block_lt_of_cell? w _ hx212_1)).trans hx212_1; replace hx212_2 := (HB.out.cell (World.block_lt_of_cell? w _ hx212_2)).trans hx212_2; replace hx212_3 := (HB.out.cell (World.block_lt_of_cell? w _ hx212_3)).trans hx212_3; replace p212 := eq_true p212; replace q212 := eq_true q212; have p213 : 0 ≤ (x5_1 : Int) := of_decide_eq_true (by first | (with_reducible assumption) | assumption); have q213 : x5_1 < (l1.length : Int) := of_decide_eq_true (by first | (with_reducible assumption) | assumption); obtain ⟨ad213, e213, hx213_0, hx213_1, hx213_2, hx213_3⟩ := at_T33 HR1.out x5_1 p213 q213; have hw213_3 := hx213_3; have hw213_2 := hx213_2; have hw213_1 := hx213_1; have hw213_0 := hx213_0
        cases e213
        replace hx213_0 := (HB.out.cell (World.block_lt_of_cell? w _ hx213_0)).trans hx213_0; replace hx213_1 := (HB.out.cell (World.block_lt_of_cell? w _ hx213_1)).trans hx213_1; replace hx213_2 := (HB.out.cell (World.block_lt_of_cell? w _ hx213_2)).trans hx213_2; replace hx213_3 := (HB.out.cell (World.block_lt_of_cell? w _ hx213_3)).trans hx213_3; replace p213 := eq_true p213; replace q213 := eq_true q213; refine start_ (n := 10) (S := fun w' => w'.cell? (ad212.add ((x5_1).toNat * 4)) = some (.int .i64 ((rd_T33 l0 x5_1).f0)) ∧ w'.cell? ⟨(ad212.add ((x5_1).toNat * 4)).block, (ad212.add ((x5_1).toNat * 4)).off + 1, none⟩ = some (.int .i64 ((rd_T33 l0 x5_1).f1)) ∧ w'.cell? ⟨(ad212.add ((x5_1).toNat * 4)).block, (ad212.add ((x5_1).toNat * 4)).off + 2, none⟩ = some (.int .i64 ((rd_T33 l0 x5_1).f2)) ∧ w'.cell? ⟨(ad212.add ((x5_1).toNat * 4)).block, (ad212.add ((x5_1).toNat * 4)).off + 3, none⟩ = some (.bool ((rd_T33 l0 x5_1).f3)) ∧ w'.cell? (ad213.add ((x5_1).toNat * 4)) = some (.int .i64 ((rd_T33 l1 x5_1).f0)) ∧ w'.cell? ⟨(ad213.add ((x5_1).toNat * 4)).block, (ad213.add ((x5_1).toNat * 4)).off + 1, none⟩ = some (.int .i64 ((rd_T33 l1 x5_1).f1)) ∧ w'.cell? ⟨(ad213.add ((x5_1).toNat * 4)).block, (ad213.add ((x5_1).toNat * 4)).off + 2, none⟩ = some (.int .i64 ((rd_T33 l1 x5_1).f2)) ∧ w'.cell? ⟨(ad213.add ((x5_1).toNat * 4)).block, (ad213.add ((x5_1).toNat * 4)).off + 3, none⟩ = some (.bool ((rd_T33 l1 x5_1).f3))) (ds := []) bl0 (by kernel_rfl) rfl rfl ⟨((HB.out.cell (World.block_lt_of_cell? w _ hw212_0)).trans hw212_0), ((HB.out.cell (World.block_lt_of_cell? w _ hw212_1)).trans hw212_1), ((HB.out.cell (World.block_lt_of_cell? w _ hw212_2)).trans hw212_2), ((HB.out.cell (World.block_lt_of_cell? w _ hw212_3)).trans hw212_3), ((HB.out.cell (World.block_lt_of_cell? w _ hw213_0)).trans hw213_0), ((HB.out.cell (World.block_lt_of_cell? w _ hw213_1)).trans hw213_1), ((HB.out.cell (World.block_lt_of_cell? w _ hw213_2)).trans hw213_2), ((HB.out.cell (World.block_lt_of_cell? w _ hw213_3)).trans hw213_3)⟩ (fun hHeld => ?_); refine with_tabW laws_eqEdgeS.tab6 laws_eqEdgeS.bits6 (fun HT_ HW_ => ?_); generalize wr.drew = w11 at HB hx212_0 hx212_1 hx212_2 hx212_3 hx213_0 hx213_1 hx213_2 hx213_3 hHeld ⊢
        refine pu 0 (some 17) bl1 HT_ ?_ rfl rfl (.inl ⟨by rfl, ?_⟩) ?_ ?_ ?_; rotate_left; (intro w'; go_simp; with_reducible rfl); rotate_left; (simp only [Act.put, q5]; rfl)
        refine pu 1 (some 18) bl2 HT_ ?_ rfl rfl (.inl ⟨by rfl, ?_⟩) ?_ ?_ ?_; rotate_left; (intro w'; go_simp; with_reducible rfl); rotate_left; (simp only [Act.put, q5]; rfl)
        refine pu 2 (some 19) bl3 HT_ ?_ rfl rfl (.inl ⟨by rfl, ?_⟩) ?_ ?_ ?_; rotate_left; (intro w'; go_simp; with_reducible rfl); rotate_left; (simp only [Act.put, q5]; rfl)
        refine pu 4 (some 21) bl4 HT_ ?_ rfl rfl (.inl ⟨by rfl, ?_⟩) ?_ ?_ ?_; rotate_left; (intro w'; go_simp; with_reducible rfl); rotate_left; (simp only [Act.put, q5]; rfl)
        refine pu 5 (some 22) bl5 HT_ ?_ rfl rfl (.inl ⟨by rfl, ?_⟩) ?_ ?_ ?_; rotate_left; (intro w'; go_simp; with_reducible rfl); rotate_left; (simp only [Act.put, q5]; rfl)
        refine pu 6 (some 23) bl6 HT_ ?_ rfl rfl (.inl ⟨by rfl, ?_⟩) ?_ ?_ ?_; rotate_left; (intro w'; go_simp; with_reducible rfl); rotate_left; (simp only [Act.put, q5]; rfl)
        refine take_ (i := 3) (N := some 20) (v := ?_) (a' := ?_) bl7 rfl rfl (take_ofW HT_.out HW_.out (by kernel_rfl)) (fun _ _ _ h => h) (Or.inl ⟨by rfl, ?_⟩) hHeld ?_ ?_; rotate_left
        ·rintro w' ⟨s0, s1, s2, s3, s4, s5, s6, s7⟩; go_simp; with_reducible rfl
        rotate_left
        ·simp only [Act.put, q5]; rfl
        refine take_ (i := 7) (N := some 24) (v := ?_) (a' := ?_) bl8 rfl rfl (take_ofW HT_.out HW_.out (by kernel_rfl)) (fun _ _ _ h => h) (Or.inl ⟨by rfl, ?_⟩) hHeld ?_ ?_; rotate_left
        ·rintro w' ⟨s0, s1, s2, s3, s4, s5, s6, s7⟩; go_simp; with_reducible rfl
        rotate_left
        ·simp only [Act.put, q5]; rfl
        refine one_ (i := 8) (N := some 25) bl9 rfl rfl (one_of HT_.out (by kernel_rfl)) (by decide) (fun K hK => ?_); refine goes_ Try.func33 (by kernel_rfl) rfl #[.agg #[.int .i64 ((rd_T33 l0 x5_1).f0), .int .i64 ((rd_T33 l0 x5_1).f1), .int .i64 ((rd_T33 l0 x5_1).f2), .bool ((rd_T33 l0 x5_1).f3)], .agg #[.int .i64 ((rd_T33 l1 x5_1).f0), .int .i64 ((rd_T33 l1 x5_1).f1), .int .i64 ((rd_T33 l1 x5_1).f2), .bool ((rd_T33 l1 x5_1).f3)]] (by rfl) rfl rfl (by (try simp only [m3]); first | done | rfl | (simp only [d2]; rfl)) ?_
        with_reducible refine (laws_eqEdge.calls ((rd_T33 l0 x5_1).f0) ((rd_T33 l0 x5_1).f1) ((rd_T33 l0 x5_1).f2) ((rd_T33 l0 x5_1).f3) ((rd_T33 l1 x5_1).f0) ((rd_T33 l1 x5_1).f1) ((rd_T33 l1 x5_1).f2) ((rd_T33 l1 x5_1).f3) false _ A7.out).mono ?_
        rintro e w12 ⟨rfl, hb⟩; refine ⟨_, rfl, ?_⟩; replace HB := xS HB hb
        (try clear hb)
        (try clear hb2)
        (try clear hk)
        (try clear hi)
        refine hK.out _ _ ⟨((HB.out.cell (World.block_lt_of_cell? w _ hw212_0)).trans hw212_0), ((HB.out.cell (World.block_lt_of_cell? w _ hw212_1)).trans hw212_1), ((HB.out.cell (World.block_lt_of_cell? w _ hw212_2)).trans hw212_2), ((HB.out.cell (World.block_lt_of_cell? w _ hw212_3)).trans hw212_3), ((HB.out.cell (World.block_lt_of_cell? w _ hw213_0)).trans hw213_0), ((HB.out.cell (World.block_lt_of_cell? w _ hw213_1)).trans hw213_1), ((HB.out.cell (World.block_lt_of_cell? w _ hw213_2)).trans hw213_2), ((HB.out.cell (World.block_lt_of_cell? w _ hw213_3)).trans hw213_3)⟩ (fun hHeld => ?_); clear hK K; refine norm_ (a' := ?_) ?_ ?_; rotate_left
        ·show Act.put _ (some 25) _ = _; simp only [Act.put, q5]; rfl
        refine pu 9 (some 26) bl10 HT_ ?_ rfl rfl (.inl ⟨by rfl, ?_⟩) ?_ ?_ ?_; rotate_left; (intro w'; go_simp; with_reducible rfl); rotate_left; (simp only [Act.put, q5]; rfl)
        refine done_ (done_of HT_.out (by kernel_rfl)) ?_
        try go_wp2
        go_ret; exact ⟨by first | rfl | (simp [errW_none, errW_some] <;> rfl) | (simp [*, errW_none, errW_some] <;> rfl), by repeat (first | (with_reducible first | exact HB.out | apply below_alloc | apply pw_below_drewN | apply below_drew1) | exact HB.out)⟩
      ·rw [if_neg c6] at H; exact absurd H (by simp)
     ·rw [if_neg c5] at H; exact absurd H (by simp)
    ·rw [if_neg c4] at H; have c4b0 : decide (x5_1 < (l0.length : Int)) = false := decide_eq_false c4; clear c4; obtain rfl := Option.some.inj H
     go_wp2
     go_ret; exact ⟨by first | rfl | (simp [errW_none, errW_some] <;> rfl) | (simp [*, errW_none, errW_some] <;> rfl), by repeat (first | (with_reducible first | exact HB.out | apply below_alloc | apply pw_below_drewN | apply below_drew1) | exact HB.out)⟩
 ·rw [if_neg c3] at H; have c3b0 : ((l0.length : Int) == (l1.length : Int)) = false := beq_eq_false_iff_ne.mpr c3; have c3b1 : ((l0.length : Int) != (l1.length : Int)) = true := bne_iff_ne.mpr c3
  have c3b2 : (l0.length == l1.length) = false := by first | simpa using c3 | (simp at c3 ⊢; omega)
  obtain rfl := Option.some.inj H
  go_enter Try.func14, Try.ntmps14
  go_wp2
  go_ret; exact ⟨by first | rfl | (simp [errW_none, errW_some] <;> rfl) | (simp [*, errW_none, errW_some] <;> rfl), by repeat (first | (with_reducible first | exact HB.out | apply below_alloc | apply pw_below_drewN | apply below_drew1) | exact HB.out)⟩


/-! ### laws_eqAuto: function 13 -/
def laws_eqAuto.f (k : Nat) (a0_0 : Int) (a0_1 : Int) (a0_2 : Int) (l0_3 : List (S33)) (a1_0 : Int) (a1_1 : Int) (a1_2 : Int) (l1_3 : List (S33)) : Option (Bool) := if a0_0 = a1_0 then (if a0_1 = a1_1 then (if a0_2 = a1_2 then ((laws_eqEdgeS.f k l0_3 l1_3).bind fun t217 => (if t217 = true then (some true) else (some false))) else (some false)) else (some false)) else (some false)
theorem laws_eqAuto.mono : ∀ a0 a1 a2 a3 a4 a5 a6 a7 k, LeO (laws_eqAuto.f k a0 a1 a2 a3 a4 a5 a6 a7) (laws_eqAuto.f (k + 1) a0 a1 a2 a3 a4 a5 a6 a7) := by
 intro a0 a1 a2 a3 a4 a5 a6 a7 k
 unfold laws_eqAuto.f
 repeat' first
   | (with_reducible exact laws_eqEdgeS.mono _ _ _)
   | (with_reducible exact LeO.refl _)
   | (with_reducible exact LeO.none _)
   | (with_reducible refine LeO.ite ?_ ?_)
   | (with_reducible refine LeO.bind ?_ (fun _ => ?_))
   | exact laws_eqEdgeS.mono _ _ _
   | exact LeO.none _
   | refine LeO.ite ?_ ?_
   | refine LeO.bind ?_ (fun _ => ?_)
open Go.Proofs.Ytigmokdcanebeaa.Short2 in
set_option maxHeartbeats 8000000 in
set_option maxRecDepth 100000 in
theorem laws_eqAuto.calls (k : Nat) (a0_0 : Int) (a0_1 : Int) (a0_2 : Int) (A0_3 : Option Addr) (c0_3 : Nat) (l0_3 : List (S33)) (a1_0 : Int) (a1_1 : Int) (a1_2 : Int) (A1_3 : Option Addr) (c1_3 : Nat) (l1_3 : List (S33)) (r : Bool) (w : World) (hr0_3 : Kd.C k33 w A0_3 l0_3.length l0_3) (hc0_3 : l0_3.length ≤ c0_3) (hr1_3 : Kd.C k33 w A1_3 l1_3.length l1_3) (hc1_3 : l1_3.length ≤ c1_3) (h : laws_eqAuto.f k a0_0 a0_1 a0_2 l0_3 a1_0 a1_1 a1_2 l1_3 = some r) :
  Calls Try.prog 13 #[.agg #[.int .i64 a0_0, .int .i64 a0_1, .int .i64 a0_2, .slice A0_3 l0_3.length c0_3], .agg #[.int .i64 a1_0, .int .i64 a1_1, .int .i64 a1_2, .slice A1_3 l1_3.length c1_3]] w fun e w' => e = .returned (.bool r) ∧ Below w.heap.size w w' := by
 have hu28 := Try.underlying28; have HR0_3 := Aside0.mk hr0_3; have HC0_3 := Aside0.mk hc0_3; clear hr0_3 hc0_3; have HR1_3 := Aside0.mk hr1_3; have HC1_3 := Aside0.mk hc1_3; clear hr1_3 hc1_3; have HB := Aside0.mk (Below.refl w.heap.size w); have H : (if a0_0 = a1_0 then (if a0_1 = a1_1 then (if a0_2 = a1_2 then ((laws_eqEdgeS.f k l0_3 l1_3).bind fun t217 => (if t217 = true then (some true) else (some false))) else (some false)) else (some false)) else (some false)) = some r := h; clear h
 by_cases c3 : a0_0 = a1_0
 ·rw [if_pos c3] at H; have c3b0 : (a0_0 == a1_0) = true := beq_iff_eq.mpr c3; have c3b1 : (a0_0 != a1_0) = false := bne_eq_false_iff_eq.mpr c3; clear c3
  by_cases c4 : a0_1 = a1_1
  ·rw [if_pos c4] at H; have c4b0 : (a0_1 == a1_1) = true := beq_iff_eq.mpr c4; have c4b1 : (a0_1 != a1_1) = false := bne_eq_false_iff_eq.mpr c4; clear c4
   by_cases c5 : a0_2 = a1_2
   ·rw [if_pos c5] at H; have c5b0 : (a0_2 == a1_2) = true := beq_iff_eq.mpr c5; have c5b1 : (a0_2 != a1_2) = false := bne_eq_false_iff_eq.mpr c5; clear c5; replace H := Option.bind_eq_some_iff.mp H; obtain ⟨t217, A60, H⟩ := H; replace H : (if t217 = true then (some true) else (some false)) = some r := H; have A6 := Aside0.mk A60; clear A60
    by_cases c7 : t217 = true
    ·subst c7
     have H1 : (some true) = some r := by rw [if_pos rfl] at H; exact H
     clear H; have H := H1; clear H1; obtain rfl := Option.some.inj H
     go_enter Try.func13, Try.ntmps13
     go_wp2_with (first | ((with_reducible refine gate_dst (N := 2) rfl ?_); refine box_event ?hg (N := 2) ?hd (cs := #[.int .i64 a0_0, .int .i64 a0_1, .int .i64 a0_2, .slice A0_3 l0_3.length c0_3]) (t := 28) ?hr ?_; (case hd => rfl); (case hg => rfl); (case hr => first | (go_simp; done) | (go_simp; rfl)); intro gb215 hg w8 hbox hb; have BK215 := Aside0.mk (hbox); have GW215 := xG HB hg; have GE215 := xG HB hg; replace HB := xS HB hb; clear hb hbox hg) | ((with_reducible refine gate_dst (N := 3) rfl ?_); refine box_event ?hg (N := 3) ?hd (cs := #[.int .i64 a1_0, .int .i64 a1_1, .int .i64 a1_2, .slice A1_3 l1_3.length c1_3]) (t := 28) ?hr ?_; (case hd => rfl); (case hg => rfl); (case hr => first | (go_simp; done) | (go_simp; rfl)); intro gb216 hg w9 hbox hb; have BK216 := Aside0.mk (hbox); have GW216 := xG HB hg; have GE216 := xG HB hg; replace HB := xS HB hb; have NB215_216 := xN BK215 hg; have NB216_215 := xM BK215 hg; replace BK215 := xB BK215 hb; clear hb hbox hg; have hnb10 := NB215_216.out; have hnc10 := NB216_215.out; have hcz11_0 : w9.cell? ⟨gb215, 0, none⟩ = some (.int .i64 a0_0) := b1 BK215 0; have hcz11_1 : w9.cell? ⟨gb215, 1, none⟩ = some (.int .i64 a0_1) := b1 BK215 1; have hcz11_2 : w9.cell? ⟨gb215, 2, none⟩ = some (.int .i64 a0_2) := b1 BK215 2; have hcz11_3 : w9.cell? ⟨gb215, 3, none⟩ = some (.slice A0_3 l0_3.length c0_3) := b1 BK215 3; have hfz11_0 := blk_frozen BK215.out 0; have hfz11_1 := blk_frozen BK215.out 1; have hfz11_2 := blk_frozen BK215.out 2; have hfz11_3 := blk_frozen BK215.out 3; have hcz12_0 : w9.cell? ⟨gb216, 0, none⟩ = some (.int .i64 a1_0) := b1 BK216 0; have hcz12_1 : w9.cell? ⟨gb216, 1, none⟩ = some (.int .i64 a1_1) := b1 BK216 1; have hcz12_2 : w9.cell? ⟨gb216, 2, none⟩ = some (.int .i64 a1_2) := b1 BK216 2; have hcz12_3 : w9.cell? ⟨gb216, 3, none⟩ = some (.slice A1_3 l1_3.length c1_3) := b1 BK216 3; have hfz12_0 := blk_frozen BK216.out 0; have hfz12_1 := blk_frozen BK216.out 1; have hfz12_2 := blk_frozen BK216.out 2; have hfz12_3 := blk_frozen BK216.out 3) | ((with_reducible refine gate_callee (f := 14) rfl ?_); refine goesL_ (some 24) rfl rfl Try.func14 (by kernel_rfl) rfl #[.slice A0_3 l0_3.length c0_3, .slice A1_3 l1_3.length c1_3] rfl (by (try simp only [m3]); first | done | rfl | (simp only [d2]; rfl)) ?_; (with_reducible refine (laws_eqEdgeS.calls k _ _ l0_3 _ _ l1_3 true _ ?side1 ?side2 ?side3 ?side4 A6.out).mono ?_); (case side1 => exact zC (Kd.C_below HR0_3.out HB.out)); (case side2 => exact HC0_3.out); (case side3 => exact zC (Kd.C_below HR1_3.out HB.out)); (case side4 => exact HC1_3.out); rintro e w13 ⟨rfl, hb⟩; refine ⟨_, rfl, ?_⟩; replace BK215 := xB BK215 hb; replace BK216 := xB BK216 hb; replace HB := xS HB hb; (try clear hb); (try clear hb2); (try clear hk); (try clear hi)))
     go_ret; exact ⟨by first | rfl | (simp [errW_none, errW_some] <;> rfl) | (simp [*, errW_none, errW_some] <;> rfl), by repeat (first | (with_reducible first | exact HB.out | apply below_alloc | apply pw_below_drewN | apply below_drew1 | refine below_set ?_ GE215.out | refine below_set ?_ GE216.out) | exact HB.out)⟩
    ·replace c7 := Bool.eq_false_iff.mpr c7; subst c7
     have H1 : (some false) = some r := by rw [if_neg (show ¬ (false = true) by decide)] at H; exact H
     clear H; have H := H1; clear H1; obtain rfl := Option.some.inj H
     go_enter Try.func13, Try.ntmps13
     go_wp2_with (first | ((with_reducible refine gate_dst (N := 2) rfl ?_); refine box_event ?hg (N := 2) ?hd (cs := #[.int .i64 a0_0, .int .i64 a0_1, .int .i64 a0_2, .slice A0_3 l0_3.length c0_3]) (t := 28) ?hr ?_; (case hd => rfl); (case hg => rfl); (case hr => first | (go_simp; done) | (go_simp; rfl)); intro gb215 hg w14 hbox hb; have BK215 := Aside0.mk (hbox); have GW215 := xG HB hg; have GE215 := xG HB hg; replace HB := xS HB hb; clear hb hbox hg) | ((with_reducible refine gate_dst (N := 3) rfl ?_); refine box_event ?hg (N := 3) ?hd (cs := #[.int .i64 a1_0, .int .i64 a1_1, .int .i64 a1_2, .slice A1_3 l1_3.length c1_3]) (t := 28) ?hr ?_; (case hd => rfl); (case hg => rfl); (case hr => first | (go_simp; done) | (go_simp; rfl)); intro gb216 hg w15 hbox hb; have BK216 := Aside0.mk (hbox); have GW216 := xG HB hg; have GE216 := xG HB hg; replace HB := xS HB hb; have NB215_216 := xN BK215 hg; have NB216_215 := xM BK215 hg; replace BK215 := xB BK215 hb; clear hb hbox hg; have hnb16 := NB215_216.out; have hnc16 := NB216_215.out; have hcz17_0 : w15.cell? ⟨gb215, 0, none⟩ = some (.int .i64 a0_0) := b1 BK215 0; have hcz17_1 : w15.cell? ⟨gb215, 1, none⟩ = some (.int .i64 a0_1) := b1 BK215 1; have hcz17_2 : w15.cell? ⟨gb215, 2, none⟩ = some (.int .i64 a0_2) := b1 BK215 2; have hcz17_3 : w15.cell? ⟨gb215, 3, none⟩ = some (.slice A0_3 l0_3.length c0_3) := b1 BK215 3; have hfz17_0 := blk_frozen BK215.out 0; have hfz17_1 := blk_frozen BK215.out 1; have hfz17_2 := blk_frozen BK215.out 2; have hfz17_3 := blk_frozen BK215.out 3; have hcz18_0 : w15.cell? ⟨gb216, 0, none⟩ = some (.int .i64 a1_0) := b1 BK216 0; have hcz18_1 : w15.cell? ⟨gb216, 1, none⟩ = some (.int .i64 a1_1) := b1 BK216 1; have hcz18_2 : w15.cell? ⟨gb216, 2, none⟩ = some (.int .i64 a1_2) := b1 BK216 2; have hcz18_3 : w15.cell? ⟨gb216, 3, none⟩ = some (.slice A1_3 l1_3.length c1_3) := b1 BK216 3; have hfz18_0 := blk_frozen BK216.out 0; have hfz18_1 := blk_frozen BK216.out 1; have hfz18_2 := blk_frozen BK216.out 2; have hfz18_3 := blk_frozen BK216.out 3) | ((with_reducible refine gate_callee (f := 14) rfl ?_); refine goesL_ (some 24) rfl rfl Try.func14 (by kernel_rfl) rfl #[.slice A0_3 l0_3.length c0_3, .slice A1_3 l1_3.length c1_3] rfl (by (try simp only [m3]); first | done | rfl | (simp only [d2]; rfl)) ?_; (with_reducible refine (laws_eqEdgeS.calls k _ _ l0_3 _ _ l1_3 false _ ?side1 ?side2 ?side3 ?side4 A6.out).mono ?_); (case side1 => exact zC (Kd.C_below HR0_3.out HB.out)); (case side2 => exact HC0_3.out); (case side3 => exact zC (Kd.C_below HR1_3.out HB.out)); (case side4 => exact HC1_3.out); rintro e w19 ⟨rfl, hb⟩; refine ⟨_, rfl, ?_⟩; replace BK215 := xB BK215 hb; replace BK216 := xB BK216 hb; replace HB := xS HB hb; (try clear hb); (try clear hb2); (try clear hk); (try clear hi)))
     go_ret; exact ⟨by first | rfl | (simp [errW_none, errW_some] <;> rfl) | (simp [*, errW_none, errW_some] <;> rfl), by repeat (first | (with_reducible first | exact HB.out | apply below_alloc | apply pw_below_drewN | apply below_drew1 | refine below_set ?_ GE215.out | refine below_set ?_ GE216.out) | exact HB.out)⟩
   ·rw [if_neg c5] at H; have c5b0 : (a0_2 == a1_2) = false := beq_eq_false_iff_ne.mpr c5; have c5b1 : (a0_2 != a1_2) = true := bne_iff_ne.mpr c5; obtain rfl := Option.some.inj H
    go_enter Try.func13, Try.ntmps13
    go_wp2_with (first | ((with_reducible refine gate_dst (N := 2) rfl ?_); refine box_event ?hg (N := 2) ?hd (cs := #[.int .i64 a0_0, .int .i64 a0_1, .int .i64 a0_2, .slice A0_3 l0_3.length c0_3]) (t := 28) ?hr ?_; (case hd => rfl); (case hg => rfl); (case hr => first | (go_simp; done) | (go_simp; rfl)); intro gb215 hg w20 hbox hb; have BK215 := Aside0.mk (hbox); have GW215 := xG HB hg; have GE215 := xG HB hg; replace HB := xS HB hb; clear hb hbox hg) | ((with_reducible refine gate_dst (N := 3) rfl ?_); refine box_event ?hg (N := 3) ?hd (cs := #[.int .i64 a1_0, .int .i64 a1_1, .int .i64 a1_2, .slice A1_3 l1_3.length c1_3]) (t := 28) ?hr ?_; (case hd => rfl); (case hg => rfl); (case hr => first | (go_simp; done) | (go_simp; rfl)); intro gb216 hg w21 hbox hb; have BK216 := Aside0.mk (hbox); have GW216 := xG HB hg; have GE216 := xG HB hg; replace HB := xS HB hb; have NB215_216 := xN BK215 hg; have NB216_215 := xM BK215 hg; replace BK215 := xB BK215 hb; clear hb hbox hg; have hnb22 := NB215_216.out; have hnc22 := NB216_215.out; have hcz23_0 : w21.cell? ⟨gb215, 0, none⟩ = some (.int .i64 a0_0) := b1 BK215 0; have hcz23_1 : w21.cell? ⟨gb215, 1, none⟩ = some (.int .i64 a0_1) := b1 BK215 1; have hcz23_2 : w21.cell? ⟨gb215, 2, none⟩ = some (.int .i64 a0_2) := b1 BK215 2; have hcz23_3 : w21.cell? ⟨gb215, 3, none⟩ = some (.slice A0_3 l0_3.length c0_3) := b1 BK215 3; have hfz23_0 := blk_frozen BK215.out 0; have hfz23_1 := blk_frozen BK215.out 1; have hfz23_2 := blk_frozen BK215.out 2; have hfz23_3 := blk_frozen BK215.out 3; have hcz24_0 : w21.cell? ⟨gb216, 0, none⟩ = some (.int .i64 a1_0) := b1 BK216 0; have hcz24_1 : w21.cell? ⟨gb216, 1, none⟩ = some (.int .i64 a1_1) := b1 BK216 1; have hcz24_2 : w21.cell? ⟨gb216, 2, none⟩ = some (.int .i64 a1_2) := b1 BK216 2; have hcz24_3 : w21.cell? ⟨gb216, 3, none⟩ = some (.slice A1_3 l1_3.length c1_3) := b1 BK216 3; have hfz24_0 := blk_frozen BK216.out 0; have hfz24_1 := blk_frozen BK216.out 1; have hfz24_2 := blk_frozen BK216.out 2; have hfz24_3 := blk_frozen BK216.out 3))
    go_ret; exact ⟨by first | rfl | (simp [errW_none, errW_some] <;> rfl) | (simp [*, errW_none, errW_some] <;> rfl), by repeat (first | (with_reducible first | exact HB.out | apply below_alloc | apply pw_below_drewN | apply below_drew1 | refine below_set ?_ GE215.out | refine below_set ?_ GE216.out) | exact HB.out)⟩
  ·rw [if_neg c4] at H; have c4b0 : (a0_1 == a1_1) = false := beq_eq_false_iff_ne.mpr c4; have c4b1 : (a0_1 != a1_1) = true := bne_iff_ne.mpr c4; obtain rfl := Option.some.inj H
   go_enter Try.func13, Try.ntmps13
   go_wp2_with (first | ((with_reducible refine gate_dst (N := 2) rfl ?_); refine box_event ?hg (N := 2) ?hd (cs := #[.int .i64 a0_0, .int .i64 a0_1, .int .i64 a0_2, .slice A0_3 l0_3.length c0_3]) (t := 28) ?hr ?_; (case hd => rfl); (case hg => rfl); (case hr => first | (go_simp; done) | (go_simp; rfl)); intro gb215 hg w25 hbox hb; have BK215 := Aside0.mk (hbox); have GW215 := xG HB hg; have GE215 := xG HB hg; replace HB := xS HB hb; clear hb hbox hg) | ((with_reducible refine gate_dst (N := 3) rfl ?_); refine box_event ?hg (N := 3) ?hd (cs := #[.int .i64 a1_0, .int .i64 a1_1, .int .i64 a1_2, .slice A1_3 l1_3.length c1_3]) (t := 28) ?hr ?_; (case hd => rfl); (case hg => rfl); (case hr => first | (go_simp; done) | (go_simp; rfl)); intro gb216 hg w26 hbox hb; have BK216 := Aside0.mk (hbox); have GW216 := xG HB hg; have GE216 := xG HB hg; replace HB := xS HB hb; have NB215_216 := xN BK215 hg; have NB216_215 := xM BK215 hg; replace BK215 := xB BK215 hb; clear hb hbox hg; have hnb27 := NB215_216.out; have hnc27 := NB216_215.out; have hcz28_0 : w26.cell? ⟨gb215, 0, none⟩ = some (.int .i64 a0_0) := b1 BK215 0; have hcz28_1 : w26.cell? ⟨gb215, 1, none⟩ = some (.int .i64 a0_1) := b1 BK215 1; have hcz28_2 : w26.cell? ⟨gb215, 2, none⟩ = some (.int .i64 a0_2) := b1 BK215 2; have hcz28_3 : w26.cell? ⟨gb215, 3, none⟩ = some (.slice A0_3 l0_3.length c0_3) := b1 BK215 3; have hfz28_0 := blk_frozen BK215.out 0; have hfz28_1 := blk_frozen BK215.out 1; have hfz28_2 := blk_frozen BK215.out 2; have hfz28_3 := blk_frozen BK215.out 3; have hcz29_0 : w26.cell? ⟨gb216, 0, none⟩ = some (.int .i64 a1_0) := b1 BK216 0; have hcz29_1 : w26.cell? ⟨gb216, 1, none⟩ = some (.int .i64 a1_1) := b1 BK216 1; have hcz29_2 : w26.cell? ⟨gb216, 2, none⟩ = some (.int .i64 a1_2) := b1 BK216 2; have hcz29_3 : w26.cell? ⟨gb216, 3, none⟩ = some (.slice A1_3 l1_3.length c1_3) := b1 BK216 3; have hfz29_0 := blk_frozen BK216.out 0; have hfz29_1 := blk_frozen BK216.out 1; have hfz29_2 := blk_frozen BK216.out 2; have hfz29_3 := blk_frozen BK216.out 3))
   go_ret; exact ⟨by first | rfl | (simp [errW_none, errW_some] <;> rfl) | (simp [*, errW_none, errW_some] <;> rfl), by repeat (first | (with_reducible first | exact HB.out | apply below_alloc | apply pw_below_drewN | apply below_drew1 | refine below_set ?_ GE215.out | refine below_set ?_ GE216.out) | exact HB.out)⟩
 ·rw [if_neg c3] at H; have c3b0 : (a0_0 == a1_0) = false := beq_eq_false_iff_ne.mpr c3; have c3b1 : (a0_0 != a1_0) = true := bne_iff_ne.mpr c3; obtain rfl := Option.some.inj H
  go_enter Try.func13, Try.ntmps13
  go_wp2_with (first | ((with_reducible refine gate_dst (N := 2) rfl ?_); refine box_event ?hg (N := 2) ?hd (cs := #[.int .i64 a0_0, .int .i64 a0_1, .int .i64 a0_2, .slice A0_3 l0_3.length c0_3]) (t := 28) ?hr ?_; (case hd => rfl); (case hg => rfl); (case hr => first | (go_simp; done) | (go_simp; rfl)); intro gb215 hg w30 hbox hb; have BK215 := Aside0.mk (hbox); have GW215 := xG HB hg; have GE215 := xG HB hg; replace HB := xS HB hb; clear hb hbox hg) | ((with_reducible refine gate_dst (N := 3) rfl ?_); refine box_event ?hg (N := 3) ?hd (cs := #[.int .i64 a1_0, .int .i64 a1_1, .int .i64 a1_2, .slice A1_3 l1_3.length c1_3]) (t := 28) ?hr ?_; (case hd => rfl); (case hg => rfl); (case hr => first | (go_simp; done) | (go_simp; rfl)); intro gb216 hg w31 hbox hb; have BK216 := Aside0.mk (hbox); have GW216 := xG HB hg; have GE216 := xG HB hg; replace HB := xS HB hb; have NB215_216 := xN BK215 hg; have NB216_215 := xM BK215 hg; replace BK215 := xB BK215 hb; clear hb hbox hg; have hnb32 := NB215_216.out; have hnc32 := NB216_215.out; have hcz33_0 : w31.cell? ⟨gb215, 0, none⟩ = some (.int .i64 a0_0) := b1 BK215 0; have hcz33_1 : w31.cell? ⟨gb215, 1, none⟩ = some (.int .i64 a0_1) := b1 BK215 1; have hcz33_2 : w31.cell? ⟨gb215, 2, none⟩ = some (.int .i64 a0_2) := b1 BK215 2; have hcz33_3 : w31.cell? ⟨gb215, 3, none⟩ = some (.slice A0_3 l0_3.length c0_3) := b1 BK215 3; have hfz33_0 := blk_frozen BK215.out 0; have hfz33_1 := blk_frozen BK215.out 1; have hfz33_2 := blk_frozen BK215.out 2; have hfz33_3 := blk_frozen BK215.out 3; have hcz34_0 : w31.cell? ⟨gb216, 0, none⟩ = some (.int .i64 a1_0) := b1 BK216 0; have hcz34_1 : w31.cell? ⟨gb216, 1, none⟩ = some (.int .i64 a1_1) := b1 BK216 1; have hcz34_2 : w31.cell? ⟨gb216, 2, none⟩ = some (.int .i64 a1_2) := b1 BK216 2; have hcz34_3 : w31.cell? ⟨gb216, 3, none⟩ = some (.slice A1_3 l1_3.length c1_3) := b1 BK216 3; have hfz34_0 := blk_frozen BK216.out 0; have hfz34_1 := blk_frozen BK216.out 1; have hfz34_2 := blk_frozen BK216.out 2; have hfz34_3 := blk_frozen BK216.out 3))
  go_ret; exact ⟨by first | rfl | (simp [errW_none, errW_some] <;> rfl) | (simp [*, errW_none, errW_some] <;> rfl), by repeat (first | (with_reducible first | exact HB.out | apply below_alloc | apply pw_below_drewN | apply below_drew1 | refine below_set ?_ GE215.out | refine below_set ?_ GE216.out) | exact HB.out)⟩


/-! ### laws_markEdgeS: function 15 -/
def laws_markEdgeS.l0 : Nat → List (S33) → Int → Int → Option (Int × (List (S33)))
 | 0, _, _, _ => none
 | k + 1, x0, x1, x5 => if x5 < (x0.length : Int) then (if 0 ≤ x5 then ((some (x0.set (x5 : Int).toNat (⟨x1, (rd_T33 x0 x5).f1, (rd_T33 x0 x5).f2, (rd_T33 x0 x5).f3⟩ : S33) : List (S33))).bind fun y218 => ((some (y218.set (x5 : Int).toNat (⟨(rd_T33 y218 x5).f0, wrap64 (x1 + 1), (rd_T33 y218 x5).f2, (rd_T33 y218 x5).f3⟩ : S33) : List (S33))).bind fun y219 => ((some (y219.set (x5 : Int).toNat (⟨(rd_T33 y219 x5).f0, (rd_T33 y219 x5).f1, wrap64 ((wrap64 (x1 + 1)) + 1), (rd_T33 y219 x5).f3⟩ : S33) : List (S33))).bind fun y220 => (laws_markEdgeS.l0 k (y220.set (x5 : Int).toNat (⟨(rd_T33 y220 x5).f0, (rd_T33 y220 x5).f1, (rd_T33 y220 x5).f2, ((Int.tmod (wrap64 ((wrap64 ((wrap64 (x1 + 1)) + 1)) + 1)) 3) == 0)⟩ : S33)) (wrap64 ((wrap64 ((wrap64 ((wrap64 (x1 + 1)) + 1)) + 1)) + 1)) (wrap64 (x5 + 1)))))) else (none)) else (some (x1, x0))
def laws_markEdgeS.f (k : Nat) (l0 : List (S33)) (a1 : Int) : Option (Int × (List (S33))) := laws_markEdgeS.l0 k l0 a1 0
theorem laws_markEdgeS.mono_l : ∀ k, (∀ y0 y1 y2, LeO (laws_markEdgeS.l0 k y0 y1 y2) (laws_markEdgeS.l0 (k + 1) y0 y1 y2))
 | 0 => fun _ _ _ r h => by simp [laws_markEdgeS.l0] at h
 | k + 1 => by
  have ih0 := laws_markEdgeS.mono_l k
  ·intro y0 y1 y2
   unfold laws_markEdgeS.l0
   repeat' first
   | (with_reducible exact ih0 _ _ _)
   | (with_reducible exact LeO.refl _)
   | (with_reducible exact LeO.none _)
   | (with_reducible refine LeO.ite ?_ ?_)
   | (with_reducible refine LeO.bind ?_ (fun _ => ?_))
   | exact ih0 _ _ _
   | exact LeO.none _
   | refine LeO.ite ?_ ?_
   | refine LeO.bind ?_ (fun _ => ?_)
theorem laws_markEdgeS.mono : ∀ a0 a1 k, LeO (laws_markEdgeS.f k a0 a1) (laws_markEdgeS.f (k + 1) a0 a1) := by
 intro a0 a1 k
 have ih0 := laws_markEdgeS.mono_l k
 unfold laws_markEdgeS.f
 repeat' first
   | (with_reducible exact ih0 _ _ _)
   | (with_reducible exact LeO.refl _)
   | (with_reducible exact LeO.none _)
   | (with_reducible refine LeO.ite ?_ ?_)
   | (with_reducible refine LeO.bind ?_ (fun _ => ?_))
   | exact ih0 _ _ _
   | exact LeO.none _
   | refine LeO.ite ?_ ?_
   | refine LeO.bind ?_ (fun _ => ?_)
open Go.Proofs.Ytigmokdcanebeaa.Short2 in
set_option maxHeartbeats 8000000 in
set_option maxRecDepth 100000 in
theorem laws_markEdgeS.calls (k : Nat) (P0_ : Nat → Prop) (u9000_ : Value) (l0 : List (S33)) (a1 : Int) (r1 : Int) (r2 : List (S33)) (w0 w : World) (hB : Below w0.heap.size w0 w) (ho0 : Kd.R k33 33 w w0.heap.size P0_ u9000_ l0) (h : laws_markEdgeS.f k l0 a1 = some (r1, r2)) :
  Calls Try.prog 15 #[u9000_, .int .i64 a1] w fun e w' => e = .returned (.int .i64 r1) ∧ Kd.R k33 33 w' w0.heap.size (fun k_ => (P0_ k_ ∨ w.heap.size ≤ k_)) u9000_ r2 ∧ Below w0.heap.size w0 w' ∧ Kept w w' (fun k_ => P0_ k_) := by
 have HO0 := Aside0.mk (show Kd.R k33 33 w w0.heap.size (fun k_ => (P0_ k_ ∨ w.heap.size ≤ k_)) u9000_ l0 from Kd.R_mono ho0 (fun k_ hk => (.inl hk))); have HK := Aside0.mk (Kept.refl w (fun k_ => P0_ k_)); have HW0 := Aside0.mk hB.size; have HB := Aside0.mk hB; clear hB; have H : (laws_markEdgeS.l0 k l0 a1 0) = some (r1, r2) := h; clear h; have H' := Aside0.mk H; clear H
 go_enter Try.func15, Try.ntmps15
 go_wp2
 go_loopg [1, 5] k (fun kq v1 v5 w' => ∃ (x0_1 : List (S33)) (x1_1 : Int) (x5_1 : Int), v1 = .int .i64 x1_1 ∧ v5 = .int .i64 x5_1 ∧ Aside0 (laws_markEdgeS.l0 kq x0_1 x1_1 x5_1 = some (r1, r2)) ∧ Aside0 (kq ≤ k) ∧ Aside0 (Kd.R k33 33 w' w0.heap.size (fun k_ => (P0_ k_ ∨ w.heap.size ≤ k_)) u9000_ x0_1) ∧ Aside0 (Kept w w' (fun k_ => P0_ k_)) ∧ Aside0 (Below w0.heap.size w0 w'))
 case atStart => exact ⟨(l0), (a1), (0), (by first | rfl | (simp; done) | (simp [*]; done) | (rw [Int.tmod_eq_emod_of_nonneg (Int.natCast_nonneg _)]; done)), (by first | rfl | (simp; done) | (simp [*]; done) | (rw [Int.tmod_eq_emod_of_nonneg (Int.natCast_nonneg _)]; done)), H', ⟨Nat.le_refl _⟩, ⟨zR HO0.out⟩, ⟨by repeat (first | (with_reducible first | exact HK.out | apply Kept.alloc | apply Kept.drewN | apply Kept.drew) | exact HK.out)⟩, ⟨zS HB.out⟩⟩
 case round =>
  clear H'
  try clear c1
  try clear p2
  obtain ⟨x0_1, x1_1, x5_1, rfl, rfl, HA, HK1, HO_0, HK, HB⟩ := hrel
  cases gk with
  | zero => exact absurd HA.out (by simp [laws_markEdgeS.l0])
  | succ k1 =>
   have H := HA.out; clear HA; simp only [laws_markEdgeS.l0] at H
   by_cases c3 : x5_1 < (x0_1.length : Int)
   ·rw [if_pos c3] at H; have c3b0 : decide (x5_1 < (x0_1.length : Int)) = true := decide_eq_true c3; clear c3
    by_cases c4 : 0 ≤ x5_1
    ·rw [if_pos c4] at H; have c4b0 : decide (0 ≤ x5_1) = true := decide_eq_true c4; clear c4; obtain ⟨y218, hy218⟩ : ∃ y_ : List (S33), y_ = (x0_1.set (x5_1 : Int).toNat (⟨x1_1, (rd_T33 x0_1 x5_1).f1, (rd_T33 x0_1 x5_1).f2, (rd_T33 x0_1 x5_1).f3⟩ : S33)) := ⟨_, rfl⟩
     replace H : ((some (y218.set (x5_1 : Int).toNat (⟨(rd_T33 y218 x5_1).f0, wrap64 (x1_1 + 1), (rd_T33 y218 x5_1).f2, (rd_T33 y218 x5_1).f3⟩ : S33) : List (S33))).bind fun y219 => ((some (y219.set (x5_1 : Int).toNat (⟨(rd_T33 y219 x5_1).f0, (rd_T33 y219 x5_1).f1, wrap64 ((wrap64 (x1_1 + 1)) + 1), (rd_T33 y219 x5_1).f3⟩ : S33) : List (S33))).bind fun y220 => (laws_markEdgeS.l0 k1 (y220.set (x5_1 : Int).toNat (⟨(rd_T33 y220 x5_1).f0, (rd_T33 y220 x5_1).f1, (rd_T33 y220 x5_1).f2, ((Int.tmod (wrap64 ((wrap64 ((wrap64 (x1_1 + 1)) + 1)) + 1)) 3) == 0)⟩ : S33)) (wrap64 ((wrap64 ((wrap64 ((wrap64 (x1_1 + 1)) + 1)) + 1)) + 1)) (wrap64 (x5_1 + 1))))) = some (r1, r2) := by first | (rw [hy218]; with_reducible exact H) | (have H2_ := (Option.bind_some _ _).symm.trans H; rw [hy218]; with_reducible exact H2_) | (have H2_ := (Option.bind_some _ _).symm.trans H; with_reducible exact H2_) | with_reducible exact H | (rw [hy218]; exact H) | exact H
     have Ny218 := Aside0.mk hy218; clear hy218; obtain ⟨y219, hy219⟩ : ∃ y_ : List (S33), y_ = (y218.set (x5_1 : Int).toNat (⟨(rd_T33 y218 x5_1).f0, wrap64 (x1_1 + 1), (rd_T33 y218 x5_1).f2, (rd_T33 y218 x5_1).f3⟩ : S33)) := ⟨_, rfl⟩
     replace H : ((some (y219.set (x5_1 : Int).toNat (⟨(rd_T33 y219 x5_1).f0, (rd_T33 y219 x5_1).f1, wrap64 ((wrap64 (x1_1 + 1)) + 1), (rd_T33 y219 x5_1).f3⟩ : S33) : List (S33))).bind fun y220 => (laws_markEdgeS.l0 k1 (y220.set (x5_1 : Int).toNat (⟨(rd_T33 y220 x5_1).f0, (rd_T33 y220 x5_1).f1, (rd_T33 y220 x5_1).f2, ((Int.tmod (wrap64 ((wrap64 ((wrap64 (x1_1 + 1)) + 1)) + 1)) 3) == 0)⟩ : S33)) (wrap64 ((wrap64 ((wrap64 ((wrap64 (x1_1 + 1)) + 1)) + 1)) + 1)) (wrap64 (x5_1 + 1)))) = some (r1, r2) := by first | (rw [hy219]; with_reducible exact H) | (have H2_ := (Option.bind_some _ _).symm.trans H; rw [hy219]; with_reducible exact H2_) | (have H2_ := (Option.bind_some _ _).symm.trans H; with_reducible exact H2_) | with_reducible exact H | (rw [hy219]; exact H) | exact H
     have Ny219 := Aside0.mk hy219; clear hy219; obtain ⟨y220, hy220⟩ : ∃ y_ : List (S33), y_ = (y219.set (x5_1 : Int).toNat (⟨(rd_T33 y219 x5_1).f0, (rd_T33 y219 x5_1).f1, wrap64 ((wrap64 (x1_1 + 1)) + 1), (rd_T33 y219 x5_1).f3⟩ : S33)) := ⟨_, rfl⟩
     replace H : (laws_markEdgeS.l0 k1 (y220.set (x5_1 : Int).toNat (⟨(rd_T33 y220 x5_1).f0, (rd_T33 y220 x5_1).f1, (rd_T33 y220 x5_1).f2, ((Int.tmod (wrap64 ((wrap64 ((wrap64 (x1_1 + 1)) + 1)) + 1)) 3) == 0)⟩ : S33)) (wrap64 ((wrap64 ((wrap64 ((wrap64 (x1_1 + 1)) + 1)) + 1)) + 1)) (wrap64 (x5_1 + 1))) = some (r1, r2) := by first | (rw [hy220]; with_reducible exact H) | (have H2_ := (Option.bind_some _ _).symm.trans H; rw [hy220]; with_reducible exact H2_) | (have H2_ := (Option.bind_some _ _).symm.trans H; with_reducible exact H2_) | with_reducible exact H | (rw [hy220]; exact H) | exact H
     have Ny220 := Aside0.mk hy220; clear hy220; obtain ⟨y221, hy221⟩ : ∃ y_ : List (S33), y_ = (y220.set (x5_1 : Int).toNat (⟨(rd_T33 y220 x5_1).f0, (rd_T33 y220 x5_1).f1, (rd_T33 y220 x5_1).f2, ((Int.tmod (wrap64 ((wrap64 ((wrap64 (x1_1 + 1)) + 1)) + 1)) 3) == 0)⟩ : S33)) := ⟨_, rfl⟩
     replace H : (laws_markEdgeS.l0 k1 y221 (wrap64 ((wrap64 ((wrap64 ((wrap64 (x1_1 + 1)) + 1)) + 1)) + 1)) (wrap64 (x5_1 + 1))) = some (r1, r2) := by first | (rw [hy221]; with_reducible exact H) | (have H2_ := (Option.bind_some _ _).symm.trans H; rw [hy221]; with_reducible exact H2_) | (have H2_ := (Option.bind_some _ _).symm.trans H; with_reducible exact H2_) | with_reducible exact H | (rw [hy221]; exact H) | exact H
     have Ny221 := Aside0.mk hy221; clear hy221; have H' := Aside0.mk H; clear H; obtain ⟨Ao9, co9, eo9⟩ := Kd.R_slice HO_0.out; subst eo9; have p5 : 0 ≤ (x5_1 : Int) := of_decide_eq_true (by first | (with_reducible assumption) | assumption); have q5 : (x5_1 : Int) < ((x0_1.length : Int) : Int) := of_decide_eq_true (by first | (with_reducible assumption) | assumption); obtain ⟨go5, co5, eo5, gb5, gl5, cl5, HG5⟩ := Kd.R_form HO_0.out (by omega)
     (first | cases eo5 | (injection eo5 with ea_ en_ ec_; (first | subst ea_ | (injection ea_ with ea_; subst ea_)); subst ec_; clear en_))
     have GB5 := Aside0.mk gb5; have GG5 := Aside0.mk HG5; clear gb5 gl5 HG5; have HMgo5 := Aside0.mk (show (P0_ go5 ∨ w.heap.size ≤ go5) from (HO_0.out.1 _ rfl)); obtain ⟨ce5, hcl5, hM5, hcc5, hfr5⟩ := Kd.R_elem HO_0.out z33 (x5_1 : Int) p5 q5; obtain rfl := k33_openM hM5; have hx5_0 : wr.cell? ⟨go5, (x5_1 : Int).toNat * 4, none⟩ = some (.int .i64 ((rd_T33 x0_1 x5_1).f0)) := hcc5 0 _ rfl; have hx5_1 : wr.cell? ⟨go5, (x5_1 : Int).toNat * 4 + 1, none⟩ = some (.int .i64 ((rd_T33 x0_1 x5_1).f1)) := hcc5 1 _ rfl; have hx5_2 : wr.cell? ⟨go5, (x5_1 : Int).toNat * 4 + 2, none⟩ = some (.int .i64 ((rd_T33 x0_1 x5_1).f2)) := hcc5 2 _ rfl; have hx5_3 : wr.cell? ⟨go5, (x5_1 : Int).toNat * 4 + 3, none⟩ = some (.bool ((rd_T33 x0_1 x5_1).f3)) := hcc5 3 _ rfl; have hf5_0 : wr.frozen? ⟨go5, (x5_1 : Int).toNat * 4, none⟩ = false := hfr5 0; have hf5_1 : wr.frozen? ⟨go5, (x5_1 : Int).toNat * 4 + 1, none⟩ = false := hfr5 1; have hf5_2 : wr.frozen? ⟨go5, (x5_1 : Int).toNat * 4 + 2, none⟩ = false := hfr5 2; have hf5_3 : wr.frozen? ⟨go5, (x5_1 : Int).toNat * 4 + 3, none⟩ = false := hfr5 3; clear hcl5 hcc5 hfr5 hM5; replace p5 := eq_true p5; replace q5 := eq_true q5; have HX10 := Aside0.mk (show Kd.R k33 33 wr w0.heap.size (fun k_ => (P0_ k_ ∨ w.heap.size ≤ k_)) (.slice (some ⟨go5, 0, none⟩) x0_1.length co9) x0_1 from (zR HO_0.out)); obtain ⟨ce10, hcl10, hM10, hcc10, hfr10⟩ := Kd.R_elem HX10.out z33 (x5_1 : Int) (of_decide_eq_true (by first | (with_reducible assumption) | assumption)) (by have h_ : (x5_1 : Int) < ((x0_1.length : Int) : Int) := of_decide_eq_true (by first | (with_reducible assumption) | assumption); first | exact h_ | (have e_ := (Kd.R_reads' HO_0.out).1; omega) | simpa using h_); obtain rfl := k33_openM hM10; have HP10 := Kd.R_seg HX10.out (x5_1 : Int) (of_decide_eq_true (by first | (with_reducible assumption) | assumption)) (by have h_ : (x5_1 : Int) < ((x0_1.length : Int) : Int) := of_decide_eq_true (by first | (with_reducible assumption) | assumption); first | exact h_ | (have e_ := (Kd.R_reads' HO_0.out).1; omega) | simpa using h_) (seg := [.int .i64 x1_1]) (j := 0) hcl10 hcc10 (show 1 ≤ 4 from by decide) (x' := (⟨x1_1, (rd_T33 x0_1 x5_1).f1, (rd_T33 x0_1 x5_1).f2, (rd_T33 x0_1 x5_1).f3⟩ : S33)) (k33_mkM _ _ _ (⟨x1_1, (rd_T33 x0_1 x5_1).f1, (rd_T33 x0_1 x5_1).f2, (rd_T33 x0_1 x5_1).f3⟩ : S33) ) (fun _ hk => hk); have hx10_0 := hcc10 0 _ rfl
     (try simp only [show (k33).sz = 4 from rfl, Nat.mul_one, Nat.add_zero] at hx10_0)
     have hf10_0 := hfr10 0
     (try simp only [show (k33).sz = 4 from rfl, Nat.mul_one, Nat.add_zero] at hf10_0)
     clear hcl10 hcc10 hfr10 hM10
     go_wp2_with (first | ((with_reducible refine gate_store (t := 3) (p := 16) rfl ?_); refine store_event (t := 3) (p := 16) (v := ?vo_w11) (w1 := (wr.setCell ⟨go5, (x5_1 : Int).toNat * 4, none⟩ (.int .i64 x1_1))) ?hg ?ho ?hn ?hr ?_; (case ho => rfl); (case hg => rfl); (case hn => rfl); (case hr => first | (go_simp; done) | (go_simp; rfl)); intro w11 hw; have hg : wr.grownBy w11 (some go5) := (by rw [hw]; exact HP10.2); have hp_ : Kd.R k33 33 w11 w0.heap.size (fun k_ => (P0_ k_ ∨ w.heap.size ≤ k_)) (.slice (some ⟨go5, 0, none⟩) x0_1.length co9) y218 := (by rw [hw, Ny218.out]; exact HP10.1); clear HP10; have n0_ := Aside0.mk (hp_); have n1_ := Aside0.mk ((by rw [hw]; exact below_set (HB.out) GB5.out : Below w0.heap.size w0 w11)); have n2_ := Aside0.mk (Kept.of_grown (S := (fun k_ => P0_ k_)) hg (by repeat (first | (with_reducible first | exact HK.out | apply Kept.alloc | apply Kept.drewN | apply Kept.drew) | exact HK.out)) (fun k_ e_ => (HO_0.out.1 k_ e_))); clear HO_0; clear HB; clear HK; have HO_0 := n0_; have HB := n1_; have HK := n2_; clear n0_ n1_ n2_; clear hg hw hp_; have p6 : 0 ≤ (x5_1 : Int) := of_decide_eq_true (by first | (with_reducible assumption) | assumption); have q6 : (x5_1 : Int) < ((x0_1.length : Int) : Int) := of_decide_eq_true (by first | (with_reducible assumption) | assumption); obtain ⟨ce6, hcl6, hM6, hcc6, hfr6⟩ := Kd.R_elem HO_0.out z33 (x5_1 : Int) p6 q6; obtain rfl := k33_openM hM6; have hx6_0 : w11.cell? ⟨go5, (x5_1 : Int).toNat * 4, none⟩ = some (.int .i64 ((rd_T33 y218 x5_1).f0)) := hcc6 0 _ rfl; have hx6_1 : w11.cell? ⟨go5, (x5_1 : Int).toNat * 4 + 1, none⟩ = some (.int .i64 ((rd_T33 y218 x5_1).f1)) := hcc6 1 _ rfl; have hx6_2 : w11.cell? ⟨go5, (x5_1 : Int).toNat * 4 + 2, none⟩ = some (.int .i64 ((rd_T33 y218 x5_1).f2)) := hcc6 2 _ rfl; have hx6_3 : w11.cell? ⟨go5, (x5_1 : Int).toNat * 4 + 3, none⟩ = some (.bool ((rd_T33 y218 x5_1).f3)) := hcc6 3 _ rfl; have hf6_0 : w11.frozen? ⟨go5, (x5_1 : Int).toNat * 4, none⟩ = false := hfr6 0; have hf6_1 : w11.frozen? ⟨go5, (x5_1 : Int).toNat * 4 + 1, none⟩ = false := hfr6 1; have hf6_2 : w11.frozen? ⟨go5, (x5_1 : Int).toNat * 4 + 2, none⟩ = false := hfr6 2; have hf6_3 : w11.frozen? ⟨go5, (x5_1 : Int).toNat * 4 + 3, none⟩ = false := hfr6 3; clear hcl6 hcc6 hfr6 hM6; replace p6 := eq_true p6; replace q6 := eq_true q6; have HX12 := Aside0.mk (show Kd.R k33 33 w11 w0.heap.size (fun k_ => (P0_ k_ ∨ w.heap.size ≤ k_)) (.slice (some ⟨go5, 0, none⟩) x0_1.length co9) y218 from (zR HO_0.out)); obtain ⟨ce12, hcl12, hM12, hcc12, hfr12⟩ := Kd.R_elem HX12.out z33 (x5_1 : Int) (of_decide_eq_true (by first | (with_reducible assumption) | assumption)) (by have h_ : (x5_1 : Int) < ((x0_1.length : Int) : Int) := of_decide_eq_true (by first | (with_reducible assumption) | assumption); first | exact h_ | (have e_ := (Kd.R_reads' HO_0.out).1; omega) | simpa using h_); obtain rfl := k33_openM hM12; have HP12 := Kd.R_seg HX12.out (x5_1 : Int) (of_decide_eq_true (by first | (with_reducible assumption) | assumption)) (by have h_ : (x5_1 : Int) < ((x0_1.length : Int) : Int) := of_decide_eq_true (by first | (with_reducible assumption) | assumption); first | exact h_ | (have e_ := (Kd.R_reads' HO_0.out).1; omega) | simpa using h_) (seg := [.int .i64 (wrap64 (x1_1 + 1))]) (j := 1) hcl12 hcc12 (show 2 ≤ 4 from by decide) (x' := (⟨(rd_T33 y218 x5_1).f0, wrap64 (x1_1 + 1), (rd_T33 y218 x5_1).f2, (rd_T33 y218 x5_1).f3⟩ : S33)) (k33_mkM _ _ _ (⟨(rd_T33 y218 x5_1).f0, wrap64 (x1_1 + 1), (rd_T33 y218 x5_1).f2, (rd_T33 y218 x5_1).f3⟩ : S33) ) (fun _ hk => hk); have hx12_1 := hcc12 1 _ rfl; (try simp only [show (k33).sz = 4 from rfl, Nat.mul_one, Nat.add_zero] at hx12_1); have hf12_1 := hfr12 1; (try simp only [show (k33).sz = 4 from rfl, Nat.mul_one, Nat.add_zero] at hf12_1); clear hcl12 hcc12 hfr12 hM12) | ((with_reducible refine gate_store (t := 3) (p := 23) rfl ?_); refine store_event (t := 3) (p := 23) (v := ?vo_w13) (w1 := (w11.setCell ⟨go5, (x5_1 : Int).toNat * 4 + 1, none⟩ (.int .i64 (wrap64 (x1_1 + 1))))) ?hg ?ho ?hn ?hr ?_; (case ho => rfl); (case hg => rfl); (case hn => rfl); (case hr => first | (go_simp; done) | (go_simp; rfl)); intro w13 hw; have hg : w11.grownBy w13 (some go5) := (by rw [hw]; exact HP12.2); have hp_ : Kd.R k33 33 w13 w0.heap.size (fun k_ => (P0_ k_ ∨ w.heap.size ≤ k_)) (.slice (some ⟨go5, 0, none⟩) x0_1.length co9) y219 := (by rw [hw, Ny219.out]; exact HP12.1); clear HP12; have n0_ := Aside0.mk (hp_); have n1_ := Aside0.mk ((by rw [hw]; exact below_set (HB.out) GB5.out : Below w0.heap.size w0 w13)); have n2_ := Aside0.mk (Kept.of_grown (S := (fun k_ => P0_ k_)) hg (by repeat (first | (with_reducible first | exact HK.out | apply Kept.alloc | apply Kept.drewN | apply Kept.drew) | exact HK.out)) (fun k_ e_ => (HO_0.out.1 k_ e_))); clear HO_0; clear HB; clear HK; have HO_0 := n0_; have HB := n1_; have HK := n2_; clear n0_ n1_ n2_; clear hg hw hp_; have p7 : 0 ≤ (x5_1 : Int) := of_decide_eq_true (by first | (with_reducible assumption) | assumption); have q7 : (x5_1 : Int) < ((x0_1.length : Int) : Int) := of_decide_eq_true (by first | (with_reducible assumption) | assumption); obtain ⟨ce7, hcl7, hM7, hcc7, hfr7⟩ := Kd.R_elem HO_0.out z33 (x5_1 : Int) p7 q7; obtain rfl := k33_openM hM7; have hx7_0 : w13.cell? ⟨go5, (x5_1 : Int).toNat * 4, none⟩ = some (.int .i64 ((rd_T33 y219 x5_1).f0)) := hcc7 0 _ rfl; have hx7_1 : w13.cell? ⟨go5, (x5_1 : Int).toNat * 4 + 1, none⟩ = some (.int .i64 ((rd_T33 y219 x5_1).f1)) := hcc7 1 _ rfl; have hx7_2 : w13.cell? ⟨go5, (x5_1 : Int).toNat * 4 + 2, none⟩ = some (.int .i64 ((rd_T33 y219 x5_1).f2)) := hcc7 2 _ rfl; have hx7_3 : w13.cell? ⟨go5, (x5_1 : Int).toNat * 4 + 3, none⟩ = some (.bool ((rd_T33 y219 x5_1).f3)) := hcc7 3 _ rfl; have hf7_0 : w13.frozen? ⟨go5, (x5_1 : Int).toNat * 4, none⟩ = false := hfr7 0; have hf7_1 : w13.frozen? ⟨go5, (x5_1 : Int).toNat * 4 + 1, none⟩ = false := hfr7 1; have hf7_2 : w13.frozen? ⟨go5, (x5_1 : Int).toNat * 4 + 2, none⟩ = false := hfr7 2; have hf7_3 : w13.frozen? ⟨go5, (x5_1 : Int).toNat * 4 + 3, none⟩ = false := hfr7 3; clear hcl7 hcc7 hfr7 hM7; replace p7 := eq_true p7; replace q7 := eq_true q7; have HX14 := Aside0.mk (show Kd.R k33 33 w13 w0.heap.size (fun k_ => (P0_ k_ ∨ w.heap.size ≤ k_)) (.slice (some ⟨go5, 0, none⟩) x0_1.length co9) y219 from (zR HO_0.out)); obtain ⟨ce14, hcl14, hM14, hcc14, hfr14⟩ := Kd.R_elem HX14.out z33 (x5_1 : Int) (of_decide_eq_true (by first | (with_reducible assumption) | assumption)) (by have h_ : (x5_1 : Int) < ((x0_1.length : Int) : Int) := of_decide_eq_true (by first | (with_reducible assumption) | assumption); first | exact h_ | (have e_ := (Kd.R_reads' HO_0.out).1; omega) | simpa using h_); obtain rfl := k33_openM hM14; have HP14 := Kd.R_seg HX14.out (x5_1 : Int) (of_decide_eq_true (by first | (with_reducible assumption) | assumption)) (by have h_ : (x5_1 : Int) < ((x0_1.length : Int) : Int) := of_decide_eq_true (by first | (with_reducible assumption) | assumption); first | exact h_ | (have e_ := (Kd.R_reads' HO_0.out).1; omega) | simpa using h_) (seg := [.int .i64 (wrap64 ((wrap64 (x1_1 + 1)) + 1))]) (j := 2) hcl14 hcc14 (show 3 ≤ 4 from by decide) (x' := (⟨(rd_T33 y219 x5_1).f0, (rd_T33 y219 x5_1).f1, wrap64 ((wrap64 (x1_1 + 1)) + 1), (rd_T33 y219 x5_1).f3⟩ : S33)) (k33_mkM _ _ _ (⟨(rd_T33 y219 x5_1).f0, (rd_T33 y219 x5_1).f1, wrap64 ((wrap64 (x1_1 + 1)) + 1), (rd_T33 y219 x5_1).f3⟩ : S33) ) (fun _ hk => hk); have hx14_2 := hcc14 2 _ rfl; (try simp only [show (k33).sz = 4 from rfl, Nat.mul_one, Nat.add_zero] at hx14_2); have hf14_2 := hfr14 2; (try simp only [show (k33).sz = 4 from rfl, Nat.mul_one, Nat.add_zero] at hf14_2); clear hcl14 hcc14 hfr14 hM14) | ((with_reducible refine gate_store (t := 3) (p := 30) rfl ?_); refine store_event (t := 3) (p := 30) (v := ?vo_w15) (w1 := (w13.setCell ⟨go5, (x5_1 : Int).toNat * 4 + 2, none⟩ (.int .i64 (wrap64 ((wrap64 (x1_1 + 1)) + 1))))) ?hg ?ho ?hn ?hr ?_; (case ho => rfl); (case hg => rfl); (case hn => rfl); (case hr => first | (go_simp; done) | (go_simp; rfl)); intro w15 hw; have hg : w13.grownBy w15 (some go5) := (by rw [hw]; exact HP14.2); have hp_ : Kd.R k33 33 w15 w0.heap.size (fun k_ => (P0_ k_ ∨ w.heap.size ≤ k_)) (.slice (some ⟨go5, 0, none⟩) x0_1.length co9) y220 := (by rw [hw, Ny220.out]; exact HP14.1); clear HP14; have n0_ := Aside0.mk (hp_); have n1_ := Aside0.mk ((by rw [hw]; exact below_set (HB.out) GB5.out : Below w0.heap.size w0 w15)); have n2_ := Aside0.mk (Kept.of_grown (S := (fun k_ => P0_ k_)) hg (by repeat (first | (with_reducible first | exact HK.out | apply Kept.alloc | apply Kept.drewN | apply Kept.drew) | exact HK.out)) (fun k_ e_ => (HO_0.out.1 k_ e_))); clear HO_0; clear HB; clear HK; have HO_0 := n0_; have HB := n1_; have HK := n2_; clear n0_ n1_ n2_; clear hg hw hp_; have p8 : 0 ≤ (x5_1 : Int) := of_decide_eq_true (by first | (with_reducible assumption) | assumption); have q8 : (x5_1 : Int) < ((x0_1.length : Int) : Int) := of_decide_eq_true (by first | (with_reducible assumption) | assumption); obtain ⟨ce8, hcl8, hM8, hcc8, hfr8⟩ := Kd.R_elem HO_0.out z33 (x5_1 : Int) p8 q8; obtain rfl := k33_openM hM8; have hx8_0 : w15.cell? ⟨go5, (x5_1 : Int).toNat * 4, none⟩ = some (.int .i64 ((rd_T33 y220 x5_1).f0)) := hcc8 0 _ rfl; have hx8_1 : w15.cell? ⟨go5, (x5_1 : Int).toNat * 4 + 1, none⟩ = some (.int .i64 ((rd_T33 y220 x5_1).f1)) := hcc8 1 _ rfl; have hx8_2 : w15.cell? ⟨go5, (x5_1 : Int).toNat * 4 + 2, none⟩ = some (.int .i64 ((rd_T33 y220 x5_1).f2)) := hcc8 2 _ rfl; have hx8_3 : w15.cell? ⟨go5, (x5_1 : Int).toNat * 4 + 3, none⟩ = some (.bool ((rd_T33 y220 x5_1).f3)) := hcc8 3 _ rfl; have hf8_0 : w15.frozen? ⟨go5, (x5_1 : Int).toNat * 4, none⟩ = false := hfr8 0; have hf8_1 : w15.frozen? ⟨go5, (x5_1 : Int).toNat * 4 + 1, none⟩ = false := hfr8 1; have hf8_2 : w15.frozen? ⟨go5, (x5_1 : Int).toNat * 4 + 2, none⟩ = false := hfr8 2; have hf8_3 : w15.frozen? ⟨go5, (x5_1 : Int).toNat * 4 + 3, none⟩ = false := hfr8 3; clear hcl8 hcc8 hfr8 hM8; replace p8 := eq_true p8; replace q8 := eq_true q8; have HX16 := Aside0.mk (show Kd.R k33 33 w15 w0.heap.size (fun k_ => (P0_ k_ ∨ w.heap.size ≤ k_)) (.slice (some ⟨go5, 0, none⟩) x0_1.length co9) y220 from (zR HO_0.out)); obtain ⟨ce16, hcl16, hM16, hcc16, hfr16⟩ := Kd.R_elem HX16.out z33 (x5_1 : Int) (of_decide_eq_true (by first | (with_reducible assumption) | assumption)) (by have h_ : (x5_1 : Int) < ((x0_1.length : Int) : Int) := of_decide_eq_true (by first | (with_reducible assumption) | assumption); first | exact h_ | (have e_ := (Kd.R_reads' HO_0.out).1; omega) | simpa using h_); obtain rfl := k33_openM hM16; have HP16 := Kd.R_seg HX16.out (x5_1 : Int) (of_decide_eq_true (by first | (with_reducible assumption) | assumption)) (by have h_ : (x5_1 : Int) < ((x0_1.length : Int) : Int) := of_decide_eq_true (by first | (with_reducible assumption) | assumption); first | exact h_ | (have e_ := (Kd.R_reads' HO_0.out).1; omega) | simpa using h_) (seg := [.bool ((Int.tmod (wrap64 ((wrap64 ((wrap64 (x1_1 + 1)) + 1)) + 1)) 3) == 0)]) (j := 3) hcl16 hcc16 (show 4 ≤ 4 from by decide) (x' := (⟨(rd_T33 y220 x5_1).f0, (rd_T33 y220 x5_1).f1, (rd_T33 y220 x5_1).f2, ((Int.tmod (wrap64 ((wrap64 ((wrap64 (x1_1 + 1)) + 1)) + 1)) 3) == 0)⟩ : S33)) (k33_mkM _ _ _ (⟨(rd_T33 y220 x5_1).f0, (rd_T33 y220 x5_1).f1, (rd_T33 y220 x5_1).f2, ((Int.tmod (wrap64 ((wrap64 ((wrap64 (x1_1 + 1)) + 1)) + 1)) 3) == 0)⟩ : S33) ) (fun _ hk => hk); have hx16_3 := hcc16 3 _ rfl; (try simp only [show (k33).sz = 4 from rfl, Nat.mul_one, Nat.add_zero] at hx16_3); have hf16_3 := hfr16 3; (try simp only [show (k33).sz = 4 from rfl, Nat.mul_one, Nat.add_zero] at hf16_3); clear hcl16 hcc16 hfr16 hM16) | ((with_reducible refine gate_store (t := 4) (p := 39) rfl ?_); refine store_event (t := 4) (p := 39) (v := ?vo_w17) (w1 := (w15.setCell ⟨go5, (x5_1 : Int).toNat * 4 + 3, none⟩ (.bool ((Int.tmod (wrap64 ((wrap64 ((wrap64 (x1_1 + 1)) + 1)) + 1)) 3) == 0)))) ?hg ?ho ?hn ?hr ?_; (case ho => rfl); (case hg => rfl); (case hn => rfl); (case hr => first | (go_simp; done) | (go_simp; rfl)); intro w17 hw; have hg : w15.grownBy w17 (some go5) := (by rw [hw]; exact HP16.2); have hp_ : Kd.R k33 33 w17 w0.heap.size (fun k_ => (P0_ k_ ∨ w.heap.size ≤ k_)) (.slice (some ⟨go5, 0, none⟩) x0_1.length co9) y221 := (by rw [hw, Ny221.out]; exact HP16.1); clear HP16; have n0_ := Aside0.mk (hp_); have n1_ := Aside0.mk ((by rw [hw]; exact below_set (HB.out) GB5.out : Below w0.heap.size w0 w17)); have n2_ := Aside0.mk (Kept.of_grown (S := (fun k_ => P0_ k_)) hg (by repeat (first | (with_reducible first | exact HK.out | apply Kept.alloc | apply Kept.drewN | apply Kept.drew) | exact HK.out)) (fun k_ e_ => (HO_0.out.1 k_ e_))); clear HO_0; clear HB; clear HK; have HO_0 := n0_; have HB := n1_; have HK := n2_; clear n0_ n1_ n2_; clear hg hw hp_))
     go_roundg k1
     case measure => have := HK1.out; omega
     case rel => exact ⟨(y221), (wrap64 ((wrap64 ((wrap64 ((wrap64 (x1_1 + 1)) + 1)) + 1)) + 1)), (wrap64 (x5_1 + 1)), (by first | rfl | (simp; done) | (simp [*]; done) | (rw [Int.tmod_eq_emod_of_nonneg (Int.natCast_nonneg _)]; done)), (by first | rfl | (simp; done) | (simp [*]; done) | (rw [Int.tmod_eq_emod_of_nonneg (Int.natCast_nonneg _)]; done)), H', ⟨by have := HK1.out; omega⟩, ⟨zR HO_0.out⟩, ⟨by repeat (first | (with_reducible first | exact HK.out | apply Kept.alloc | apply Kept.drewN | apply Kept.drew) | exact HK.out)⟩, ⟨zS HB.out⟩⟩
    ·rw [if_neg c4] at H; exact absurd H (by simp)
   ·rw [if_neg c3] at H; have c3b0 : decide (x5_1 < (x0_1.length : Int)) = false := decide_eq_false c3; clear c3; simp only [Option.some.injEq, Prod.mk.injEq] at H; obtain ⟨rfl, rfl⟩ := H; obtain ⟨Ao18, co18, eo18⟩ := Kd.R_slice HO_0.out; subst eo18
    go_wp2
    go_ret; exact ⟨by first | rfl | (simp [errW_none, errW_some] <;> rfl) | (simp [*, errW_none, errW_some] <;> rfl), by (with_reducible repeat (first | apply Kd.R_alloc | apply Kd.R_drewN | apply Kd.R_drew)); exact HO_0.out, by repeat (first | (with_reducible first | exact HB.out | apply below_alloc | apply pw_below_drewN | apply below_drew1) | exact HB.out), by repeat (first | (with_reducible first | exact HK.out | apply Kept.alloc | apply Kept.drewN | apply Kept.drew) | exact HK.out)⟩


/-! ### laws_markAuto: function 16 -/
def laws_markAuto.f (k : Nat) (a0_0 : Int) (a0_1 : Int) (a0_2 : Int) (l0_3 : List (S33)) (a1 : Int) : Option (Int × (List (S33))) := (laws_markEdgeS.f k l0_3 a1).bind fun bt223 => (some (bt223.1, bt223.2))
theorem laws_markAuto.mono : ∀ a0 a1 a2 a3 a4 k, LeO (laws_markAuto.f k a0 a1 a2 a3 a4) (laws_markAuto.f (k + 1) a0 a1 a2 a3 a4) := by
 intro a0 a1 a2 a3 a4 k
 unfold laws_markAuto.f
 repeat' first
   | (with_reducible exact laws_markEdgeS.mono _ _ _)
   | (with_reducible exact LeO.refl _)
   | (with_reducible exact LeO.none _)
   | (with_reducible refine LeO.ite ?_ ?_)
   | (with_reducible refine LeO.bind ?_ (fun _ => ?_))
   | exact laws_markEdgeS.mono _ _ _
   | exact LeO.none _
   | refine LeO.ite ?_ ?_
   | refine LeO.bind ?_ (fun _ => ?_)
open Go.Proofs.Ytigmokdcanebeaa.Short2 in
set_option maxHeartbeats 8000000 in
set_option maxRecDepth 100000 in
theorem laws_markAuto.calls (k : Nat) (a0_0 : Int) (a0_1 : Int) (a0_2 : Int) (P0_3_ : Nat → Prop) (u9000_ : Value) (l0_3 : List (S33)) (a1 : Int) (r1 : Int) (r2 : List (S33)) (w0 w : World) (hB : Below w0.heap.size w0 w) (ho0_3 : Kd.R k33 33 w w0.heap.size P0_3_ u9000_ l0_3) (h : laws_markAuto.f k a0_0 a0_1 a0_2 l0_3 a1 = some (r1, r2)) :
  Calls Try.prog 16 #[.agg #[.int .i64 a0_0, .int .i64 a0_1, .int .i64 a0_2, u9000_], .int .i64 a1] w fun e w' => e = .returned (.int .i64 r1) ∧ Kd.R k33 33 w' w0.heap.size (fun k_ => (P0_3_ k_ ∨ w.heap.size ≤ k_)) u9000_ r2 ∧ Below w0.heap.size w0 w' ∧ Kept w w' (fun k_ => P0_3_ k_) := by
 have hu28 := Try.underlying28; have HO0_3 := Aside0.mk (show Kd.R k33 33 w w0.heap.size (fun k_ => (P0_3_ k_ ∨ w.heap.size ≤ k_)) u9000_ l0_3 from Kd.R_mono ho0_3 (fun k_ hk => (.inl hk))); have HK := Aside0.mk (Kept.refl w (fun k_ => P0_3_ k_)); have HW0 := Aside0.mk hB.size; have HB := Aside0.mk hB; clear hB; have H : ((laws_markEdgeS.f k l0_3 a1).bind fun bt223 => (some (bt223.1, bt223.2))) = some (r1, r2) := h; clear h; replace H := Option.bind_eq_some_iff.mp H; obtain ⟨⟨t223, t224⟩, A30, H⟩ := H; replace H : (some (t223, t224)) = some (r1, r2) := H; have A3 := Aside0.mk A30; clear A30; simp only [Option.some.injEq, Prod.mk.injEq] at H; obtain ⟨rfl, rfl⟩ := H; obtain ⟨Ao4, co4, eo4⟩ := Kd.R_slice HO0_3.out; subst eo4
 go_enter Try.func16, Try.ntmps16
 go_wp2_with (first | ((with_reducible refine gate_dst (N := 2) rfl ?_); refine box_event ?hg (N := 2) ?hd (cs := #[.int .i64 a0_0, .int .i64 a0_1, .int .i64 a0_2, .slice Ao4 l0_3.length co4]) (t := 28) ?hr ?_; (case hd => rfl); (case hg => rfl); (case hr => first | (go_simp; done) | (go_simp; rfl)); intro gb222 hg w5 hbox hb; have n0_ := xR HO0_3 hb; have n1_ := Aside0.mk (Kept.below (S := (fun k_ => P0_3_ k_)) (by repeat (first | (with_reducible first | exact HK.out | apply Kept.alloc | apply Kept.drewN | apply Kept.drew) | exact HK.out)) hb); have n2_ := xS HB hb; have n3_ := Aside0.mk (hbox); have n4_ := Aside0.mk ((by rw [hg]; exact (by first | exact HK.out.1 | exact (show Kept w _ (fun k_ => P0_3_ k_) from by repeat (first | (with_reducible first | exact HK.out | apply Kept.alloc | apply Kept.drewN | apply Kept.drew) | exact HK.out)).1) : w.heap.size ≤ gb222)); have n5_ := Aside0.mk ((by rw [hg]; exact (below_size (zS HB.out)) : w0.heap.size ≤ gb222)); clear HO0_3; clear HK; clear HB; have HO0_3 := n0_; have HK := n1_; have HB := n2_; have BK222 := n3_; have GW222 := n4_; have GE222 := n5_; clear n0_ n1_ n2_ n3_ n4_ n5_; clear hb hbox hg; have hcz6_0 : w5.cell? ⟨gb222, 0, none⟩ = some (.int .i64 a0_0) := b1 BK222 0; have hcz6_1 : w5.cell? ⟨gb222, 1, none⟩ = some (.int .i64 a0_1) := b1 BK222 1; have hcz6_2 : w5.cell? ⟨gb222, 2, none⟩ = some (.int .i64 a0_2) := b1 BK222 2; have hcz6_3 : w5.cell? ⟨gb222, 3, none⟩ = some (.slice Ao4 l0_3.length co4) := b1 BK222 3; have hfz6_0 := blk_frozen BK222.out 0; have hfz6_1 := blk_frozen BK222.out 1; have hfz6_2 := blk_frozen BK222.out 2; have hfz6_3 := blk_frozen BK222.out 3) | ((with_reducible refine gate_callee (f := 15) rfl ?_); refine goesL_ (some 8) rfl rfl Try.func15 (by kernel_rfl) rfl #[.slice Ao4 l0_3.length co4, .int .i64 a1] rfl (by (try simp only [m3]); first | done | rfl | (simp only [d2]; rfl)) ?_; (with_reducible refine (laws_markEdgeS.calls k (fun k_ => some k_ = (.slice Ao4 l0_3.length co4 : Value).ownBlock) (.slice Ao4 l0_3.length co4) l0_3 a1 t223 t224 w0 _ ?side1 ?side2 A3.out).mono ?_); (case side1 => repeat (first | (with_reducible first | exact HB.out | apply below_alloc | apply pw_below_drewN | apply below_drew1 | refine below_set ?_ GE222.out) | exact HB.out)); (case side2 => exact Kd.R_tight rfl HO0_3.out); rintro e w7 ⟨rfl, hy0, hb, hkp⟩; refine ⟨_, rfl, ?_⟩; have n0_ := Aside0.mk (Kd.R_reok rfl hy0 (fun k_ e_ => HO0_3.out.1 k_ e_)); have n1_ := Aside0.mk (blk_kept (zB BK222.out) hkp (fun hs_ => (fun e_ => (Kd.R_ne HO0_3.out BK222.out (by decide)) e_) hs_)); have n2_ := Aside0.mk (Kept.then_ (S := (fun k_ => P0_3_ k_)) (by repeat (first | (with_reducible first | exact HK.out | apply Kept.alloc | apply Kept.drewN | apply Kept.drew | refine Kept.setCell ?_ (.inr GW222.out) _) | exact HK.out)) hkp (fun k_ hs_ => (fun e_ => (HO0_3.out.1 k_ e_.symm)) hs_)); have n3_ := Aside0.mk (hb); clear HO0_3; clear BK222; clear HK; clear HB; have HO0_3 := n0_; have BK222 := n1_; have HK := n2_; have HB := n3_; clear n0_ n1_ n2_ n3_; (try clear hb); (try clear hkp); (try clear hy0)))
 go_ret; exact ⟨by first | rfl | (simp [errW_none, errW_some] <;> rfl) | (simp [*, errW_none, errW_some] <;> rfl), by (with_reducible repeat (first | apply Kd.R_alloc | apply Kd.R_drewN | apply Kd.R_drew)); exact HO0_3.out, by repeat (first | (with_reducible first | exact HB.out | apply below_alloc | apply pw_below_drewN | apply below_drew1 | refine below_set ?_ GE222.out) | exact HB.out), by repeat (first | (with_reducible first | exact HK.out | apply Kept.alloc | apply Kept.drewN | apply Kept.drew | refine Kept.setCell ?_ (.inr GW222.out) _) | exact HK.out)⟩


/-! ### laws_heldEdgeS: function 34 -/
def laws_heldEdgeS.l0 : Nat → List (S33) → Int → Int → Option (Int)
 | 0, _, _, _ => none
 | k + 1, x0, x1, x5 => if x5 < (x0.length : Int) then (if 0 ≤ x5 then (if ((rd_T33 x0 x5).f0) = x1 then (if ((rd_T33 x0 x5).f1) = (wrap64 (x1 + 1)) then (if ((rd_T33 x0 x5).f2) = (wrap64 ((wrap64 (x1 + 1)) + 1)) then (if (((rd_T33 x0 x5).f3) != ((Int.tmod (wrap64 ((wrap64 ((wrap64 (x1 + 1)) + 1)) + 1)) 3) == 0)) = true then (some (-1)) else (laws_heldEdgeS.l0 k x0 (wrap64 ((wrap64 ((wrap64 ((wrap64 (x1 + 1)) + 1)) + 1)) + 1)) (wrap64 (x5 + 1)))) else (some (-1))) else (some (-1))) else (some (-1))) else (none)) else (some x1)
def laws_heldEdgeS.f (k : Nat) (l0 : List (S33)) (a1 : Int) : Option (Int) := laws_heldEdgeS.l0 k l0 a1 0
theorem laws_heldEdgeS.mono_l : ∀ k, (∀ y0 y1 y2, LeO (laws_heldEdgeS.l0 k y0 y1 y2) (laws_heldEdgeS.l0 (k + 1) y0 y1 y2))
 | 0 => fun _ _ _ r h => by simp [laws_heldEdgeS.l0] at h
 | k + 1 => by
  have ih0 := laws_heldEdgeS.mono_l k
  ·intro y0 y1 y2
   unfold laws_heldEdgeS.l0
   repeat' first
   | (with_reducible exact ih0 _ _ _)
   | (with_reducible exact LeO.refl _)
   | (with_reducible exact LeO.none _)
   | (with_reducible refine LeO.ite ?_ ?_)
   | (with_reducible refine LeO.bind ?_ (fun _ => ?_))
   | exact ih0 _ _ _
   | exact LeO.none _
   | refine LeO.ite ?_ ?_
   | refine LeO.bind ?_ (fun _ => ?_)
theorem laws_heldEdgeS.mono : ∀ a0 a1 k, LeO (laws_heldEdgeS.f k a0 a1) (laws_heldEdgeS.f (k + 1) a0 a1) := by
 intro a0 a1 k
 have ih0 := laws_heldEdgeS.mono_l k
 unfold laws_heldEdgeS.f
 repeat' first
   | (with_reducible exact ih0 _ _ _)
   | (with_reducible exact LeO.refl _)
   | (with_reducible exact LeO.none _)
   | (with_reducible refine LeO.ite ?_ ?_)
   | (with_reducible refine LeO.bind ?_ (fun _ => ?_))
   | exact ih0 _ _ _
   | exact LeO.none _
   | refine LeO.ite ?_ ?_
   | refine LeO.bind ?_ (fun _ => ?_)
open Go.Proofs.Ytigmokdcanebeaa.Short2 in
set_option maxHeartbeats 8000000 in
set_option maxRecDepth 100000 in
theorem laws_heldEdgeS.calls (k : Nat) (A0 : Option Addr) (c0 : Nat) (l0 : List (S33)) (a1 : Int) (r : Int) (w : World) (hr0 : Kd.C k33 w A0 l0.length l0) (hc0 : l0.length ≤ c0) (h : laws_heldEdgeS.f k l0 a1 = some r) :
  Calls Try.prog 34 #[.slice A0 l0.length c0, .int .i64 a1] w fun e w' => e = .returned (.int .i64 r) ∧ Drawn0 w w' := by
 have HR0 := Aside0.mk hr0; have HC0 := Aside0.mk hc0; clear hr0 hc0; have H : (laws_heldEdgeS.l0 k l0 a1 0) = some r := h; clear h; have H' := Aside0.mk H; clear H
 go_enter Try.func34, Try.ntmps34
 go_wp2
 go_loopg [1, 5] k (fun kq v1 v5 w' => ∃ (x1_1 : Int) (x5_1 : Int), v1 = .int .i64 x1_1 ∧ v5 = .int .i64 x5_1 ∧ Aside0 (laws_heldEdgeS.l0 kq l0 x1_1 x5_1 = some r) ∧ Aside0 (kq ≤ k) ∧ Drawn0 w w')
 case atStart => exact ⟨(a1), (0), (by first | rfl | (simp; done) | (simp [*]; done) | (rw [Int.tmod_eq_emod_of_nonneg (Int.natCast_nonneg _)]; done)), (by first | rfl | (simp; done) | (simp [*]; done) | (rw [Int.tmod_eq_emod_of_nonneg (Int.natCast_nonneg _)]; done)), H', ⟨Nat.le_refl _⟩, by repeat (first | exact Drawn0.refl _ | apply Drawn0.step)⟩
 case round =>
  clear H'
  try clear p2
  obtain ⟨x1_1, x5_1, rfl, rfl, HA, HK1, ⟨m1, rfl⟩⟩ := hrel
  cases gk with
  | zero => exact absurd HA.out (by simp [laws_heldEdgeS.l0])
  | succ k1 =>
   have H := HA.out; clear HA; simp only [laws_heldEdgeS.l0] at H
   by_cases c3 : x5_1 < (l0.length : Int)
   ·rw [if_pos c3] at H; have c3b0 : decide (x5_1 < (l0.length : Int)) = true := decide_eq_true c3; clear c3
    by_cases c4 : 0 ≤ x5_1
    ·rw [if_pos c4] at H; have c4b0 : decide (0 ≤ x5_1) = true := decide_eq_true c4; clear c4
     by_cases c5 : ((rd_T33 l0 x5_1).f0) = x1_1
     ·rw [if_pos c5] at H; have c5b0 : (((rd_T33 l0 x5_1).f0) == x1_1) = true := beq_iff_eq.mpr c5; have c5b1 : (((rd_T33 l0 x5_1).f0) != x1_1) = false := bne_eq_false_iff_eq.mpr c5; clear c5
      by_cases c6 : ((rd_T33 l0 x5_1).f1) = (wrap64 (x1_1 + 1))
      ·rw [if_pos c6] at H; have c6b0 : (((rd_T33 l0 x5_1).f1) == (wrap64 (x1_1 + 1))) = true := beq_iff_eq.mpr c6; have c6b1 : (((rd_T33 l0 x5_1).f1) != (wrap64 (x1_1 + 1))) = false := bne_eq_false_iff_eq.mpr c6; clear c6
       by_cases c7 : ((rd_T33 l0 x5_1).f2) = (wrap64 ((wrap64 (x1_1 + 1)) + 1))
       ·rw [if_pos c7] at H; have c7b0 : (((rd_T33 l0 x5_1).f2) == (wrap64 ((wrap64 (x1_1 + 1)) + 1))) = true := beq_iff_eq.mpr c7; have c7b1 : (((rd_T33 l0 x5_1).f2) != (wrap64 ((wrap64 (x1_1 + 1)) + 1))) = false := bne_eq_false_iff_eq.mpr c7; clear c7
        by_cases c8 : (((rd_T33 l0 x5_1).f3) != ((Int.tmod (wrap64 ((wrap64 ((wrap64 (x1_1 + 1)) + 1)) + 1)) 3) == 0)) = true
        ·rw [if_pos c8] at H; have c8b0 : (((rd_T33 l0 x5_1).f3) != ((Int.tmod (wrap64 ((wrap64 ((wrap64 (x1_1 + 1)) + 1)) + 1)) 3) == 0)) = true := c8
         (try (have c8b1 : decide (((rd_T33 l0 x5_1).f3) = ((Int.tmod (wrap64 ((wrap64 ((wrap64 (x1_1 + 1)) + 1)) + 1)) 3) == 0)) = false := by simpa using c8))
         (try (have c8b2 : (((rd_T33 l0 x5_1).f3) == ((Int.tmod (wrap64 ((wrap64 ((wrap64 (x1_1 + 1)) + 1)) + 1)) 3) == 0)) = false := by simpa using c8))
         (try (have c8b3 : ¬ (((rd_T33 l0 x5_1).f3) = ((Int.tmod (wrap64 ((wrap64 ((wrap64 (x1_1 + 1)) + 1)) + 1)) 3) == 0)) := by simpa using c8))
         clear c8; obtain rfl := Option.some.inj H; have p225 : 0 ≤ (x5_1 : Int) := of_decide_eq_true (by first | (with_reducible assumption) | assumption); have q225 : x5_1 < (l0.length : Int) := of_decide_eq_true (by first | (with_reducible assumption) | assumption); obtain ⟨ad225, e225, hx225_0, hx225_1, hx225_2, hx225_3⟩ := at_T33 HR0.out x5_1 p225 q225
         cases e225
         replace p225 := eq_true p225; replace q225 := eq_true q225; have p226 : 0 ≤ (x5_1 : Int) := of_decide_eq_true (by first | (with_reducible assumption) | assumption); have q226 : x5_1 < (l0.length : Int) := of_decide_eq_true (by first | (with_reducible assumption) | assumption); obtain ⟨ad226, e226, hx226_0, hx226_1, hx226_2, hx226_3⟩ := at_T33 HR0.out x5_1 p226 q226; obtain rfl : ad225 = ad226 := (by injection e226); replace p226 := eq_true p226; replace q226 := eq_true q226; have p227 : 0 ≤ (x5_1 : Int) := of_decide_eq_true (by first | (with_reducible assumption) | assumption); have q227 : x5_1 < (l0.length : Int) := of_decide_eq_true (by first | (with_reducible assumption) | assumption); obtain ⟨ad227, e227, hx227_0, hx227_1, hx227_2, hx227_3⟩ := at_T33 HR0.out x5_1 p227 q227; obtain rfl : ad225 = ad227 := (by injection e227); replace p227 := eq_true p227; replace q227 := eq_true q227; have p228 : 0 ≤ (x5_1 : Int) := of_decide_eq_true (by first | (with_reducible assumption) | assumption); have q228 : x5_1 < (l0.length : Int) := of_decide_eq_true (by first | (with_reducible assumption) | assumption); obtain ⟨ad228, e228, hx228_0, hx228_1, hx228_2, hx228_3⟩ := at_T33 HR0.out x5_1 p228 q228; obtain rfl : ad225 = ad228 := (by injection e228); replace p228 := eq_true p228; replace q228 := eq_true q228
         go_wp2
         go_ret; exact ⟨by first | rfl | (simp; done) | (simp [*]; done), by repeat (first | exact Drawn0.refl _ | apply Drawn0.step)⟩
        ·rw [if_neg c8] at H
         have c8b0 : (((rd_T33 l0 x5_1).f3) != ((Int.tmod (wrap64 ((wrap64 ((wrap64 (x1_1 + 1)) + 1)) + 1)) 3) == 0)) = false := by simpa using c8
         (try (have c8b1 : decide (((rd_T33 l0 x5_1).f3) = ((Int.tmod (wrap64 ((wrap64 ((wrap64 (x1_1 + 1)) + 1)) + 1)) 3) == 0)) = true := by simpa using c8))
         (try (have c8b2 : (((rd_T33 l0 x5_1).f3) == ((Int.tmod (wrap64 ((wrap64 ((wrap64 (x1_1 + 1)) + 1)) + 1)) 3) == 0)) = true := by simpa using c8))
         clear c8; have H' := Aside0.mk H; clear H; have p225 : 0 ≤ (x5_1 : Int) := of_decide_eq_true (by first | (with_reducible assumption) | assumption); have q225 : x5_1 < (l0.length : Int) := of_decide_eq_true (by first | (with_reducible assumption) | assumption); obtain ⟨ad225, e225, hx225_0, hx225_1, hx225_2, hx225_3⟩ := at_T33 HR0.out x5_1 p225 q225
         cases e225
         replace p225 := eq_true p225; replace q225 := eq_true q225; have p226 : 0 ≤ (x5_1 : Int) := of_decide_eq_true (by first | (with_reducible assumption) | assumption); have q226 : x5_1 < (l0.length : Int) := of_decide_eq_true (by first | (with_reducible assumption) | assumption); obtain ⟨ad226, e226, hx226_0, hx226_1, hx226_2, hx226_3⟩ := at_T33 HR0.out x5_1 p226 q226; obtain rfl : ad225 = ad226 := (by injection e226); replace p226 := eq_true p226; replace q226 := eq_true q226; have p227 : 0 ≤ (x5_1 : Int) := of_decide_eq_true (by first | (with_reducible assumption) | assumption); have q227 : x5_1 < (l0.length : Int) := of_decide_eq_true (by first | (with_reducible assumption) | assumption); obtain ⟨ad227, e227, hx227_0, hx227_1, hx227_2, hx227_3⟩ := at_T33 HR0.out x5_1 p227 q227; obtain rfl : ad225 = ad227 := (by injection e227); replace p227 := eq_true p227; replace q227 := eq_true q227; have p228 : 0 ≤ (x5_1 : Int) := of_decide_eq_true (by first | (with_reducible assumption) | assumption); have q228 : x5_1 < (l0.length : Int) := of_decide_eq_true (by first | (with_reducible assumption) | assumption); obtain ⟨ad228, e228, hx228_0, hx228_1, hx228_2, hx228_3⟩ := at_T33 HR0.out x5_1 p228 q228; obtain rfl : ad225 = ad228 := (by injection e228); replace p228 := eq_true p228; replace q228 := eq_true q228
         go_wp2
         go_roundg k1
         case measure => have := HK1.out; omega
         case rel => exact ⟨(wrap64 ((wrap64 ((wrap64 ((wrap64 (x1_1 + 1)) + 1)) + 1)) + 1)), (wrap64 (x5_1 + 1)), (by first | rfl | (simp; done) | (simp [*]; done) | (rw [Int.tmod_eq_emod_of_nonneg (Int.natCast_nonneg _)]; done)), (by first | rfl | (simp; done) | (simp [*]; done) | (rw [Int.tmod_eq_emod_of_nonneg (Int.natCast_nonneg _)]; done)), H', ⟨by have := HK1.out; omega⟩, by repeat (first | exact Drawn0.refl _ | apply Drawn0.step)⟩
       ·rw [if_neg c7] at H; have c7b0 : (((rd_T33 l0 x5_1).f2) == (wrap64 ((wrap64 (x1_1 + 1)) + 1))) = false := beq_eq_false_iff_ne.mpr c7; have c7b1 : (((rd_T33 l0 x5_1).f2) != (wrap64 ((wrap64 (x1_1 + 1)) + 1))) = true := bne_iff_ne.mpr c7; obtain rfl := Option.some.inj H; have p225 : 0 ≤ (x5_1 : Int) := of_decide_eq_true (by first | (with_reducible assumption) | assumption); have q225 : x5_1 < (l0.length : Int) := of_decide_eq_true (by first | (with_reducible assumption) | assumption); obtain ⟨ad225, e225, hx225_0, hx225_1, hx225_2, hx225_3⟩ := at_T33 HR0.out x5_1 p225 q225
        cases e225
        replace p225 := eq_true p225; replace q225 := eq_true q225; have p226 : 0 ≤ (x5_1 : Int) := of_decide_eq_true (by first | (with_reducible assumption) | assumption); have q226 : x5_1 < (l0.length : Int) := of_decide_eq_true (by first | (with_reducible assumption) | assumption); obtain ⟨ad226, e226, hx226_0, hx226_1, hx226_2, hx226_3⟩ := at_T33 HR0.out x5_1 p226 q226; obtain rfl : ad225 = ad226 := (by injection e226); replace p226 := eq_true p226; replace q226 := eq_true q226; have p227 : 0 ≤ (x5_1 : Int) := of_decide_eq_true (by first | (with_reducible assumption) | assumption); have q227 : x5_1 < (l0.length : Int) := of_decide_eq_true (by first | (with_reducible assumption) | assumption); obtain ⟨ad227, e227, hx227_0, hx227_1, hx227_2, hx227_3⟩ := at_T33 HR0.out x5_1 p227 q227; obtain rfl : ad225 = ad227 := (by injection e227); replace p227 := eq_true p227; replace q227 := eq_true q227
        go_wp2
        go_ret; exact ⟨by first | rfl | (simp; done) | (simp [*]; done), by repeat (first | exact Drawn0.refl _ | apply Drawn0.step)⟩
      ·rw [if_neg c6] at H; have c6b0 : (((rd_T33 l0 x5_1).f1) == (wrap64 (x1_1 + 1))) = false := beq_eq_false_iff_ne.mpr c6; have c6b1 : (((rd_T33 l0 x5_1).f1) != (wrap64 (x1_1 + 1))) = true := bne_iff_ne.mpr c6; obtain rfl := Option.some.inj H; have p225 : 0 ≤ (x5_1 : Int) := of_decide_eq_true (by first | (with_reducible assumption) | assumption); have q225 : x5_1 < (l0.length : Int) := of_decide_eq_true (by first | (with_reducible assumption) | assumption); obtain ⟨ad225, e225, hx225_0, hx225_1, hx225_2, hx225_3⟩ := at_T33 HR0.out x5_1 p225 q225
       cases e225
       replace p225 := eq_true p225; replace q225 := eq_true q225; have p226 : 0 ≤ (x5_1 : Int) := of_decide_eq_true (by first | (with_reducible assumption) | assumption); have q226 : x5_1 < (l0.length : Int) := of_decide_eq_true (by first | (with_reducible assumption) | assumption); obtain ⟨ad226, e226, hx226_0, hx226_1, hx226_2, hx226_3⟩ := at_T33 HR0.out x5_1 p226 q226; obtain rfl : ad225 = ad226 := (by injection e226); replace p226 := eq_true p226; replace q226 := eq_true q226
       go_wp2
       go_ret; exact ⟨by first | rfl | (simp; done) | (simp [*]; done), by repeat (first | exact Drawn0.refl _ | apply Drawn0.step)⟩
     ·rw [if_neg c5] at H; have c5b0 : (((rd_T33 l0 x5_1).f0) == x1_1) = false := beq_eq_false_iff_ne.mpr c5; have c5b1 : (((rd_T33 l0 x5_1).f0) != x1_1) = true := bne_iff_ne.mpr c5; obtain rfl := Option.some.inj H; have p225 : 0 ≤ (x5_1 : Int) := of_decide_eq_true (by first | (with_reducible assumption) | assumption); have q225 : x5_1 < (l0.length : Int) := of_decide_eq_true (by first | (with_reducible assumption) | assumption); obtain ⟨ad225, e225, hx225_0, hx225_1, hx225_2, hx225_3⟩ := at_T33 HR0.out x5_1 p225 q225
      cases e225
      replace p225 := eq_true p225; replace q225 := eq_true q225
      go_wp2
      go_ret; exact ⟨by first | rfl | (simp; done) | (simp [*]; done), by repeat (first | exact Drawn0.refl _ | apply Drawn0.step)⟩
    ·rw [if_neg c4] at H; exact absurd H (by simp)
   ·rw [if_neg c3] at H; have c3b0 : decide (x5_1 < (l0.length : Int)) = false := decide_eq_false c3; clear c3; obtain rfl := Option.some.inj H
    go_wp2
    go_ret; exact ⟨by first | rfl | (simp; done) | (simp [*]; done), by repeat (first | exact Drawn0.refl _ | apply Drawn0.step)⟩


/-! ### laws_heldAuto: function 17 -/
def laws_heldAuto.f (k : Nat) (a0_0 : Int) (a0_1 : Int) (a0_2 : Int) (l0_3 : List (S33)) (a1 : Int) : Option (Int) := (laws_heldEdgeS.f k l0_3 a1).bind fun t230 => (if t230 < 0 then (some (-1)) else (some t230))
theorem laws_heldAuto.mono : ∀ a0 a1 a2 a3 a4 k, LeO (laws_heldAuto.f k a0 a1 a2 a3 a4) (laws_heldAuto.f (k + 1) a0 a1 a2 a3 a4) := by
 intro a0 a1 a2 a3 a4 k
 unfold laws_heldAuto.f
 repeat' first
   | (with_reducible exact laws_heldEdgeS.mono _ _ _)
   | (with_reducible exact LeO.refl _)
   | (with_reducible exact LeO.none _)
   | (with_reducible refine LeO.ite ?_ ?_)
   | (with_reducible refine LeO.bind ?_ (fun _ => ?_))
   | exact laws_heldEdgeS.mono _ _ _
   | exact LeO.none _
   | refine LeO.ite ?_ ?_
   | refine LeO.bind ?_ (fun _ => ?_)
open Go.Proofs.Ytigmokdcanebeaa.Short2 in
set_option maxHeartbeats 8000000 in
set_option maxRecDepth 100000 in
theorem laws_heldAuto.calls (k : Nat) (a0_0 : Int) (a0_1 : Int) (a0_2 : Int) (A0_3 : Option Addr) (c0_3 : Nat) (l0_3 : List (S33)) (a1 : Int) (r : Int) (w : World) (hr0_3 : Kd.C k33 w A0_3 l0_3.length l0_3) (hc0_3 : l0_3.length ≤ c0_3) (h : laws_heldAuto.f k a0_0 a0_1 a0_2 l0_3 a1 = some r) :
  Calls Try.prog 17 #[.agg #[.int .i64 a0_0, .int .i64 a0_1, .int .i64 a0_2, .slice A0_3 l0_3.length c0_3], .int .i64 a1] w fun e w' => e = .returned (.int .i64 r) ∧ Below w.heap.size w w' := by
 have hu28 := Try.underlying28; have HR0_3 := Aside0.mk hr0_3; have HC0_3 := Aside0.mk hc0_3; clear hr0_3 hc0_3; have HB := Aside0.mk (Below.refl w.heap.size w); have H : ((laws_heldEdgeS.f k l0_3 a1).bind fun t230 => (if t230 < 0 then (some (-1)) else (some t230))) = some r := h; clear h; replace H := Option.bind_eq_some_iff.mp H; obtain ⟨t230, A30, H⟩ := H; replace H : (if t230 < 0 then (some (-1)) else (some t230)) = some r := H; have A3 := Aside0.mk A30; clear A30
 by_cases c4 : t230 < 0
 ·rw [if_pos c4] at H; have c4b0 : decide (t230 < 0) = true := decide_eq_true c4; clear c4; obtain rfl := Option.some.inj H
  go_enter Try.func17, Try.ntmps17
  go_wp2_with (first | ((with_reducible refine gate_dst (N := 2) rfl ?_); refine box_event ?hg (N := 2) ?hd (cs := #[.int .i64 a0_0, .int .i64 a0_1, .int .i64 a0_2, .slice A0_3 l0_3.length c0_3]) (t := 28) ?hr ?_; (case hd => rfl); (case hg => rfl); (case hr => first | (go_simp; done) | (go_simp; rfl)); intro gb229 hg w5 hbox hb; have BK229 := Aside0.mk (hbox); have GW229 := xG HB hg; have GE229 := xG HB hg; replace HB := xS HB hb; clear hb hbox hg; have hcz6_0 : w5.cell? ⟨gb229, 0, none⟩ = some (.int .i64 a0_0) := b1 BK229 0; have hcz6_1 : w5.cell? ⟨gb229, 1, none⟩ = some (.int .i64 a0_1) := b1 BK229 1; have hcz6_2 : w5.cell? ⟨gb229, 2, none⟩ = some (.int .i64 a0_2) := b1 BK229 2; have hcz6_3 : w5.cell? ⟨gb229, 3, none⟩ = some (.slice A0_3 l0_3.length c0_3) := b1 BK229 3; have hfz6_0 := blk_frozen BK229.out 0; have hfz6_1 := blk_frozen BK229.out 1; have hfz6_2 := blk_frozen BK229.out 2; have hfz6_3 := blk_frozen BK229.out 3) | ((with_reducible refine gate_callee (f := 34) rfl ?_); refine goesL_ (some 8) rfl rfl Try.func34 (by kernel_rfl) rfl #[.slice A0_3 l0_3.length c0_3, .int .i64 a1] rfl (by (try simp only [m3]); first | done | rfl | (simp only [d2]; rfl)) ?_; (with_reducible refine (laws_heldEdgeS.calls k _ _ l0_3 a1 t230 _ ?side1 ?side2 A3.out).mono ?_); (case side1 => exact zC (Kd.C_below HR0_3.out HB.out)); (case side2 => exact HC0_3.out); rintro e w' ⟨rfl, ⟨nd, rfl⟩⟩; refine ⟨_, rfl, ?_⟩))
  go_ret; exact ⟨by first | rfl | (simp [errW_none, errW_some] <;> rfl) | (simp [*, errW_none, errW_some] <;> rfl), by repeat (first | (with_reducible first | exact HB.out | apply below_alloc | apply pw_below_drewN | apply below_drew1 | refine below_set ?_ GE229.out) | exact HB.out)⟩
 ·rw [if_neg c4] at H; have c4b0 : decide (t230 < 0) = false := decide_eq_false c4; clear c4; obtain rfl := Option.some.inj H
  go_enter Try.func17, Try.ntmps17
  go_wp2_with (first | ((with_reducible refine gate_dst (N := 2) rfl ?_); refine box_event ?hg (N := 2) ?hd (cs := #[.int .i64 a0_0, .int .i64 a0_1, .int .i64 a0_2, .slice A0_3 l0_3.length c0_3]) (t := 28) ?hr ?_; (case hd => rfl); (case hg => rfl); (case hr => first | (go_simp; done) | (go_simp; rfl)); intro gb229 hg w7 hbox hb; have BK229 := Aside0.mk (hbox); have GW229 := xG HB hg; have GE229 := xG HB hg; replace HB := xS HB hb; clear hb hbox hg; have hcz8_0 : w7.cell? ⟨gb229, 0, none⟩ = some (.int .i64 a0_0) := b1 BK229 0; have hcz8_1 : w7.cell? ⟨gb229, 1, none⟩ = some (.int .i64 a0_1) := b1 BK229 1; have hcz8_2 : w7.cell? ⟨gb229, 2, none⟩ = some (.int .i64 a0_2) := b1 BK229 2; have hcz8_3 : w7.cell? ⟨gb229, 3, none⟩ = some (.slice A0_3 l0_3.length c0_3) := b1 BK229 3; have hfz8_0 := blk_frozen BK229.out 0; have hfz8_1 := blk_frozen BK229.out 1; have hfz8_2 := blk_frozen BK229.out 2; have hfz8_3 := blk_frozen BK229.out 3) | ((with_reducible refine gate_callee (f := 34) rfl ?_); refine goesL_ (some 8) rfl rfl Try.func34 (by kernel_rfl) rfl #[.slice A0_3 l0_3.length c0_3, .int .i64 a1] rfl (by (try simp only [m3]); first | done | rfl | (simp only [d2]; rfl)) ?_; (with_reducible refine (laws_heldEdgeS.calls k _ _ l0_3 a1 t230 _ ?side1 ?side2 A3.out).mono ?_); (case side1 => exact zC (Kd.C_below HR0_3.out HB.out)); (case side2 => exact HC0_3.out); rintro e w' ⟨rfl, ⟨nd, rfl⟩⟩; refine ⟨_, rfl, ?_⟩))
  go_ret; exact ⟨by first | rfl | (simp [errW_none, errW_some] <;> rfl) | (simp [*, errW_none, errW_some] <;> rfl), by repeat (first | (with_reducible first | exact HB.out | apply below_alloc | apply pw_below_drewN | apply below_drew1 | refine below_set ?_ GE229.out) | exact HB.out)⟩

end Go.Proofs.Ytigmokdcanebeaa.MFnExactAutoMake
