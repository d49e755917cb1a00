-- Written by a program of this session, out of Lean's print of the translation. Not trusted: Lean checks it.
import Derived.Test.YtlallflpicgcmaaMFnExactAutoUnionx0
import Derived.Test.YtlallflpicgcmaaMFnExactAutoUnionx4
namespace Go.Proofs.Ytlallflpicgcmaa.MFnExactAutoUnion
open Go.RowKit Go.Proofs.YtlallflpicgcmaaW.PrintWords Go.Proofs.YtlallflpicgcmaaW.PrintLast Go.Proofs.YtlallflpicgcmaaW.PrintMore
attribute [local go_sem] max2_int min2_int max_two min_two max_three min_three max_four min_four   -- for this text's walks alone
set_option linter.unusedVariables false
set_option linter.unusedSimpArgs false


/-! ### impl_AutoUnion: function 35 -/
mutual
def impl_AutoUnion.j0 : Nat → Bool → Int → Int → Int → List (S68) → Int → Int → Int → List (S68) → Option (Int × Int × Int × (List (S68)) × Bool)
 | 0, _, _, _, _, _, _, _, _, _ => none
 | k + 1, x31, x207000, x207001, x207002, x207003, x208000, x208001, x208002, x208003 => if x31 = true then (some (0, 0, 0, ([] : List (S68)), false)) else (if 0 ≤ (IntKind.u64.wrap (x207001)) then ((impl_Edge.f x207003).bind fun t212 => (impl_AutoUnion.l0 k x208003 (x208003.length : Int) 0 x207000 x207001 x207002 x207003 x207000 (wrap64 (x207001 + x208001)) (Go.bits .or .i64 x207002 (shl .i64 x208002 (IntKind.u64.wrap (x207001)))) t212)) else (none))
def impl_AutoUnion.l0 : Nat → List (S68) → Int → Int → Int → Int → Int → List (S68) → Int → Int → Int → List (S68) → Option (Int × Int × Int × (List (S68)) × Bool)
 | 0, _, _, _, _, _, _, _, _, _, _, _ => none
 | k + 1, x55, x56, x57, x207000, x207001, x207002, x207003, x212000, x212001, x212002, x212003 => if x57 < x56 then (if 0 ≤ x57 then (if x57 < (x55.length : Int) then (if x212003.length < 4398046511104 then (impl_AutoUnion.l0 k x55 x56 (wrap64 (x57 + 1)) x207000 x207001 x207002 x207003 x212000 x212001 x212002 (x212003 ++ [(⟨wrap64 (((rd_T68 x55 x57).f0) + x207001), (rd_T68 x55 x57).f1, wrap64 (((rd_T68 x55 x57).f2) + x207001), (rd_T68 x55 x57).f3⟩ : S68)])) else (none)) else (none)) else (none)) else ((impl_rightAuto.f k x212000 x212001 x212002 x212003).bind fun bt220 => (some (bt220.1, bt220.2.1, bt220.2.2.1, bt220.2.2.2.1, bt220.2.2.2.2)))
end
def impl_AutoUnion.f (k : Nat) (a0_0 : Int) (a0_1 : Int) (a0_2 : Int) (l0_3 : List (S68)) (a1_0 : Int) (a1_1 : Int) (a1_2 : Int) (l1_3 : List (S68)) : Option (Int × Int × Int × (List (S68)) × Bool) := if a0_0 = a1_0 then ((impl_AutoOk.f k a0_0 a0_1 a0_2 l0_3).bind fun t209 => (if t209 = true then ((impl_AutoOk.f k a1_0 a1_1 a1_2 l1_3).bind fun t210 => (if t210 = true then (impl_AutoUnion.j0 k (decide ((wrap64 (a0_1 + a1_1)) > 31)) a0_0 a0_1 a0_2 l0_3 a1_0 a1_1 a1_2 l1_3) else (impl_AutoUnion.j0 k true a0_0 a0_1 a0_2 l0_3 a1_0 a1_1 a1_2 l1_3))) else (impl_AutoUnion.j0 k true a0_0 a0_1 a0_2 l0_3 a1_0 a1_1 a1_2 l1_3))) else (impl_AutoUnion.j0 k true a0_0 a0_1 a0_2 l0_3 a1_0 a1_1 a1_2 l1_3)
theorem impl_AutoUnion.mono_l : ∀ k, (∀ y0 y1 y2 y3 y4 y5 y6 y7 y8, LeO (impl_AutoUnion.j0 k y0 y1 y2 y3 y4 y5 y6 y7 y8) (impl_AutoUnion.j0 (k + 1) y0 y1 y2 y3 y4 y5 y6 y7 y8)) ∧ (∀ y0 y1 y2 y3 y4 y5 y6 y7 y8 y9 y10, LeO (impl_AutoUnion.l0 k y0 y1 y2 y3 y4 y5 y6 y7 y8 y9 y10) (impl_AutoUnion.l0 (k + 1) y0 y1 y2 y3 y4 y5 y6 y7 y8 y9 y10))
 | 0 => ⟨fun _ _ _ _ _ _ _ _ _ r h => by simp [impl_AutoUnion.j0] at h, fun _ _ _ _ _ _ _ _ _ _ _ r h => by simp [impl_AutoUnion.l0] at h⟩
 | k + 1 => by
  obtain ⟨ih0, ih1⟩ := impl_AutoUnion.mono_l k
  refine ⟨?_, ?_⟩
  ·intro y0 y1 y2 y3 y4 y5 y6 y7 y8
   unfold impl_AutoUnion.j0
   repeat' first
   | (with_reducible exact ih0 _ _ _ _ _ _ _ _ _)
   | (with_reducible exact ih1 _ _ _ _ _ _ _ _ _ _ _)
   | (with_reducible exact impl_AutoOk.mono _ _ _ _ _)
   | (with_reducible exact impl_rightAuto.mono _ _ _ _ _)
   | (with_reducible exact LeO.refl _)
   | (with_reducible exact LeO.none _)
   | (with_reducible refine LeO.ite ?_ ?_)
   | (with_reducible refine LeO.bind ?_ (fun _ => ?_))
   | exact ih0 _ _ _ _ _ _ _ _ _
   | exact ih1 _ _ _ _ _ _ _ _ _ _ _
   | exact impl_AutoOk.mono _ _ _ _ _
   | exact impl_rightAuto.mono _ _ _ _ _
   | exact LeO.none _
   | refine LeO.ite ?_ ?_
   | refine LeO.bind ?_ (fun _ => ?_)
  ·intro y0 y1 y2 y3 y4 y5 y6 y7 y8 y9 y10
   unfold impl_AutoUnion.l0
   repeat' first
   | (with_reducible exact ih0 _ _ _ _ _ _ _ _ _)
   | (with_reducible exact ih1 _ _ _ _ _ _ _ _ _ _ _)
   | (with_reducible exact impl_AutoOk.mono _ _ _ _ _)
   | (with_reducible exact impl_rightAuto.mono _ _ _ _ _)
   | (with_reducible exact LeO.refl _)
   | (with_reducible exact LeO.none _)
   | (with_reducible refine LeO.ite ?_ ?_)
   | (with_reducible refine LeO.bind ?_ (fun _ => ?_))
   | exact ih0 _ _ _ _ _ _ _ _ _
   | exact ih1 _ _ _ _ _ _ _ _ _ _ _
   | exact impl_AutoOk.mono _ _ _ _ _
   | exact impl_rightAuto.mono _ _ _ _ _
   | exact LeO.none _
   | refine LeO.ite ?_ ?_
   | refine LeO.bind ?_ (fun _ => ?_)
theorem impl_AutoUnion.mono : ∀ a0 a1 a2 a3 a4 a5 a6 a7 k, LeO (impl_AutoUnion.f k a0 a1 a2 a3 a4 a5 a6 a7) (impl_AutoUnion.f (k + 1) a0 a1 a2 a3 a4 a5 a6 a7) := by
 intro a0 a1 a2 a3 a4 a5 a6 a7 k
 obtain ⟨ih0, ih1⟩ := impl_AutoUnion.mono_l k
 unfold impl_AutoUnion.f
 repeat' first
   | (with_reducible exact ih0 _ _ _ _ _ _ _ _ _)
   | (with_reducible exact ih1 _ _ _ _ _ _ _ _ _ _ _)
   | (with_reducible exact impl_AutoOk.mono _ _ _ _ _)
   | (with_reducible exact impl_rightAuto.mono _ _ _ _ _)
   | (with_reducible exact LeO.refl _)
   | (with_reducible exact LeO.none _)
   | (with_reducible refine LeO.ite ?_ ?_)
   | (with_reducible refine LeO.bind ?_ (fun _ => ?_))
   | exact ih0 _ _ _ _ _ _ _ _ _
   | exact ih1 _ _ _ _ _ _ _ _ _ _ _
   | exact impl_AutoOk.mono _ _ _ _ _
   | exact impl_rightAuto.mono _ _ _ _ _
   | exact LeO.none _
   | refine LeO.ite ?_ ?_
   | refine LeO.bind ?_ (fun _ => ?_)
open Go.Proofs.Ytlallflpicgcmaa.Short2 in
set_option maxHeartbeats 8000000 in
set_option maxRecDepth 100000 in
theorem impl_AutoUnion.calls (k : Nat) (a0_0 : Int) (a0_1 : Int) (a0_2 : Int) (A0_3 : Option Addr) (c0_3 : Nat) (l0_3 : List (S68)) (a1_0 : Int) (a1_1 : Int) (a1_2 : Int) (A1_3 : Option Addr) (c1_3 : Nat) (l1_3 : List (S68)) (r1 : Int) (r2 : Int) (r3 : Int) (r4 : List (S68)) (r5 : Bool) (w : World) (hr0_3 : Kd.C k68 w A0_3 l0_3.length l0_3) (hc0_3 : l0_3.length ≤ c0_3) (hr1_3 : Kd.C k68 w A1_3 l1_3.length l1_3) (hc1_3 : l1_3.length ≤ c1_3) (h : impl_AutoUnion.f k a0_0 a0_1 a0_2 l0_3 a1_0 a1_1 a1_2 l1_3 = some (r1, r2, r3, r4, r5)) :
  Calls Try.prog 35 #[.agg #[.int .i64 a0_0, .int .i64 a0_1, .int .i64 a0_2, .slice A0_3 l0_3.length c0_3], .agg #[.int .i64 a1_0, .int .i64 a1_1, .int .i64 a1_2, .slice A1_3 l1_3.length c1_3]] w fun e w' => ∃ v3_ : Value, e = .returned (.tuple #[.agg #[.int .i64 r1, .int .i64 r2, .int .i64 r3, v3_], .bool r5]) ∧ Kd.R k68 68 w' w.heap.size (fun _ => True) v3_ r4 ∧ Below w.heap.size w w' := by
 have hu24 := Try.underlying24; have hu68 := Try.underlying68; have HR0_3 := Aside0.mk hr0_3; have HC0_3 := Aside0.mk hc0_3; clear hr0_3 hc0_3; have HR1_3 := Aside0.mk hr1_3; have HC1_3 := Aside0.mk hc1_3; clear hr1_3 hc1_3; have HB := Aside0.mk (Below.refl w.heap.size w); have H : (if a0_0 = a1_0 then ((impl_AutoOk.f k a0_0 a0_1 a0_2 l0_3).bind fun t209 => (if t209 = true then ((impl_AutoOk.f k a1_0 a1_1 a1_2 l1_3).bind fun t210 => (if t210 = true then (impl_AutoUnion.j0 k (decide ((wrap64 (a0_1 + a1_1)) > 31)) a0_0 a0_1 a0_2 l0_3 a1_0 a1_1 a1_2 l1_3) else (impl_AutoUnion.j0 k true a0_0 a0_1 a0_2 l0_3 a1_0 a1_1 a1_2 l1_3))) else (impl_AutoUnion.j0 k true a0_0 a0_1 a0_2 l0_3 a1_0 a1_1 a1_2 l1_3))) else (impl_AutoUnion.j0 k true a0_0 a0_1 a0_2 l0_3 a1_0 a1_1 a1_2 l1_3)) = some (r1, r2, r3, r4, r5) := h; clear h; have HC3 := Aside0.mk H; clear H
 go_enter Try.func35, Try.ntmps35
 go_upto_region 1 with (first | ((with_reducible refine gate_dst (N := 2) rfl ?_); refine box_event ?hg (N := 2) ?hd (cs := #[.int .i64 a0_0, .int .i64 a0_1, .int .i64 a0_2, .slice A0_3 l0_3.length c0_3]) (t := 24) ?hr ?_; (case hd => rfl); (case hg => rfl); (case hr => first | (go_simp; done) | (go_simp; rfl)); intro gb206 hg w4 hbox hb; have BK206 := Aside0.mk (hbox); have GW206 := xG HB hg; have GE206 := xG HB hg; replace HB := xS HB hb; clear hb hbox hg) | ((with_reducible refine gate_dst (N := 3) rfl ?_); refine box_event ?hg (N := 3) ?hd (cs := #[.int .i64 a1_0, .int .i64 a1_1, .int .i64 a1_2, .slice A1_3 l1_3.length c1_3]) (t := 24) ?hr ?_; (case hd => rfl); (case hg => rfl); (case hr => first | (go_simp; done) | (go_simp; rfl)); intro gb207 hg w5 hbox hb; have BK207 := Aside0.mk (hbox); have GW207 := xG HB hg; have GE207 := xG HB hg; replace HB := xS HB hb; have NB206_207 := xN BK206 hg; have NB207_206 := xM BK206 hg; replace BK206 := xB BK206 hb; clear hb hbox hg) | ((with_reducible refine gate_dst (N := 4) rfl ?_); refine box_event ?hg (N := 4) ?hd (cs := #[.int .i64 0, .int .i64 0, .int .i64 0, .slice none 0 0]) (t := 24) ?hr ?_; (case hd => rfl); (case hg => rfl); (case hr => first | (go_simp; done) | (go_simp; rfl)); intro gb208 hg w6 hbox hb; have BK208 := Aside0.mk (hbox); have GW208 := xG HB hg; have GE208 := xG HB hg; replace HB := xS HB hb; have NB206_208 := xN BK206 hg; have NB208_206 := xM BK206 hg; replace BK206 := xB BK206 hb; have NB207_208 := xN BK207 hg; have NB208_207 := xM BK207 hg; replace BK207 := xB BK207 hb; clear hb hbox hg))
 (try simp only [Act.put, q3])
 go_cut [31] (fun v31 wc => ∃ (kq : Nat) (x31_2 : Bool), v31 = .bool x31_2 ∧ Aside0 (impl_AutoUnion.j0 kq x31_2 a0_0 a0_1 a0_2 l0_3 a1_0 a1_1 a1_2 l1_3 = some (r1, r2, r3, r4, r5)) ∧ Aside0 (kq ≤ k) ∧ Aside0 (wc.heap[gb206]? = some (.cells #[.int .i64 a0_0, .int .i64 a0_1, .int .i64 a0_2, (.slice A0_3 l0_3.length c0_3)] 24 (0, 0))) ∧ Aside0 (wc.heap[gb207]? = some (.cells #[.int .i64 a1_0, .int .i64 a1_1, .int .i64 a1_2, (.slice A1_3 l1_3.length c1_3)] 24 (0, 0))) ∧ Aside0 (wc.heap[gb208]? = some (.cells #[.int .i64 0, .int .i64 0, .int .i64 0, (.slice none 0 0)] 24 (0, 0))) ∧ Aside0 (Below w.heap.size w wc))
 case first =>
  have H := HC3.out; clear HC3
  by_cases c7 : a0_0 = a1_0
  ·rw [if_pos c7] at H; have c7b0 : (a0_0 == a1_0) = true := beq_iff_eq.mpr c7; have c7b1 : (a0_0 != a1_0) = false := bne_eq_false_iff_eq.mpr c7; clear c7
   (first | rw [c7b0] | (simp only [i64_w, i32_w]; rw [c7b0]) | skip)
   replace H := Option.bind_eq_some_iff.mp H; obtain ⟨t209, A80, H⟩ := H; replace H : (if t209 = true then ((impl_AutoOk.f k a1_0 a1_1 a1_2 l1_3).bind fun t210 => (if t210 = true then (impl_AutoUnion.j0 k (decide ((wrap64 (a0_1 + a1_1)) > 31)) a0_0 a0_1 a0_2 l0_3 a1_0 a1_1 a1_2 l1_3) else (impl_AutoUnion.j0 k true a0_0 a0_1 a0_2 l0_3 a1_0 a1_1 a1_2 l1_3))) else (impl_AutoUnion.j0 k true a0_0 a0_1 a0_2 l0_3 a1_0 a1_1 a1_2 l1_3)) = some (r1, r2, r3, r4, r5) := H; have A8 := Aside0.mk A80; clear A80
   by_cases c9 : t209 = true
   ·subst c9
    have H1 : ((impl_AutoOk.f k a1_0 a1_1 a1_2 l1_3).bind fun t210 => (if t210 = true then (impl_AutoUnion.j0 k (decide ((wrap64 (a0_1 + a1_1)) > 31)) a0_0 a0_1 a0_2 l0_3 a1_0 a1_1 a1_2 l1_3) else (impl_AutoUnion.j0 k true a0_0 a0_1 a0_2 l0_3 a1_0 a1_1 a1_2 l1_3))) = some (r1, r2, r3, r4, r5) := by rw [if_pos rfl] at H; exact H
    clear H; have H := H1; clear H1; replace H := Option.bind_eq_some_iff.mp H; obtain ⟨t210, A100, H⟩ := H; replace H : (if t210 = true then (impl_AutoUnion.j0 k (decide ((wrap64 (a0_1 + a1_1)) > 31)) a0_0 a0_1 a0_2 l0_3 a1_0 a1_1 a1_2 l1_3) else (impl_AutoUnion.j0 k true a0_0 a0_1 a0_2 l0_3 a1_0 a1_1 a1_2 l1_3)) = some (r1, r2, r3, r4, r5) := H; have A10 := Aside0.mk A100; clear A100
    by_cases c11 : t210 = true
    ·subst c11
     have H1 : (impl_AutoUnion.j0 k (decide ((wrap64 (a0_1 + a1_1)) > 31)) a0_0 a0_1 a0_2 l0_3 a1_0 a1_1 a1_2 l1_3) = some (r1, r2, r3, r4, r5) := by rw [if_pos rfl] at H; exact H
     clear H; have H := H1; clear H1; have H' := Aside0.mk H; clear H; have hnb12 := NB206_207.out; have hnc12 := NB207_206.out; have hnb13 := NB206_208.out; have hnc13 := NB208_206.out; have hcz14_0 : w6.cell? ⟨gb206, 0, none⟩ = some (.int .i64 a0_0) := b1 BK206 0; have hcz14_1 : w6.cell? ⟨gb206, 1, none⟩ = some (.int .i64 a0_1) := b1 BK206 1; have hcz14_2 : w6.cell? ⟨gb206, 2, none⟩ = some (.int .i64 a0_2) := b1 BK206 2; have hcz14_3 : w6.cell? ⟨gb206, 3, none⟩ = some (.slice A0_3 l0_3.length c0_3) := b1 BK206 3; have hfz14_0 := blk_frozen BK206.out 0; have hfz14_1 := blk_frozen BK206.out 1; have hfz14_2 := blk_frozen BK206.out 2; have hfz14_3 := blk_frozen BK206.out 3; have hnb15 := NB207_208.out; have hnc15 := NB208_207.out; have hcz16_0 : w6.cell? ⟨gb207, 0, none⟩ = some (.int .i64 a1_0) := b1 BK207 0; have hcz16_1 : w6.cell? ⟨gb207, 1, none⟩ = some (.int .i64 a1_1) := b1 BK207 1; have hcz16_2 : w6.cell? ⟨gb207, 2, none⟩ = some (.int .i64 a1_2) := b1 BK207 2; have hcz16_3 : w6.cell? ⟨gb207, 3, none⟩ = some (.slice A1_3 l1_3.length c1_3) := b1 BK207 3; have hfz16_0 := blk_frozen BK207.out 0; have hfz16_1 := blk_frozen BK207.out 1; have hfz16_2 := blk_frozen BK207.out 2; have hfz16_3 := blk_frozen BK207.out 3
     go_wp2_with (first | (go_at_call 22; (with_reducible refine (impl_AutoOk.calls k a0_0 a0_1 a0_2 _ _ l0_3 true _ ?side1 ?side2 A8.out).mono ?_); (case side1 => exact zC (Kd.C_below HR0_3.out HB.out)); (case side2 => exact HC0_3.out); rintro e w17 ⟨rfl, hb⟩; replace BK206 := xB BK206 hb; replace BK207 := xB BK207 hb; replace BK208 := xB BK208 hb; replace HB := xS HB hb; (try clear hb); (try clear hb2); (try clear hk); (try clear hi); have hcz18_0 : w17.cell? ⟨gb207, 0, none⟩ = some (.int .i64 a1_0) := b1 BK207 0; have hcz18_1 : w17.cell? ⟨gb207, 1, none⟩ = some (.int .i64 a1_1) := b1 BK207 1; have hcz18_2 : w17.cell? ⟨gb207, 2, none⟩ = some (.int .i64 a1_2) := b1 BK207 2; have hcz18_3 : w17.cell? ⟨gb207, 3, none⟩ = some (.slice A1_3 l1_3.length c1_3) := b1 BK207 3; have hfz18_0 := blk_frozen BK207.out 0; have hfz18_1 := blk_frozen BK207.out 1; have hfz18_2 := blk_frozen BK207.out 2; have hfz18_3 := blk_frozen BK207.out 3) | (go_at_call 22; (with_reducible refine (impl_AutoOk.calls k a1_0 a1_1 a1_2 _ _ l1_3 true _ ?side1 ?side2 A10.out).mono ?_); (case side1 => exact zC (Kd.C_below HR1_3.out HB.out)); (case side2 => exact HC1_3.out); rintro e w19 ⟨rfl, hb⟩; replace BK206 := xB BK206 hb; replace BK207 := xB BK207 hb; replace BK208 := xB BK208 hb; replace HB := xS HB hb; (try clear hb); (try clear hb2); (try clear hk); (try clear hi); have hcz20_0 : w19.cell? ⟨gb206, 0, none⟩ = some (.int .i64 a0_0) := b1 BK206 0; have hcz20_1 : w19.cell? ⟨gb206, 1, none⟩ = some (.int .i64 a0_1) := b1 BK206 1; have hcz20_2 : w19.cell? ⟨gb206, 2, none⟩ = some (.int .i64 a0_2) := b1 BK206 2; have hcz20_3 : w19.cell? ⟨gb206, 3, none⟩ = some (.slice A0_3 l0_3.length c0_3) := b1 BK206 3; have hfz20_0 := blk_frozen BK206.out 0; have hfz20_1 := blk_frozen BK206.out 1; have hfz20_2 := blk_frozen BK206.out 2; have hfz20_3 := blk_frozen BK206.out 3; have hcz21_0 : w19.cell? ⟨gb207, 0, none⟩ = some (.int .i64 a1_0) := b1 BK207 0; have hcz21_1 : w19.cell? ⟨gb207, 1, none⟩ = some (.int .i64 a1_1) := b1 BK207 1; have hcz21_2 : w19.cell? ⟨gb207, 2, none⟩ = some (.int .i64 a1_2) := b1 BK207 2; have hcz21_3 : w19.cell? ⟨gb207, 3, none⟩ = some (.slice A1_3 l1_3.length c1_3) := b1 BK207 3; have hfz21_0 := blk_frozen BK207.out 0; have hfz21_1 := blk_frozen BK207.out 1; have hfz21_2 := blk_frozen BK207.out 2; have hfz21_3 := blk_frozen BK207.out 3))
     go_meet
     case rel => exact ⟨_, (decide ((wrap64 (a0_1 + a1_1)) > 31)), (by first | rfl | (simp; done) | (simp [*]; done)), H', ⟨by first | omega | exact Nat.le_refl _⟩, ⟨zB BK206.out⟩, ⟨zB BK207.out⟩, ⟨zB BK208.out⟩, ⟨zS HB.out⟩⟩
    ·replace c11 := Bool.eq_false_iff.mpr c11; subst c11
     have H1 : (impl_AutoUnion.j0 k true a0_0 a0_1 a0_2 l0_3 a1_0 a1_1 a1_2 l1_3) = some (r1, r2, r3, r4, r5) := by rw [if_neg (show ¬ (false = true) by decide)] at H; exact H
     clear H; have H := H1; clear H1; have H' := Aside0.mk H; clear H; have hnb22 := NB206_207.out; have hnc22 := NB207_206.out; have hnb23 := NB206_208.out; have hnc23 := NB208_206.out; have hcz24_0 : w6.cell? ⟨gb206, 0, none⟩ = some (.int .i64 a0_0) := b1 BK206 0; have hcz24_1 : w6.cell? ⟨gb206, 1, none⟩ = some (.int .i64 a0_1) := b1 BK206 1; have hcz24_2 : w6.cell? ⟨gb206, 2, none⟩ = some (.int .i64 a0_2) := b1 BK206 2; have hcz24_3 : w6.cell? ⟨gb206, 3, none⟩ = some (.slice A0_3 l0_3.length c0_3) := b1 BK206 3; have hfz24_0 := blk_frozen BK206.out 0; have hfz24_1 := blk_frozen BK206.out 1; have hfz24_2 := blk_frozen BK206.out 2; have hfz24_3 := blk_frozen BK206.out 3; have hnb25 := NB207_208.out; have hnc25 := NB208_207.out; have hcz26_0 : w6.cell? ⟨gb207, 0, none⟩ = some (.int .i64 a1_0) := b1 BK207 0; have hcz26_1 : w6.cell? ⟨gb207, 1, none⟩ = some (.int .i64 a1_1) := b1 BK207 1; have hcz26_2 : w6.cell? ⟨gb207, 2, none⟩ = some (.int .i64 a1_2) := b1 BK207 2; have hcz26_3 : w6.cell? ⟨gb207, 3, none⟩ = some (.slice A1_3 l1_3.length c1_3) := b1 BK207 3; have hfz26_0 := blk_frozen BK207.out 0; have hfz26_1 := blk_frozen BK207.out 1; have hfz26_2 := blk_frozen BK207.out 2; have hfz26_3 := blk_frozen BK207.out 3
     go_wp2_with (first | (go_at_call 22; (with_reducible refine (impl_AutoOk.calls k a0_0 a0_1 a0_2 _ _ l0_3 true _ ?side1 ?side2 A8.out).mono ?_); (case side1 => exact zC (Kd.C_below HR0_3.out HB.out)); (case side2 => exact HC0_3.out); rintro e w27 ⟨rfl, hb⟩; replace BK206 := xB BK206 hb; replace BK207 := xB BK207 hb; replace BK208 := xB BK208 hb; replace HB := xS HB hb; (try clear hb); (try clear hb2); (try clear hk); (try clear hi); have hcz28_0 : w27.cell? ⟨gb207, 0, none⟩ = some (.int .i64 a1_0) := b1 BK207 0; have hcz28_1 : w27.cell? ⟨gb207, 1, none⟩ = some (.int .i64 a1_1) := b1 BK207 1; have hcz28_2 : w27.cell? ⟨gb207, 2, none⟩ = some (.int .i64 a1_2) := b1 BK207 2; have hcz28_3 : w27.cell? ⟨gb207, 3, none⟩ = some (.slice A1_3 l1_3.length c1_3) := b1 BK207 3; have hfz28_0 := blk_frozen BK207.out 0; have hfz28_1 := blk_frozen BK207.out 1; have hfz28_2 := blk_frozen BK207.out 2; have hfz28_3 := blk_frozen BK207.out 3) | (go_at_call 22; (with_reducible refine (impl_AutoOk.calls k a1_0 a1_1 a1_2 _ _ l1_3 false _ ?side1 ?side2 A10.out).mono ?_); (case side1 => exact zC (Kd.C_below HR1_3.out HB.out)); (case side2 => exact HC1_3.out); rintro e w29 ⟨rfl, hb⟩; replace BK206 := xB BK206 hb; replace BK207 := xB BK207 hb; replace BK208 := xB BK208 hb; replace HB := xS HB hb; (try clear hb); (try clear hb2); (try clear hk); (try clear hi)))
     go_meet
     case rel => exact ⟨_, (true), (by first | rfl | (simp; done) | (simp [*]; done)), H', ⟨by first | omega | exact Nat.le_refl _⟩, ⟨zB BK206.out⟩, ⟨zB BK207.out⟩, ⟨zB BK208.out⟩, ⟨zS HB.out⟩⟩
   ·replace c9 := Bool.eq_false_iff.mpr c9; subst c9
    have H1 : (impl_AutoUnion.j0 k true a0_0 a0_1 a0_2 l0_3 a1_0 a1_1 a1_2 l1_3) = some (r1, r2, r3, r4, r5) := by rw [if_neg (show ¬ (false = true) by decide)] at H; exact H
    clear H; have H := H1; clear H1; have H' := Aside0.mk H; clear H; have hnb30 := NB206_207.out; have hnc30 := NB207_206.out; have hnb31 := NB206_208.out; have hnc31 := NB208_206.out; have hcz32_0 : w6.cell? ⟨gb206, 0, none⟩ = some (.int .i64 a0_0) := b1 BK206 0; have hcz32_1 : w6.cell? ⟨gb206, 1, none⟩ = some (.int .i64 a0_1) := b1 BK206 1; have hcz32_2 : w6.cell? ⟨gb206, 2, none⟩ = some (.int .i64 a0_2) := b1 BK206 2; have hcz32_3 : w6.cell? ⟨gb206, 3, none⟩ = some (.slice A0_3 l0_3.length c0_3) := b1 BK206 3; have hfz32_0 := blk_frozen BK206.out 0; have hfz32_1 := blk_frozen BK206.out 1; have hfz32_2 := blk_frozen BK206.out 2; have hfz32_3 := blk_frozen BK206.out 3; have hnb33 := NB207_208.out; have hnc33 := NB208_207.out; have hcz34_0 : w6.cell? ⟨gb207, 0, none⟩ = some (.int .i64 a1_0) := b1 BK207 0; have hcz34_1 : w6.cell? ⟨gb207, 1, none⟩ = some (.int .i64 a1_1) := b1 BK207 1; have hcz34_2 : w6.cell? ⟨gb207, 2, none⟩ = some (.int .i64 a1_2) := b1 BK207 2; have hcz34_3 : w6.cell? ⟨gb207, 3, none⟩ = some (.slice A1_3 l1_3.length c1_3) := b1 BK207 3; have hfz34_0 := blk_frozen BK207.out 0; have hfz34_1 := blk_frozen BK207.out 1; have hfz34_2 := blk_frozen BK207.out 2; have hfz34_3 := blk_frozen BK207.out 3
    go_wp2_with (first | (go_at_call 22; (with_reducible refine (impl_AutoOk.calls k a0_0 a0_1 a0_2 _ _ l0_3 false _ ?side1 ?side2 A8.out).mono ?_); (case side1 => exact zC (Kd.C_below HR0_3.out HB.out)); (case side2 => exact HC0_3.out); rintro e w35 ⟨rfl, hb⟩; replace BK206 := xB BK206 hb; replace BK207 := xB BK207 hb; replace BK208 := xB BK208 hb; replace HB := xS HB hb; (try clear hb); (try clear hb2); (try clear hk); (try clear hi)))
    go_meet
    case rel => exact ⟨_, (true), (by first | rfl | (simp; done) | (simp [*]; done)), H', ⟨by first | omega | exact Nat.le_refl _⟩, ⟨zB BK206.out⟩, ⟨zB BK207.out⟩, ⟨zB BK208.out⟩, ⟨zS HB.out⟩⟩
  ·rw [if_neg c7] at H; have c7b0 : (a0_0 == a1_0) = false := beq_eq_false_iff_ne.mpr c7; have c7b1 : (a0_0 != a1_0) = true := bne_iff_ne.mpr c7
   (first | rw [c7b0] | (simp only [i64_w, i32_w]; rw [c7b0]) | skip)
   have H' := Aside0.mk H; clear H; have hnb36 := NB206_207.out; have hnc36 := NB207_206.out; have hnb37 := NB206_208.out; have hnc37 := NB208_206.out; have hcz38_0 : w6.cell? ⟨gb206, 0, none⟩ = some (.int .i64 a0_0) := b1 BK206 0; have hcz38_1 : w6.cell? ⟨gb206, 1, none⟩ = some (.int .i64 a0_1) := b1 BK206 1; have hcz38_2 : w6.cell? ⟨gb206, 2, none⟩ = some (.int .i64 a0_2) := b1 BK206 2; have hcz38_3 : w6.cell? ⟨gb206, 3, none⟩ = some (.slice A0_3 l0_3.length c0_3) := b1 BK206 3; have hfz38_0 := blk_frozen BK206.out 0; have hfz38_1 := blk_frozen BK206.out 1; have hfz38_2 := blk_frozen BK206.out 2; have hfz38_3 := blk_frozen BK206.out 3; have hnb39 := NB207_208.out; have hnc39 := NB208_207.out; have hcz40_0 : w6.cell? ⟨gb207, 0, none⟩ = some (.int .i64 a1_0) := b1 BK207 0; have hcz40_1 : w6.cell? ⟨gb207, 1, none⟩ = some (.int .i64 a1_1) := b1 BK207 1; have hcz40_2 : w6.cell? ⟨gb207, 2, none⟩ = some (.int .i64 a1_2) := b1 BK207 2; have hcz40_3 : w6.cell? ⟨gb207, 3, none⟩ = some (.slice A1_3 l1_3.length c1_3) := b1 BK207 3; have hfz40_0 := blk_frozen BK207.out 0; have hfz40_1 := blk_frozen BK207.out 1; have hfz40_2 := blk_frozen BK207.out 2; have hfz40_3 := blk_frozen BK207.out 3
   go_wp2
   go_meet
   case rel => exact ⟨_, (true), (by first | rfl | (simp; done) | (simp [*]; done)), H', ⟨by first | omega | exact Nat.le_refl _⟩, ⟨zB BK206.out⟩, ⟨zB BK207.out⟩, ⟨zB BK208.out⟩, ⟨zS HB.out⟩⟩
 case rest =>
  clear HC3
  try clear c1
  try clear c2
  try clear p2
  try clear c3
  try clear p6
  try clear c7
  try clear c7b0
  try clear c7b1
  try clear c9
  try clear c11
  try clear c12
  try clear c13
  try clear c15
  try clear c22
  try clear c23
  try clear c25
  try clear c30
  try clear c31
  try clear c33
  try clear c35
  try clear c36
  try clear c37
  try clear c39
  try clear hcz14_0
  try clear hcz14_1
  try clear hcz14_2
  try clear hcz14_3
  try clear hcz16_0
  try clear hcz16_1
  try clear hcz16_2
  try clear hcz16_3
  try clear hcz18_0
  try clear hcz18_1
  try clear hcz18_2
  try clear hcz18_3
  try clear hcz20_0
  try clear hcz20_1
  try clear hcz20_2
  try clear hcz20_3
  try clear hcz21_0
  try clear hcz21_1
  try clear hcz21_2
  try clear hcz21_3
  try clear hcz24_0
  try clear hcz24_1
  try clear hcz24_2
  try clear hcz24_3
  try clear hcz26_0
  try clear hcz26_1
  try clear hcz26_2
  try clear hcz26_3
  try clear hcz28_0
  try clear hcz28_1
  try clear hcz28_2
  try clear hcz28_3
  try clear hcz32_0
  try clear hcz32_1
  try clear hcz32_2
  try clear hcz32_3
  try clear hcz34_0
  try clear hcz34_1
  try clear hcz34_2
  try clear hcz34_3
  try clear hcz38_0
  try clear hcz38_1
  try clear hcz38_2
  try clear hcz38_3
  try clear hcz40_0
  try clear hcz40_1
  try clear hcz40_2
  try clear hcz40_3
  try clear hfz14_0
  try clear hfz14_1
  try clear hfz14_2
  try clear hfz14_3
  try clear hfz16_0
  try clear hfz16_1
  try clear hfz16_2
  try clear hfz16_3
  try clear hfz18_0
  try clear hfz18_1
  try clear hfz18_2
  try clear hfz18_3
  try clear hfz20_0
  try clear hfz20_1
  try clear hfz20_2
  try clear hfz20_3
  try clear hfz21_0
  try clear hfz21_1
  try clear hfz21_2
  try clear hfz21_3
  try clear hfz24_0
  try clear hfz24_1
  try clear hfz24_2
  try clear hfz24_3
  try clear hfz26_0
  try clear hfz26_1
  try clear hfz26_2
  try clear hfz26_3
  try clear hfz28_0
  try clear hfz28_1
  try clear hfz28_2
  try clear hfz28_3
  try clear hfz32_0
  try clear hfz32_1
  try clear hfz32_2
  try clear hfz32_3
  try clear hfz34_0
  try clear hfz34_1
  try clear hfz34_2
  try clear hfz34_3
  try clear hfz38_0
  try clear hfz38_1
  try clear hfz38_2
  try clear hfz38_3
  try clear hfz40_0
  try clear hfz40_1
  try clear hfz40_2
  try clear hfz40_3
  obtain ⟨kq, x31_2, rfl, HA, HJ2, BK206, BK207, BK208, HB⟩ := hcut
  cases kq with
  | zero => exact absurd HA.out (by simp [impl_AutoUnion.j0])
  | succ kj2 =>
   have H := HA.out; clear HA; simp only [impl_AutoUnion.j0] at H
   by_cases c41 : x31_2 = true
   ·subst c41
    have H1 : (some (0, 0, 0, ([] : List (S68)), false)) = some (r1, r2, r3, r4, r5) := by rw [if_pos rfl] at H; exact H
    clear H; have H := H1; clear H1; simp only [Option.some.injEq, Prod.mk.injEq] at H; obtain ⟨rfl, rfl, rfl, rfl, rfl⟩ := H; have hnb42 := NB208_206.out; have hnc42 := NB206_208.out; have hnb43 := NB208_207.out; have hnc43 := NB207_208.out; have hcz44_0 : wc.cell? ⟨gb208, 0, none⟩ = some (.int .i64 0) := b1 BK208 0; have hcz44_1 : wc.cell? ⟨gb208, 1, none⟩ = some (.int .i64 0) := b1 BK208 1; have hcz44_2 : wc.cell? ⟨gb208, 2, none⟩ = some (.int .i64 0) := b1 BK208 2; have hcz44_3 : wc.cell? ⟨gb208, 3, none⟩ = some (.slice none 0 0) := b1 BK208 3; have hfz44_0 := blk_frozen BK208.out 0; have hfz44_1 := blk_frozen BK208.out 1; have hfz44_2 := blk_frozen BK208.out 2; have hfz44_3 := blk_frozen BK208.out 3
    go_wp2
    refine bodyPost_ret (results_ct rfl _ _ gb208 24 #[.int .i64 0, .int .i64 0, .int .i64 0, .slice none 0 0] (0, 0) _ rfl (xP4 BK208.out) Try.underlying24 rfl (by kernel_rfl)) rfl ?_; exact ⟨_, by first | rfl | (simp [errW_none, errW_some] <;> rfl) | (simp [*, errW_none, errW_some] <;> rfl), by first | exact Kd.R_nil _ _ _ _ _ | exact Kd.N_nil _ _ _ _ _ | exact Kd.V_nil _ _ _ _ _ | exact Kd.Q_nil _ _ _ _ _ | exact Kd.S_nil _ _ _ _ _, by repeat (first | (with_reducible first | exact HB.out | apply below_alloc | apply pw_below_drewN | apply below_drew1 | refine below_set ?_ GE206.out | refine below_set ?_ GE207.out | refine below_set ?_ GE208.out) | exact HB.out)⟩
   ·replace c41 := Bool.eq_false_iff.mpr c41; subst c41
    have H1 : (if 0 ≤ (IntKind.u64.wrap (a0_1)) then ((impl_Edge.f l0_3).bind fun t212 => (impl_AutoUnion.l0 kj2 l1_3 (l1_3.length : Int) 0 a0_0 a0_1 a0_2 l0_3 a0_0 (wrap64 (a0_1 + a1_1)) (Go.bits .or .i64 a0_2 (shl .i64 a1_2 (IntKind.u64.wrap (a0_1)))) t212)) else (none)) = some (r1, r2, r3, r4, r5) := by rw [if_neg (show ¬ (false = true) by decide)] at H; exact H
    clear H; have H := H1; clear H1; obtain ⟨ji45, hji45⟩ : ∃ j_ : Int, (IntKind.u64.wrap (a0_1)) = j_ := ⟨_, rfl⟩
    replace H : (if 0 ≤ (ji45) then ((impl_Edge.f l0_3).bind fun t212 => (impl_AutoUnion.l0 kj2 l1_3 (l1_3.length : Int) 0 a0_0 a0_1 a0_2 l0_3 a0_0 (wrap64 (a0_1 + a1_1)) (Go.bits .or .i64 a0_2 (shl .i64 a1_2 (ji45))) t212)) else (none)) = some (r1, r2, r3, r4, r5) := by first | (rw [hji45] at H; exact H) | (simp only [hji45] at H ⊢; exact H)
    by_cases c46 : 0 ≤ (ji45)
    ·rw [if_pos c46] at H; have c46b0 := eq_true c46; have c46b1 : decide (0 ≤ (ji45)) = true := decide_eq_true c46; clear c46; obtain ⟨ji47, hji47⟩ : ∃ j_ : Int, (shl .i64 a1_2 (ji45)) = j_ := ⟨_, rfl⟩
     replace H : ((impl_Edge.f l0_3).bind fun t212 => (impl_AutoUnion.l0 kj2 l1_3 (l1_3.length : Int) 0 a0_0 a0_1 a0_2 l0_3 a0_0 (wrap64 (a0_1 + a1_1)) (Go.bits .or .i64 a0_2 (ji47)) t212)) = some (r1, r2, r3, r4, r5) := by first | (rw [hji47] at H; exact H) | (simp only [hji47] at H ⊢; exact H)
     have hji47_ : (IntKind.i64.wrap (a1_2 * 2 ^ min (ji45).toNat 64)) = ji47 := hji47; have hji47z : (ji45) ≤ 64 → (IntKind.i64.wrap (a1_2 * 2 ^ (ji45).toNat)) = ji47 := shl_small hji47; have hji47y : (wrap64 (a1_2 * 2 ^ min (ji45).toNat 64)) = ji47 := (i64_w _).symm.trans hji47_; have hji47x : (ji45) ≤ 64 → (wrap64 (a1_2 * 2 ^ (ji45).toNat)) = ji47 := fun h_ => (i64_w _).symm.trans (hji47z h_); replace H := Option.bind_eq_some_iff.mp H; obtain ⟨t212, A480, H⟩ := H; replace H : (impl_AutoUnion.l0 kj2 l1_3 (l1_3.length : Int) 0 a0_0 a0_1 a0_2 l0_3 a0_0 (wrap64 (a0_1 + a1_1)) (Go.bits .or .i64 a0_2 (ji47)) t212) = some (r1, r2, r3, r4, r5) := H; have A48 := Aside0.mk A480; clear A480; have H' := Aside0.mk H; clear H; have hnb49 := NB206_207.out; have hnc49 := NB207_206.out; have hnb50 := NB206_208.out; have hnc50 := NB208_206.out; have hcz51_0 : wc.cell? ⟨gb206, 0, none⟩ = some (.int .i64 a0_0) := b1 BK206 0; have hcz51_1 : wc.cell? ⟨gb206, 1, none⟩ = some (.int .i64 a0_1) := b1 BK206 1; have hcz51_2 : wc.cell? ⟨gb206, 2, none⟩ = some (.int .i64 a0_2) := b1 BK206 2; have hcz51_3 : wc.cell? ⟨gb206, 3, none⟩ = some (.slice A0_3 l0_3.length c0_3) := b1 BK206 3; have hfz51_0 := blk_frozen BK206.out 0; have hfz51_1 := blk_frozen BK206.out 1; have hfz51_2 := blk_frozen BK206.out 2; have hfz51_3 := blk_frozen BK206.out 3; have hnb52 := NB207_208.out; have hnc52 := NB208_207.out; have hcz53_0 : wc.cell? ⟨gb207, 0, none⟩ = some (.int .i64 a1_0) := b1 BK207 0; have hcz53_1 : wc.cell? ⟨gb207, 1, none⟩ = some (.int .i64 a1_1) := b1 BK207 1; have hcz53_2 : wc.cell? ⟨gb207, 2, none⟩ = some (.int .i64 a1_2) := b1 BK207 2; have hcz53_3 : wc.cell? ⟨gb207, 3, none⟩ = some (.slice A1_3 l1_3.length c1_3) := b1 BK207 3; have hfz53_0 := blk_frozen BK207.out 0; have hfz53_1 := blk_frozen BK207.out 1; have hfz53_2 := blk_frozen BK207.out 2; have hfz53_3 := blk_frozen BK207.out 3
     go_wp2_with (first | ((with_reducible refine gate_dst (N := 6) rfl ?_); refine box_event ?hg (N := 6) ?hd (cs := #[.int .i64 0, .int .i64 0, .int .i64 0, .slice none 0 0]) (t := 24) ?hr ?_; (case hd => rfl); (case hg => rfl); (case hr => first | (go_simp; done) | (go_simp; rfl)); intro gb211 hg w54 hbox hb; have BK211 := Aside0.mk (hbox); have GW211 := xG HB hg; have GE211 := xG HB hg; replace HB := xS HB hb; have NB206_211 := xN BK206 hg; have NB211_206 := xM BK206 hg; replace BK206 := xB BK206 hb; have NB207_211 := xN BK207 hg; have NB211_207 := xM BK207 hg; replace BK207 := xB BK207 hb; have NB208_211 := xN BK208 hg; have NB211_208 := xM BK208 hg; replace BK208 := xB BK208 hb; clear hb hbox hg; have hnb55 := NB211_206.out; have hnc55 := NB206_211.out; have hnb56 := NB211_207.out; have hnc56 := NB207_211.out; have hnb57 := NB211_208.out; have hnc57 := NB208_211.out; have hcz58_0 : w54.cell? ⟨gb211, 0, none⟩ = some (.int .i64 0) := b1 BK211 0; have hcz58_1 : w54.cell? ⟨gb211, 1, none⟩ = some (.int .i64 0) := b1 BK211 1; have hcz58_2 : w54.cell? ⟨gb211, 2, none⟩ = some (.int .i64 0) := b1 BK211 2; have hcz58_3 : w54.cell? ⟨gb211, 3, none⟩ = some (.slice none 0 0) := b1 BK211 3; have hfz58_0 := blk_frozen BK211.out 0; have hfz58_1 := blk_frozen BK211.out 1; have hfz58_2 := blk_frozen BK211.out 2; have hfz58_3 := blk_frozen BK211.out 3; have hcz59_0 : w54.cell? ⟨gb206, 0, none⟩ = some (.int .i64 a0_0) := b1 BK206 0; have hcz59_1 : w54.cell? ⟨gb206, 1, none⟩ = some (.int .i64 a0_1) := b1 BK206 1; have hcz59_2 : w54.cell? ⟨gb206, 2, none⟩ = some (.int .i64 a0_2) := b1 BK206 2; have hcz59_3 : w54.cell? ⟨gb206, 3, none⟩ = some (.slice A0_3 l0_3.length c0_3) := b1 BK206 3; have hfz59_0 := blk_frozen BK206.out 0; have hfz59_1 := blk_frozen BK206.out 1; have hfz59_2 := blk_frozen BK206.out 2; have hfz59_3 := blk_frozen BK206.out 3) | ((with_reducible refine gate_callee (f := 82) rfl ?_); refine goesL_ (some 52) rfl rfl Try.func82 (by kernel_rfl) rfl #[.slice A0_3 l0_3.length c0_3] rfl (by (try simp only [m3]); first | done | rfl | (simp only [d2]; rfl)) ?_; (with_reducible refine (impl_Edge.calls _ _ l0_3 t212 _ ?side1 ?side2 A48.out).mono ?_); (case side1 => exact Kd.C_below HR0_3.out (zS HB.out)); (case side2 => exact HC0_3.out); rintro e w60 ⟨v213, rfl, ho0, hb⟩; refine ⟨_, rfl, ?_⟩; have HO214 := Aside0.mk (Kd.R_lower ho0 (below_size (zS HB.out))); replace BK206 := xB BK206 hb; replace BK207 := xB BK207 hb; replace BK208 := xB BK208 hb; replace BK211 := Aside0.mk (blk_below (g := gb211) (o := .cells #[.int .i64 a0_0, .int .i64 (wrap64 (a0_1 + a1_1)), .int .i64 (Go.bits .or .i64 a0_2 (ji47)), .slice none 0 0] 24 (0, 0)) (xP4 BK211.out) hb); replace HB := xS HB hb; (try clear hb); (try clear hb2); (try clear hk); (try clear hi); (try clear ho0); obtain ⟨Ao61, co61, eo61⟩ := Kd.R_slice HO214.out; subst eo61; have hcz62_0 : w60.cell? ⟨gb211, 0, none⟩ = some (.int .i64 a0_0) := b1 BK211 0; have hcz62_1 : w60.cell? ⟨gb211, 1, none⟩ = some (.int .i64 (wrap64 (a0_1 + a1_1))) := b1 BK211 1; have hcz62_2 : w60.cell? ⟨gb211, 2, none⟩ = some (.int .i64 (Go.bits .or .i64 a0_2 (ji47))) := b1 BK211 2; have hcz62_3 : w60.cell? ⟨gb211, 3, none⟩ = some (.slice none 0 0) := b1 BK211 3; have hfz62_0 := blk_frozen BK211.out 0; have hfz62_1 := blk_frozen BK211.out 1; have hfz62_2 := blk_frozen BK211.out 2; have hfz62_3 := blk_frozen BK211.out 3; have hcz63_0 : w60.cell? ⟨gb207, 0, none⟩ = some (.int .i64 a1_0) := b1 BK207 0; have hcz63_1 : w60.cell? ⟨gb207, 1, none⟩ = some (.int .i64 a1_1) := b1 BK207 1; have hcz63_2 : w60.cell? ⟨gb207, 2, none⟩ = some (.int .i64 a1_2) := b1 BK207 2; have hcz63_3 : w60.cell? ⟨gb207, 3, none⟩ = some (.slice A1_3 l1_3.length c1_3) := b1 BK207 3; have hfz63_0 := blk_frozen BK207.out 0; have hfz63_1 := blk_frozen BK207.out 1; have hfz63_2 := blk_frozen BK207.out 2; have hfz63_3 := blk_frozen BK207.out 3))
     go_loopg [57] kj2 (fun kq v57 w' => ∃ (x57_2 : Int) (x212003_2 : List (S68)) (u212003 : Value), v57 = .int .i64 x57_2 ∧ Aside0 (impl_AutoUnion.l0 kq l1_3 (l1_3.length : Int) x57_2 a0_0 a0_1 a0_2 l0_3 a0_0 (wrap64 (a0_1 + a1_1)) (Go.bits .or .i64 a0_2 (ji47)) x212003_2 = some (r1, r2, r3, r4, r5)) ∧ Aside0 (kq ≤ kj2) ∧ Aside0 (Kd.R k68 68 w' w.heap.size (fun _ => True) u212003 x212003_2) ∧ Aside0 (w'.heap[gb206]? = some (.cells #[.int .i64 a0_0, .int .i64 a0_1, .int .i64 a0_2, (.slice A0_3 l0_3.length c0_3)] 24 (0, 0))) ∧ Aside0 (w'.heap[gb207]? = some (.cells #[.int .i64 a1_0, .int .i64 a1_1, .int .i64 a1_2, (.slice A1_3 l1_3.length c1_3)] 24 (0, 0))) ∧ Aside0 (w'.heap[gb208]? = some (.cells #[.int .i64 0, .int .i64 0, .int .i64 0, (.slice none 0 0)] 24 (0, 0))) ∧ Aside0 (w'.heap[gb211]? = some (.cells #[.int .i64 a0_0, .int .i64 (wrap64 (a0_1 + a1_1)), .int .i64 (Go.bits .or .i64 a0_2 (ji47)), u212003] 24 (0, 0))) ∧ Aside0 (Below w.heap.size w w'))
     case atStart => exact ⟨(0), (t212), (.slice Ao61 t212.length co61), (by first | rfl | (simp; done) | (simp [*]; done)), H', ⟨Nat.le_refl _⟩, ⟨by (with_reducible repeat (first | apply Kd.R_alloc | apply Kd.R_drewN | apply Kd.R_drew)); exact Kd.R_mono (Kd.R_far (p := ⟨gb211, 3, none⟩) (Kd.R_types HO214.out BK211.out (by decide)) (fun _ hk => hk.2) (.slice Ao61 t212.length co61)) (fun _ hk => trivial)⟩, ⟨zB BK206.out⟩, ⟨zB BK207.out⟩, ⟨zB BK208.out⟩, ⟨by (with_reducible repeat (first | refine blk_drewN ?_ _ | refine blk_drew ?_ | refine blk_alloc ?_ _)); refine blk_put (cs := #[.int .i64 a0_0, .int .i64 (wrap64 (a0_1 + a1_1)), .int .i64 (Go.bits .or .i64 a0_2 (ji47)), .slice none 0 0]) ?_ 3 _ rfl; (with_reducible repeat (first | refine blk_drewN ?_ _ | refine blk_drew ?_ | refine blk_alloc ?_ _)); exact BK211.out⟩, ⟨zS HB.out⟩⟩
     case round =>
      clear H'
      try clear c1
      try clear c2
      try clear p2
      try clear c3
      try clear c4
      try clear c5
      try clear p6
      try clear c7
      try clear c7b0
      try clear c7b1
      try clear c8
      try clear c9
      try clear c11
      try clear c12
      try clear c13
      try clear c15
      try clear c22
      try clear c23
      try clear c25
      try clear c30
      try clear c31
      try clear c33
      try clear c35
      try clear c36
      try clear c37
      try clear c39
      try clear c41
      try clear c42
      try clear c43
      try clear c46
      try clear c46b0
      try clear c46b1
      try clear c49
      try clear c50
      try clear c52
      try clear c55
      try clear c56
      try clear c57
      try clear hcz14_0
      try clear hcz14_1
      try clear hcz14_2
      try clear hcz14_3
      try clear hcz16_0
      try clear hcz16_1
      try clear hcz16_2
      try clear hcz16_3
      try clear hcz18_0
      try clear hcz18_1
      try clear hcz18_2
      try clear hcz18_3
      try clear hcz20_0
      try clear hcz20_1
      try clear hcz20_2
      try clear hcz20_3
      try clear hcz21_0
      try clear hcz21_1
      try clear hcz21_2
      try clear hcz21_3
      try clear hcz24_0
      try clear hcz24_1
      try clear hcz24_2
      try clear hcz24_3
      try clear hcz26_0
      try clear hcz26_1
      try clear hcz26_2
      try clear hcz26_3
      try clear hcz28_0
      try clear hcz28_1
      try clear hcz28_2
      try clear hcz28_3
      try clear hcz32_0
      try clear hcz32_1
      try clear hcz32_2
      try clear hcz32_3
      try clear hcz34_0
      try clear hcz34_1
      try clear hcz34_2
      try clear hcz34_3
      try clear hcz38_0
      try clear hcz38_1
      try clear hcz38_2
      try clear hcz38_3
      try clear hcz40_0
      try clear hcz40_1
      try clear hcz40_2
      try clear hcz40_3
      try clear hcz44_0
      try clear hcz44_1
      try clear hcz44_2
      try clear hcz44_3
      try clear hcz51_0
      try clear hcz51_1
      try clear hcz51_2
      try clear hcz51_3
      try clear hcz53_0
      try clear hcz53_1
      try clear hcz53_2
      try clear hcz53_3
      try clear hcz58_0
      try clear hcz58_1
      try clear hcz58_2
      try clear hcz58_3
      try clear hcz59_0
      try clear hcz59_1
      try clear hcz59_2
      try clear hcz59_3
      try clear hcz62_0
      try clear hcz62_1
      try clear hcz62_2
      try clear hcz62_3
      try clear hcz63_0
      try clear hcz63_1
      try clear hcz63_2
      try clear hcz63_3
      try clear hfz14_0
      try clear hfz14_1
      try clear hfz14_2
      try clear hfz14_3
      try clear hfz16_0
      try clear hfz16_1
      try clear hfz16_2
      try clear hfz16_3
      try clear hfz18_0
      try clear hfz18_1
      try clear hfz18_2
      try clear hfz18_3
      try clear hfz20_0
      try clear hfz20_1
      try clear hfz20_2
      try clear hfz20_3
      try clear hfz21_0
      try clear hfz21_1
      try clear hfz21_2
      try clear hfz21_3
      try clear hfz24_0
      try clear hfz24_1
      try clear hfz24_2
      try clear hfz24_3
      try clear hfz26_0
      try clear hfz26_1
      try clear hfz26_2
      try clear hfz26_3
      try clear hfz28_0
      try clear hfz28_1
      try clear hfz28_2
      try clear hfz28_3
      try clear hfz32_0
      try clear hfz32_1
      try clear hfz32_2
      try clear hfz32_3
      try clear hfz34_0
      try clear hfz34_1
      try clear hfz34_2
      try clear hfz34_3
      try clear hfz38_0
      try clear hfz38_1
      try clear hfz38_2
      try clear hfz38_3
      try clear hfz40_0
      try clear hfz40_1
      try clear hfz40_2
      try clear hfz40_3
      try clear hfz44_0
      try clear hfz44_1
      try clear hfz44_2
      try clear hfz44_3
      try clear hfz51_0
      try clear hfz51_1
      try clear hfz51_2
      try clear hfz51_3
      try clear hfz53_0
      try clear hfz53_1
      try clear hfz53_2
      try clear hfz53_3
      try clear hfz58_0
      try clear hfz58_1
      try clear hfz58_2
      try clear hfz58_3
      try clear hfz59_0
      try clear hfz59_1
      try clear hfz59_2
      try clear hfz59_3
      try clear hfz62_0
      try clear hfz62_1
      try clear hfz62_2
      try clear hfz62_3
      try clear hfz63_0
      try clear hfz63_1
      try clear hfz63_2
      try clear hfz63_3
      try clear p2
      try clear p6
      obtain ⟨x57_2, x212003_2, u212003, rfl, HA, HK2, HO_212003, BK206, BK207, BK208, BK211, HB⟩ := hrel
      cases gk with
      | zero => exact absurd HA.out (by simp [impl_AutoUnion.l0])
      | succ k2 =>
       have H := HA.out; clear HA; simp only [impl_AutoUnion.l0] at H
       by_cases c64 : x57_2 < (l1_3.length : Int)
       ·rw [if_pos c64] at H; have c64b0 : decide (x57_2 < (l1_3.length : Int)) = true := decide_eq_true c64; clear c64
        by_cases c65 : 0 ≤ x57_2
        ·rw [if_pos c65] at H; have c65b0 : decide (0 ≤ x57_2) = true := decide_eq_true c65; clear c65
         by_cases c66 : x57_2 < (l1_3.length : Int)
         ·rw [if_pos c66] at H; have c66b0 : decide (x57_2 < (l1_3.length : Int)) = true := decide_eq_true c66; clear c66
          by_cases c67 : x212003_2.length < 4398046511104
          ·rw [if_pos c67] at H; have LMc67 := Aside0.mk c67; clear c67; obtain ⟨y217, hy217⟩ : ∃ y_ : List (S68), y_ = (x212003_2 ++ [(⟨wrap64 (((rd_T68 l1_3 x57_2).f0) + a0_1), (rd_T68 l1_3 x57_2).f1, wrap64 (((rd_T68 l1_3 x57_2).f2) + a0_1), (rd_T68 l1_3 x57_2).f3⟩ : S68)]) := ⟨_, rfl⟩
           replace H : (impl_AutoUnion.l0 k2 l1_3 (l1_3.length : Int) (wrap64 (x57_2 + 1)) a0_0 a0_1 a0_2 l0_3 a0_0 (wrap64 (a0_1 + a1_1)) (Go.bits .or .i64 a0_2 (ji47)) y217) = some (r1, r2, r3, r4, r5) := by first | (rw [hy217]; with_reducible exact H) | (have H2_ := (Option.bind_some _ _).symm.trans H; rw [hy217]; with_reducible exact H2_) | (have H2_ := (Option.bind_some _ _).symm.trans H; with_reducible exact H2_) | with_reducible exact H | (rw [hy217]; exact H) | exact H
           have Ny217 := Aside0.mk hy217; clear hy217; have H' := Aside0.mk H; clear H; have p215 : 0 ≤ (x57_2 : Int) := of_decide_eq_true (by first | (with_reducible assumption) | assumption); have q215 : x57_2 < (l1_3.length : Int) := of_decide_eq_true (by first | (with_reducible assumption) | assumption); obtain ⟨ad215, e215, hx215_0, hx215_1, hx215_2, hx215_3⟩ := at_T68 HR1_3.out x57_2 p215 q215
           cases e215
           replace hx215_0 := (HB.out.cell (World.block_lt_of_cell? w _ hx215_0)).trans hx215_0; replace hx215_1 := (HB.out.cell (World.block_lt_of_cell? w _ hx215_1)).trans hx215_1; replace hx215_2 := (HB.out.cell (World.block_lt_of_cell? w _ hx215_2)).trans hx215_2; replace hx215_3 := (HB.out.cell (World.block_lt_of_cell? w _ hx215_3)).trans hx215_3; replace p215 := eq_true p215; replace q215 := eq_true q215
           go_upto_region 10 with (first | ((with_reducible refine gate_dst (N := 8) rfl ?_); refine box_event ?hg (N := 8) ?hd (cs := #[.int .i64 0, .int .i64 0, .int .i64 0, .bool false]) (t := 68) ?hr ?_; (case hd => rfl); (case hg => rfl); (case hr => first | (go_simp; done) | (go_simp; rfl)); intro gb216 hg w68 hbox hb; replace HO_212003 := Aside0.mk (Kd.R_below (Kd.R_elderB (zR HO_212003.out) gb216 (Nat.le_of_eq hg.symm)) hb); have BK216 := Aside0.mk (hbox); have GW216 := xG HB hg; have GE216 := xG HB hg; replace HB := xS HB hb; have NB206_216 := xN BK206 hg; have NB216_206 := xM BK206 hg; replace BK206 := xB BK206 hb; have NB207_216 := xN BK207 hg; have NB216_207 := xM BK207 hg; replace BK207 := xB BK207 hb; have NB208_216 := xN BK208 hg; have NB216_208 := xM BK208 hg; replace BK208 := xB BK208 hb; have NB211_216 := xN BK211 hg; have NB216_211 := xM BK211 hg; replace BK211 := xB BK211 hb; clear hb hbox hg; have hnb69 := NB216_206.out; have hnc69 := NB206_216.out; have hnb70 := NB216_207.out; have hnc70 := NB207_216.out; have hnb71 := NB216_208.out; have hnc71 := NB208_216.out; have hnb72 := NB216_211.out; have hnc72 := NB211_216.out; have hcz73_0 : w68.cell? ⟨gb216, 0, none⟩ = some (.int .i64 0) := b1 BK216 0; have hcz73_1 : w68.cell? ⟨gb216, 1, none⟩ = some (.int .i64 0) := b1 BK216 1; have hcz73_2 : w68.cell? ⟨gb216, 2, none⟩ = some (.int .i64 0) := b1 BK216 2; have hcz73_3 : w68.cell? ⟨gb216, 3, none⟩ = some (.bool false) := b1 BK216 3; have hfz73_0 := blk_frozen BK216.out 0; have hfz73_1 := blk_frozen BK216.out 1; have hfz73_2 := blk_frozen BK216.out 2; have hfz73_3 := blk_frozen BK216.out 3; have hnb74 := NB206_207.out; have hnc74 := NB207_206.out; have hnb75 := NB206_208.out; have hnc75 := NB208_206.out; have hnb76 := NB206_211.out; have hnc76 := NB211_206.out; have hcz77_0 : w68.cell? ⟨gb206, 0, none⟩ = some (.int .i64 a0_0) := b1 BK206 0; have hcz77_1 : w68.cell? ⟨gb206, 1, none⟩ = some (.int .i64 a0_1) := b1 BK206 1; have hcz77_2 : w68.cell? ⟨gb206, 2, none⟩ = some (.int .i64 a0_2) := b1 BK206 2; have hcz77_3 : w68.cell? ⟨gb206, 3, none⟩ = some (.slice A0_3 l0_3.length c0_3) := b1 BK206 3; have hfz77_0 := blk_frozen BK206.out 0; have hfz77_1 := blk_frozen BK206.out 1; have hfz77_2 := blk_frozen BK206.out 2; have hfz77_3 := blk_frozen BK206.out 3; have hnb78 := NB211_207.out; have hnc78 := NB207_211.out; have hnb79 := NB211_208.out; have hnc79 := NB208_211.out; have hcz80_0 : w68.cell? ⟨gb211, 0, none⟩ = some (.int .i64 a0_0) := b1 BK211 0; have hcz80_1 : w68.cell? ⟨gb211, 1, none⟩ = some (.int .i64 (wrap64 (a0_1 + a1_1))) := b1 BK211 1; have hcz80_2 : w68.cell? ⟨gb211, 2, none⟩ = some (.int .i64 (Go.bits .or .i64 a0_2 (ji47))) := b1 BK211 2; have hcz80_3 : w68.cell? ⟨gb211, 3, none⟩ = some (u212003) := b1 BK211 3; have hfz80_0 := blk_frozen BK211.out 0; have hfz80_1 := blk_frozen BK211.out 1; have hfz80_2 := blk_frozen BK211.out 2; have hfz80_3 := blk_frozen BK211.out 3))
           have z0_ : Aside0 (((((((w68.setCell ⟨gb216, 0, none⟩ (.int .i64 ((rd_T68 l1_3 x57_2).f0))).setCell ⟨gb216, 1, none⟩ (.int .i64 ((rd_T68 l1_3 x57_2).f1))).setCell ⟨gb216, 2, none⟩ (.int .i64 ((rd_T68 l1_3 x57_2).f2))).setCell ⟨gb216, 3, none⟩ (.bool ((rd_T68 l1_3 x57_2).f3))).setCell ⟨gb216, 0, none⟩ (.int .i64 (wrap64 (((rd_T68 l1_3 x57_2).f0) + a0_1)))).setCell ⟨gb216, 2, none⟩ (.int .i64 (wrap64 (((rd_T68 l1_3 x57_2).f2) + a0_1)))).heap[gb206]? = some (.cells #[.int .i64 a0_0, .int .i64 a0_1, .int .i64 a0_2, .slice A0_3 l0_3.length c0_3] 24 (0, 0))) := ⟨(zB BK206.out)⟩; have z1_ : Aside0 (((((((w68.setCell ⟨gb216, 0, none⟩ (.int .i64 ((rd_T68 l1_3 x57_2).f0))).setCell ⟨gb216, 1, none⟩ (.int .i64 ((rd_T68 l1_3 x57_2).f1))).setCell ⟨gb216, 2, none⟩ (.int .i64 ((rd_T68 l1_3 x57_2).f2))).setCell ⟨gb216, 3, none⟩ (.bool ((rd_T68 l1_3 x57_2).f3))).setCell ⟨gb216, 0, none⟩ (.int .i64 (wrap64 (((rd_T68 l1_3 x57_2).f0) + a0_1)))).setCell ⟨gb216, 2, none⟩ (.int .i64 (wrap64 (((rd_T68 l1_3 x57_2).f2) + a0_1)))).heap[gb207]? = some (.cells #[.int .i64 a1_0, .int .i64 a1_1, .int .i64 a1_2, .slice (some ad215) l1_3.length c1_3] 24 (0, 0))) := ⟨(zB BK207.out)⟩; have z2_ : Aside0 (((((((w68.setCell ⟨gb216, 0, none⟩ (.int .i64 ((rd_T68 l1_3 x57_2).f0))).setCell ⟨gb216, 1, none⟩ (.int .i64 ((rd_T68 l1_3 x57_2).f1))).setCell ⟨gb216, 2, none⟩ (.int .i64 ((rd_T68 l1_3 x57_2).f2))).setCell ⟨gb216, 3, none⟩ (.bool ((rd_T68 l1_3 x57_2).f3))).setCell ⟨gb216, 0, none⟩ (.int .i64 (wrap64 (((rd_T68 l1_3 x57_2).f0) + a0_1)))).setCell ⟨gb216, 2, none⟩ (.int .i64 (wrap64 (((rd_T68 l1_3 x57_2).f2) + a0_1)))).heap[gb208]? = some (.cells #[.int .i64 0, .int .i64 0, .int .i64 0, .slice none 0 0] 24 (0, 0))) := ⟨(zB BK208.out)⟩; have z3_ : Aside0 (((((((w68.setCell ⟨gb216, 0, none⟩ (.int .i64 ((rd_T68 l1_3 x57_2).f0))).setCell ⟨gb216, 1, none⟩ (.int .i64 ((rd_T68 l1_3 x57_2).f1))).setCell ⟨gb216, 2, none⟩ (.int .i64 ((rd_T68 l1_3 x57_2).f2))).setCell ⟨gb216, 3, none⟩ (.bool ((rd_T68 l1_3 x57_2).f3))).setCell ⟨gb216, 0, none⟩ (.int .i64 (wrap64 (((rd_T68 l1_3 x57_2).f0) + a0_1)))).setCell ⟨gb216, 2, none⟩ (.int .i64 (wrap64 (((rd_T68 l1_3 x57_2).f2) + a0_1)))).heap[gb211]? = some (.cells #[.int .i64 a0_0, .int .i64 (wrap64 (a0_1 + a1_1)), .int .i64 (Go.bits .or .i64 a0_2 (ji47)), u212003] 24 (0, 0))) := ⟨(zB BK211.out)⟩
           have z4_ : Aside0 (((((((w68.setCell ⟨gb216, 0, none⟩ (.int .i64 ((rd_T68 l1_3 x57_2).f0))).setCell ⟨gb216, 1, none⟩ (.int .i64 ((rd_T68 l1_3 x57_2).f1))).setCell ⟨gb216, 2, none⟩ (.int .i64 ((rd_T68 l1_3 x57_2).f2))).setCell ⟨gb216, 3, none⟩ (.bool ((rd_T68 l1_3 x57_2).f3))).setCell ⟨gb216, 0, none⟩ (.int .i64 (wrap64 (((rd_T68 l1_3 x57_2).f0) + a0_1)))).setCell ⟨gb216, 2, none⟩ (.int .i64 (wrap64 (((rd_T68 l1_3 x57_2).f2) + a0_1)))).heap[gb216]? = some (.cells #[.int .i64 (wrap64 (((rd_T68 l1_3 x57_2).f0) + a0_1)), .int .i64 ((rd_T68 l1_3 x57_2).f1), .int .i64 (wrap64 (((rd_T68 l1_3 x57_2).f2) + a0_1)), .bool ((rd_T68 l1_3 x57_2).f3)] 68 (0, 0))) := ⟨(by (with_reducible repeat (first | refine blk_drewN ?_ _ | refine blk_drew ?_ | refine blk_alloc ?_ _)); refine blk_put (cs := #[.int .i64 (wrap64 (((rd_T68 l1_3 x57_2).f0) + a0_1)), .int .i64 ((rd_T68 l1_3 x57_2).f1), .int .i64 ((rd_T68 l1_3 x57_2).f2), .bool ((rd_T68 l1_3 x57_2).f3)]) ?_ 2 _ rfl; (with_reducible repeat (first | refine blk_drewN ?_ _ | refine blk_drew ?_ | refine blk_alloc ?_ _)); refine blk_put (cs := #[.int .i64 ((rd_T68 l1_3 x57_2).f0), .int .i64 ((rd_T68 l1_3 x57_2).f1), .int .i64 ((rd_T68 l1_3 x57_2).f2), .bool ((rd_T68 l1_3 x57_2).f3)]) ?_ 0 _ rfl; (with_reducible repeat (first | refine blk_drewN ?_ _ | refine blk_drew ?_ | refine blk_alloc ?_ _)); refine blk_put (cs := #[.int .i64 ((rd_T68 l1_3 x57_2).f0), .int .i64 ((rd_T68 l1_3 x57_2).f1), .int .i64 ((rd_T68 l1_3 x57_2).f2), .bool false]) ?_ 3 _ rfl; (with_reducible repeat (first | refine blk_drewN ?_ _ | refine blk_drew ?_ | refine blk_alloc ?_ _)); refine blk_put (cs := #[.int .i64 ((rd_T68 l1_3 x57_2).f0), .int .i64 ((rd_T68 l1_3 x57_2).f1), .int .i64 0, .bool false]) ?_ 2 _ rfl; (with_reducible repeat (first | refine blk_drewN ?_ _ | refine blk_drew ?_ | refine blk_alloc ?_ _)); refine blk_put (cs := #[.int .i64 ((rd_T68 l1_3 x57_2).f0), .int .i64 0, .int .i64 0, .bool false]) ?_ 1 _ rfl; (with_reducible repeat (first | refine blk_drewN ?_ _ | refine blk_drew ?_ | refine blk_alloc ?_ _)); refine blk_put (cs := #[.int .i64 0, .int .i64 0, .int .i64 0, .bool false]) ?_ 0 _ rfl; (with_reducible repeat (first | refine blk_drewN ?_ _ | refine blk_drew ?_ | refine blk_alloc ?_ _)); exact BK216.out)⟩; have zo_ := Aside0.mk (Kd.R_mono (Kd.R_far (p := ⟨gb216, 2, none⟩) (Kd.R_far (p := ⟨gb216, 0, none⟩) (Kd.R_far (p := ⟨gb216, 3, none⟩) (Kd.R_far (p := ⟨gb216, 2, none⟩) (Kd.R_far (p := ⟨gb216, 1, none⟩) (Kd.R_far (p := ⟨gb216, 0, none⟩) (Kd.R_mono HO_212003.out (fun k_ hk => (⟨hk, hk.2⟩ : _ ∧ k_ ≠ gb216))) (fun _ hk => hk.2) (.int .i64 ((rd_T68 l1_3 x57_2).f0))) (fun _ hk => hk.2) (.int .i64 ((rd_T68 l1_3 x57_2).f1))) (fun _ hk => hk.2) (.int .i64 ((rd_T68 l1_3 x57_2).f2))) (fun _ hk => hk.2) (.bool ((rd_T68 l1_3 x57_2).f3))) (fun _ hk => hk.2) (.int .i64 (wrap64 (((rd_T68 l1_3 x57_2).f0) + a0_1)))) (fun _ hk => hk.2) (.int .i64 (wrap64 (((rd_T68 l1_3 x57_2).f2) + a0_1)))) (fun _ hk => hk.1))
           have zb_ : Aside0 (Below w.heap.size w ((((((w68.setCell ⟨gb216, 0, none⟩ (.int .i64 ((rd_T68 l1_3 x57_2).f0))).setCell ⟨gb216, 1, none⟩ (.int .i64 ((rd_T68 l1_3 x57_2).f1))).setCell ⟨gb216, 2, none⟩ (.int .i64 ((rd_T68 l1_3 x57_2).f2))).setCell ⟨gb216, 3, none⟩ (.bool ((rd_T68 l1_3 x57_2).f3))).setCell ⟨gb216, 0, none⟩ (.int .i64 (wrap64 (((rd_T68 l1_3 x57_2).f0) + a0_1)))).setCell ⟨gb216, 2, none⟩ (.int .i64 (wrap64 (((rd_T68 l1_3 x57_2).f2) + a0_1))))) := ⟨(zS HB.out)⟩; generalize ((((((w68.setCell ⟨gb216, 0, none⟩ (.int .i64 ((rd_T68 l1_3 x57_2).f0))).setCell ⟨gb216, 1, none⟩ (.int .i64 ((rd_T68 l1_3 x57_2).f1))).setCell ⟨gb216, 2, none⟩ (.int .i64 ((rd_T68 l1_3 x57_2).f2))).setCell ⟨gb216, 3, none⟩ (.bool ((rd_T68 l1_3 x57_2).f3))).setCell ⟨gb216, 0, none⟩ (.int .i64 (wrap64 (((rd_T68 l1_3 x57_2).f0) + a0_1)))).setCell ⟨gb216, 2, none⟩ (.int .i64 (wrap64 (((rd_T68 l1_3 x57_2).f2) + a0_1)))) = wz at z0_ z1_ z2_ z3_ z4_ zo_ zb_ ⊢; clear BK206 BK207 BK208 BK211 BK216 HO_212003 HB; have BK206 := z0_; have BK207 := z1_; have BK208 := z2_; have BK211 := z3_; have BK216 := z4_; have HO_212003 := zo_; have HB := zb_; clear z0_ z1_ z2_ z3_ z4_ zo_ zb_; have hczz206_0 : wz.cell? ⟨gb206, 0, none⟩ = some (.int .i64 a0_0) := b1 BK206 0; have hfzz206_0 := blk_frozen BK206.out 0; have hczz206_1 : wz.cell? ⟨gb206, 1, none⟩ = some (.int .i64 a0_1) := b1 BK206 1; have hfzz206_1 := blk_frozen BK206.out 1; have hczz206_2 : wz.cell? ⟨gb206, 2, none⟩ = some (.int .i64 a0_2) := b1 BK206 2; have hfzz206_2 := blk_frozen BK206.out 2; have hczz206_3 : wz.cell? ⟨gb206, 3, none⟩ = some (.slice A0_3 l0_3.length c0_3) := b1 BK206 3; have hfzz206_3 := blk_frozen BK206.out 3; have hczz207_0 : wz.cell? ⟨gb207, 0, none⟩ = some (.int .i64 a1_0) := b1 BK207 0; have hfzz207_0 := blk_frozen BK207.out 0; have hczz207_1 : wz.cell? ⟨gb207, 1, none⟩ = some (.int .i64 a1_1) := b1 BK207 1; have hfzz207_1 := blk_frozen BK207.out 1; have hczz207_2 : wz.cell? ⟨gb207, 2, none⟩ = some (.int .i64 a1_2) := b1 BK207 2; have hfzz207_2 := blk_frozen BK207.out 2; have hczz207_3 : wz.cell? ⟨gb207, 3, none⟩ = some (.slice (some ad215) l1_3.length c1_3) := b1 BK207 3; have hfzz207_3 := blk_frozen BK207.out 3; have hczz208_0 : wz.cell? ⟨gb208, 0, none⟩ = some (.int .i64 0) := b1 BK208 0; have hfzz208_0 := blk_frozen BK208.out 0; have hczz208_1 : wz.cell? ⟨gb208, 1, none⟩ = some (.int .i64 0) := b1 BK208 1; have hfzz208_1 := blk_frozen BK208.out 1; have hczz208_2 : wz.cell? ⟨gb208, 2, none⟩ = some (.int .i64 0) := b1 BK208 2; have hfzz208_2 := blk_frozen BK208.out 2; have hczz208_3 : wz.cell? ⟨gb208, 3, none⟩ = some (.slice none 0 0) := b1 BK208 3; have hfzz208_3 := blk_frozen BK208.out 3; have hczz211_0 : wz.cell? ⟨gb211, 0, none⟩ = some (.int .i64 a0_0) := b1 BK211 0; have hfzz211_0 := blk_frozen BK211.out 0; have hczz211_1 : wz.cell? ⟨gb211, 1, none⟩ = some (.int .i64 (wrap64 (a0_1 + a1_1))) := b1 BK211 1; have hfzz211_1 := blk_frozen BK211.out 1
           have hczz211_2 : wz.cell? ⟨gb211, 2, none⟩ = some (.int .i64 (Go.bits .or .i64 a0_2 (ji47))) := b1 BK211 2; have hfzz211_2 := blk_frozen BK211.out 2; have hczz211_3 : wz.cell? ⟨gb211, 3, none⟩ = some (u212003) := b1 BK211 3; have hfzz211_3 := blk_frozen BK211.out 3; have hczz216_0 : wz.cell? ⟨gb216, 0, none⟩ = some (.int .i64 (wrap64 (((rd_T68 l1_3 x57_2).f0) + a0_1))) := b1 BK216 0; have hfzz216_0 := blk_frozen BK216.out 0; have hczz216_1 : wz.cell? ⟨gb216, 1, none⟩ = some (.int .i64 ((rd_T68 l1_3 x57_2).f1)) := b1 BK216 1; have hfzz216_1 := blk_frozen BK216.out 1; have hczz216_2 : wz.cell? ⟨gb216, 2, none⟩ = some (.int .i64 (wrap64 (((rd_T68 l1_3 x57_2).f2) + a0_1))) := b1 BK216 2; have hfzz216_2 := blk_frozen BK216.out 2; have hczz216_3 : wz.cell? ⟨gb216, 3, none⟩ = some (.bool ((rd_T68 l1_3 x57_2).f3)) := b1 BK216 3; have hfzz216_3 := blk_frozen BK216.out 3
           go_wp2_with (first | ((with_reducible refine gate_builtin (b := .append) (xs := #[.tmp 74, .tmp 76]) rfl ?_); at_builtin; refine Kd.R_append k68 (w0 := w) w.heap.size rfl (.tmp 74) (.tmp 76) 22 68 (.agg #[(.int .i64 0), (.int .i64 0), (.int .i64 0), (.bool false)]) 32 rfl Try.underlying22 info68 rfl (by decide) (by omega) u212003 x212003_2 (⟨wrap64 (((rd_T68 l1_3 x57_2).f0) + a0_1), (rd_T68 l1_3 x57_2).f1, wrap64 (((rd_T68 l1_3 x57_2).f2) + a0_1), (rd_T68 l1_3 x57_2).f3⟩ : S68) [.int .i64 (wrap64 (((rd_T68 l1_3 x57_2).f0) + a0_1)), .int .i64 ((rd_T68 l1_3 x57_2).f1), .int .i64 (wrap64 (((rd_T68 l1_3 x57_2).f2) + a0_1)), .bool ((rd_T68 l1_3 x57_2).f3)] (fun k_ => k_ ≠ gb216) (fun _ => False) rfl (by first | (go_simp; done) | (go_simp; rfl)) ?aP (fun _ hk => hk.elim) ?aF ?aO ?aB ?aS ?aL ?_; (case aP => exact k68_mkM _ _ _ (⟨wrap64 (((rd_T68 l1_3 x57_2).f0) + a0_1), (rd_T68 l1_3 x57_2).f1, wrap64 (((rd_T68 l1_3 x57_2).f2) + a0_1), (rd_T68 l1_3 x57_2).f3⟩ : S68)); (case aB => exact HB.out); (case aF => exact (fun k_ hk => Kd.freshB (g := gb216) (o := .cells #[.int .i64 (wrap64 (((rd_T68 l1_3 x57_2).f0) + a0_1)), .int .i64 ((rd_T68 l1_3 x57_2).f1), .int .i64 (wrap64 (((rd_T68 l1_3 x57_2).f2) + a0_1)), .bool ((rd_T68 l1_3 x57_2).f3)] 68 (0, 0)) BK216.out k_ hk)); (case aO => exact Kd.R_mono HO_212003.out (fun _ hk => hk.2)); (case aS => exact (below_size HB.out)); (case aL => have := LMc67.out; omega); intro v218 w81 ho hb hg hat; rw [← Ny217.out] at ho; have n0_ := Aside0.mk (blk_grown (g := gb206) (o := .cells #[.int .i64 a0_0, .int .i64 a0_1, .int .i64 a0_2, .slice A0_3 l0_3.length c0_3] 24 (0, 0)) BK206.out hg (Kd.R_ne HO_212003.out BK206.out (by decide))); have n1_ := Aside0.mk (blk_grown (g := gb207) (o := .cells #[.int .i64 a1_0, .int .i64 a1_1, .int .i64 a1_2, .slice (some ad215) l1_3.length c1_3] 24 (0, 0)) BK207.out hg (Kd.R_ne HO_212003.out BK207.out (by decide))); have n2_ := Aside0.mk (blk_grown (g := gb208) (o := .cells #[.int .i64 0, .int .i64 0, .int .i64 0, .slice none 0 0] 24 (0, 0)) BK208.out hg (Kd.R_ne HO_212003.out BK208.out (by decide))); have n3_ := Aside0.mk (blk_grown (g := gb211) (o := .cells #[.int .i64 a0_0, .int .i64 (wrap64 (a0_1 + a1_1)), .int .i64 (Go.bits .or .i64 a0_2 (ji47)), u212003] 24 (0, 0)) BK211.out hg (Kd.R_ne HO_212003.out BK211.out (by decide))); have n4_ := Aside0.mk (blk_grown (g := gb216) (o := .cells #[.int .i64 (wrap64 (((rd_T68 l1_3 x57_2).f0) + a0_1)), .int .i64 ((rd_T68 l1_3 x57_2).f1), .int .i64 (wrap64 (((rd_T68 l1_3 x57_2).f2) + a0_1)), .bool ((rd_T68 l1_3 x57_2).f3)] 68 (0, 0)) BK216.out hg (Kd.R_away HO_212003.out (fun _ hk => hk.2))); have n5_ := Aside0.mk (hb); have n6_ := Aside0.mk (ho); clear BK206; clear BK207; clear BK208; clear BK211; clear BK216; clear HB; clear HO_212003; have BK206 := n0_; have BK207 := n1_; have BK208 := n2_; have BK211 := n3_; have BK216 := n4_; have HB := n5_; have HO219 := n6_; clear n0_ n1_ n2_ n3_ n4_ n5_ n6_; clear ho hb hg hat; obtain ⟨Ao82, co82, eo82⟩ := Kd.R_slice HO219.out; subst eo82; have hcz83_0 : w81.cell? ⟨gb211, 0, none⟩ = some (.int .i64 a0_0) := b1 BK211 0; have hcz83_1 : w81.cell? ⟨gb211, 1, none⟩ = some (.int .i64 (wrap64 (a0_1 + a1_1))) := b1 BK211 1; have hcz83_2 : w81.cell? ⟨gb211, 2, none⟩ = some (.int .i64 (Go.bits .or .i64 a0_2 (ji47))) := b1 BK211 2; have hcz83_3 : w81.cell? ⟨gb211, 3, none⟩ = some (u212003) := b1 BK211 3; have hfz83_0 := blk_frozen BK211.out 0; have hfz83_1 := blk_frozen BK211.out 1; have hfz83_2 := blk_frozen BK211.out 2; have hfz83_3 := blk_frozen BK211.out 3))
           go_roundg k2
           case measure => have := HJ2.out; have := HK2.out; omega
           case rel => exact ⟨(wrap64 (x57_2 + 1)), (y217), (.slice Ao82 y217.length co82), (by first | rfl | (simp; done) | (simp [*]; done)), H', ⟨by have := HJ2.out; have := HK2.out; omega⟩, ⟨by (with_reducible repeat (first | apply Kd.R_alloc | apply Kd.R_drewN | apply Kd.R_drew)); exact Kd.R_mono (Kd.R_far (p := ⟨gb211, 3, none⟩) (Kd.R_types HO219.out BK211.out (by decide)) (fun _ hk => hk.2) (.slice Ao82 y217.length co82)) (fun _ hk => trivial)⟩, ⟨zB BK206.out⟩, ⟨zB BK207.out⟩, ⟨zB BK208.out⟩, ⟨by (with_reducible repeat (first | refine blk_drewN ?_ _ | refine blk_drew ?_ | refine blk_alloc ?_ _)); refine blk_put (cs := #[.int .i64 a0_0, .int .i64 (wrap64 (a0_1 + a1_1)), .int .i64 (Go.bits .or .i64 a0_2 (ji47)), u212003]) ?_ 3 _ rfl; (with_reducible repeat (first | refine blk_drewN ?_ _ | refine blk_drew ?_ | refine blk_alloc ?_ _)); exact BK211.out⟩, ⟨zS HB.out⟩⟩
          ·rw [if_neg c67] at H; exact absurd H (by simp)
         ·rw [if_neg c66] at H; exact absurd H (by simp)
        ·rw [if_neg c65] at H; exact absurd H (by simp)
       ·rw [if_neg c64] at H; have c64b0 : decide (x57_2 < (l1_3.length : Int)) = false := decide_eq_false c64; clear c64; replace H := Option.bind_eq_some_iff.mp H; obtain ⟨⟨t220, t221, t222, t223, t226⟩, A840, H⟩ := H; replace H : (some (t220, t221, t222, t223, t226)) = some (r1, r2, r3, r4, r5) := H; have A84 := Aside0.mk A840; clear A840; simp only [Option.some.injEq, Prod.mk.injEq] at H; obtain ⟨rfl, rfl, rfl, rfl, rfl⟩ := H; have hnb85 := NB211_206.out; have hnc85 := NB206_211.out; have hnb86 := NB211_207.out; have hnc86 := NB207_211.out; have hnb87 := NB211_208.out; have hnc87 := NB208_211.out; have hcz88_0 : wr.cell? ⟨gb211, 0, none⟩ = some (.int .i64 a0_0) := b1 BK211 0; have hcz88_1 : wr.cell? ⟨gb211, 1, none⟩ = some (.int .i64 (wrap64 (a0_1 + a1_1))) := b1 BK211 1; have hcz88_2 : wr.cell? ⟨gb211, 2, none⟩ = some (.int .i64 (Go.bits .or .i64 a0_2 (ji47))) := b1 BK211 2; have hcz88_3 : wr.cell? ⟨gb211, 3, none⟩ = some (u212003) := b1 BK211 3; have hfz88_0 := blk_frozen BK211.out 0; have hfz88_1 := blk_frozen BK211.out 1; have hfz88_2 := blk_frozen BK211.out 2; have hfz88_3 := blk_frozen BK211.out 3; obtain ⟨Ao89, co89, eo89⟩ := Kd.R_slice HO_212003.out; subst eo89
        go_wp2_with (first | ((with_reducible refine gate_callee (f := 83) rfl ?_); refine goesL_ (some 81) rfl rfl Try.func83 (by kernel_rfl) rfl #[.agg #[.int .i64 a0_0, .int .i64 (wrap64 (a0_1 + a1_1)), .int .i64 (Go.bits .or .i64 a0_2 (ji47)), .slice Ao89 x212003_2.length co89]] rfl (by (try simp only [m3]); first | done | (simp only [hji47]; rfl) | rfl | (simp only [d2]; rfl)) ?_; (with_reducible refine (impl_rightAuto.calls k2 a0_0 (wrap64 (a0_1 + a1_1)) (Go.bits .or .i64 a0_2 (ji47)) (fun k_ => some k_ = (.slice Ao89 x212003_2.length co89 : Value).ownBlock) (.slice Ao89 x212003_2.length co89) x212003_2 t220 t221 t222 t223 t226 w _ ?side1 ?side2 A84.out).mono ?_); (case side1 => repeat (first | (with_reducible first | exact HB.out | apply below_alloc | apply pw_below_drewN | apply below_drew1 | refine below_set ?_ GE206.out | refine below_set ?_ GE207.out | refine below_set ?_ GE208.out | refine below_set ?_ GE211.out) | exact HB.out)); (case side2 => exact Kd.R_tight rfl HO_212003.out); rintro e w90 ⟨v224, rfl, ho0, hb, hkp⟩; refine ⟨_, rfl, ?_⟩; have n0_ := Aside0.mk (blk_kept (zB BK206.out) hkp (fun hs_ => (fun e_ => (Kd.R_ne HO_212003.out BK206.out (by decide)) e_) hs_)); have n1_ := Aside0.mk (blk_kept (zB BK207.out) hkp (fun hs_ => (fun e_ => (Kd.R_ne HO_212003.out BK207.out (by decide)) e_) hs_)); have n2_ := Aside0.mk (blk_kept (zB BK208.out) hkp (fun hs_ => (fun e_ => (Kd.R_ne HO_212003.out BK208.out (by decide)) e_) hs_)); have n3_ := Aside0.mk (blk_kept (zB BK211.out) hkp (fun hs_ => (fun e_ => (Kd.R_ne HO_212003.out BK211.out (by decide)) e_) hs_)); have n4_ := Aside0.mk (Kd.R_mono (ok' := fun k_ => True) ho0 (fun k_ hk_ => trivial)); have n5_ := Aside0.mk (hb); clear BK206; clear BK207; clear BK208; clear BK211; clear HB; clear HO_212003; have BK206 := n0_; have BK207 := n1_; have BK208 := n2_; have BK211 := n3_; have HO225 := n4_; have HB := n5_; clear n0_ n1_ n2_ n3_ n4_ n5_; (try clear hb); (try clear hkp); (try clear ho0); have hnb91 := NB208_206.out; have hnc91 := NB206_208.out; have hnb92 := NB208_207.out; have hnc92 := NB207_208.out; have hcz93_0 : w90.cell? ⟨gb208, 0, none⟩ = some (.int .i64 0) := b1 BK208 0; have hcz93_1 : w90.cell? ⟨gb208, 1, none⟩ = some (.int .i64 0) := b1 BK208 1; have hcz93_2 : w90.cell? ⟨gb208, 2, none⟩ = some (.int .i64 0) := b1 BK208 2; have hcz93_3 : w90.cell? ⟨gb208, 3, none⟩ = some (.slice none 0 0) := b1 BK208 3; have hfz93_0 := blk_frozen BK208.out 0; have hfz93_1 := blk_frozen BK208.out 1; have hfz93_2 := blk_frozen BK208.out 2; have hfz93_3 := blk_frozen BK208.out 3; obtain ⟨Ao94, co94, eo94⟩ := Kd.R_slice HO225.out; subst eo94))
        refine bodyPost_ret (results_ct rfl _ _ gb208 24 #[.int .i64 t220, .int .i64 t221, .int .i64 t222, .slice Ao94 t223.length co94] (0, 0) _ rfl (xP4 BK208.out) Try.underlying24 rfl (by kernel_rfl)) rfl ?_; exact ⟨_, by first | rfl | (simp [errW_none, errW_some] <;> rfl) | (simp only [← hji45, ← hji47]; first | rfl | (simp [errW_none, errW_some] <;> rfl)) | (simp [*, errW_none, errW_some] <;> rfl), by (with_reducible repeat (first | apply Kd.R_alloc | apply Kd.R_drewN | apply Kd.R_drew)); exact Kd.R_mono (Kd.R_far (p := ⟨gb208, 3, none⟩) (Kd.R_far (p := ⟨gb208, 2, none⟩) (Kd.R_far (p := ⟨gb208, 1, none⟩) (Kd.R_far (p := ⟨gb208, 0, none⟩) (Kd.R_types HO225.out BK208.out (by decide)) (fun _ hk => hk.2) (.int .i64 t220)) (fun _ hk => hk.2) (.int .i64 t221)) (fun _ hk => hk.2) (.int .i64 t222)) (fun _ hk => hk.2) (.slice Ao94 t223.length co94)) (fun _ hk => trivial), by repeat (first | (with_reducible first | exact HB.out | apply below_alloc | apply pw_below_drewN | apply below_drew1 | refine below_set ?_ GE206.out | refine below_set ?_ GE207.out | refine below_set ?_ GE208.out | refine below_set ?_ GE211.out) | exact HB.out)⟩
    ·rw [if_neg c46] at H; exact absurd H (by simp)

end Go.Proofs.Ytlallflpicgcmaa.MFnExactAutoUnion
