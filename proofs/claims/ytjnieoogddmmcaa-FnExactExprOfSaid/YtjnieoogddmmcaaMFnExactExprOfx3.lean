-- Written by a program of this session, out of Lean's print of the translation. Not trusted: Lean checks it.
import Derived.Test.YtjnieoogddmmcaaMFnExactExprOfx0
import Derived.Test.YtjnieoogddmmcaaMFnExactExprOfx2
namespace Go.Proofs.Ytjnieoogddmmcaa.MFnExactExprOf
open Go.RowKit Go.Proofs.YtjnieoogddmmcaaW.PrintWords Go.Proofs.YtjnieoogddmmcaaW.PrintLast Go.Proofs.YtjnieoogddmmcaaW.PrintMore
attribute [local go_sem] max2_int min2_int max_two min_two max_three min_three max_four min_four   -- for this text's walks alone
set_option linter.unusedVariables false
set_option linter.unusedSimpArgs false

/-! ### impl_ExprOf: function 19 -/
/-- What a letter's place adds: its sign, its opposite, and both joined. -/
def impl_ExprOf.stepL (b : Bool) (i : Nat) (xs : List S45) : List S45 :=
  let ys := xs ++ [⟨3, i, 0⟩]
  let zs := if b then ys else ys ++ [⟨4, (ys.length : Int) - 1, 0⟩]
  if 0 < i then zs ++ [⟨5, (xs.length : Int) - 1, (zs.length : Int) - 1⟩] else zs
def impl_ExprOf.prodO (m : Int) : Nat → List S45 → Option (List S45)
  | 0, xs => some xs
  | n + 1, xs => (impl_ExprOf.prodO m n xs).bind fun ys => (impl_has.f m (n : Int)).bind fun b => if ys.length < 100000 then some (impl_ExprOf.stepL b n ys) else none
theorem impl_ExprOf.prodO_le (m : Int) (xs : List S45) : ∀ (d n : Nat) (z : List S45), impl_ExprOf.prodO m (n + d) xs = some z → ∃ y, impl_ExprOf.prodO m n xs = some y
  | 0, _, z, h => ⟨z, h⟩
  | d + 1, n, z, h => by
    rw [show n + (d + 1) = (n + d) + 1 by omega, impl_ExprOf.prodO] at h
    obtain ⟨y, hy, _⟩ := Option.bind_eq_some_iff.1 h
    exact impl_ExprOf.prodO_le m xs d n y hy
def impl_ExprOf.sumO (p : Nat) (L : List Int) : Nat → Option (List S45)
  | 0 => some []
  | n + 1 => (impl_ExprOf.sumO p L n).bind fun xs => if xs.length < 100000 then ((impl_ExprOf.prodO (rd L (n : Int)) p xs).bind fun ys => if ys.length < 100000 then some (if 0 < n then ys ++ [⟨6, (xs.length : Int) - 1, (ys.length : Int) - 1⟩] else ys) else none) else none
theorem impl_ExprOf.sumO_le (p : Nat) (L : List Int) : ∀ (d n : Nat) (z : List S45), impl_ExprOf.sumO p L (n + d) = some z → ∃ y, impl_ExprOf.sumO p L n = some y
  | 0, _, z, h => ⟨z, h⟩
  | d + 1, n, z, h => by
    rw [show n + (d + 1) = (n + d) + 1 by omega, impl_ExprOf.sumO] at h
    obtain ⟨y, hy, _⟩ := Option.bind_eq_some_iff.1 h
    exact impl_ExprOf.sumO_le p L d n y hy
def impl_ExprOf.restO (k : Nat) (a0 : Int) (p : Nat) : Option (List S45 × Bool) := (impl_SetList.f k a0).bind fun L => (impl_ExprOf.sumO p L L.length).bind fun xs => if xs.length < 100000 then (if xs.length > 31 then some ([], false) else some (xs, true)) else none
def impl_ExprOf.f (k : Nat) (a0 : Int) (a1 : Int) : Option (List S45 × Bool) := (impl_isProps.f a1).bind fun b1 => if b1 = true then ((impl_SetOk.f a0).bind fun b2 => if b2 = true then ((impl_only.f a1).bind fun p1 => (impl_only.f p1).bind fun p2 => if a0 ≥ p2 then some ([], false) else if a0 = 0 then some ([⟨2, 0, 0⟩], true) else if a0 = wrap64 (p2 - 1) then some ([⟨1, 0, 0⟩], true) else if 0 ≤ a1 ∧ a1 < 1000 then impl_ExprOf.restO k a0 a1.toNat else none) else some ([], false)) else some ([], false)
theorem impl_ExprOf.mono : ∀ a0 a1 k, LeO (impl_ExprOf.f k a0 a1) (impl_ExprOf.f (k + 1) a0 a1) := by
  intro a0 a1 k
  unfold impl_ExprOf.f impl_ExprOf.restO
  repeat' first
    | exact impl_SetList.mono _ _
    | exact LeO.refl _
    | exact LeO.none _
    | refine LeO.ite ?_ ?_
    | refine LeO.bind ?_ (fun _ => ?_)
/-- A reader's block. -/
abbrev impl_ExprOf.cells (v : Value) : Array Value := #[.string ByteArray.empty, .int .i64 0, .int .i64 0, v, .nilFunc]
/-- A reader at block g, its list xs a row that was made behind the world u; what else was there then lies there still. -/
def impl_ExprOf.St (w0 u : World) (g : Nat) (w : World) (xs : List S45) : Prop :=
  ∃ A c, Kd.R k45 45 w u.heap.size (fun _ => True) (.slice A xs.length c) xs ∧ w.heap[g]? = some (.cells (impl_ExprOf.cells (.slice A xs.length c)) 59 (0, 0)) ∧ Below w0.heap.size w0 w ∧
    (∀ k, k < u.heap.size → k ≠ g → w.heap[k]? = u.heap[k]?) ∧ u.heap.size ≤ w.heap.size ∧ w0.heap.size ≤ g ∧ g < u.heap.size
theorem impl_ExprOf.St_drewN {w0 u w : World} {g : Nat} {xs : List S45} (h : impl_ExprOf.St w0 u g w xs) (n : Nat) : impl_ExprOf.St w0 u g (w.drewN n) xs := by
  obtain ⟨A, c, h1, h2, h3, h4, h5, h6, h7⟩ := h
  exact ⟨A, c, Kd.R_drewN h1 n, blk_drewN h2 n, pw_below_drewN h3 n, h4, h5, h6, h7⟩
/-- Behind an append, stored into the reader. -/
theorem impl_ExprOf.St_put {w0 u w w1 : World} {g : Nat} {xs : List S45} {A1 : Option Addr} {c1 : Nat} (x : S45) (h : impl_ExprOf.St w0 u g w xs) (ho : Kd.R k45 45 w1 u.heap.size (fun _ => True) (.slice A1 (xs.length + 1) c1) (xs ++ [x])) (hb : Below u.heap.size w w1) :
    impl_ExprOf.St w0 u g (w1.setCell ⟨g, 3, none⟩ (.slice A1 (xs.length + 1) c1)) (xs ++ [x]) := by
  obtain ⟨A, c, h1, h2, h3, h4, h5, h6, h7⟩ := h
  have hg1 : w1.heap[g]? = _ := (hb.block g h7).trans h2
  have hl : (xs ++ [x]).length = xs.length + 1 := by rw [List.length_append, List.length_singleton]
  refine ⟨A1, c1, ?_, ?_, ?_, fun k hk hne => ?_, ?_, h6, h7⟩
  · rw [hl]
    exact Kd.R_mono (Kd.R_far (p := ⟨g, 3, none⟩) (Kd.R_bound ho) (fun k hk => by have := hk.2.1; show k ≠ g; omega) _) (fun _ _ => trivial)
  · rw [hl]
    exact blk_put hg1 3 _ rfl
  · exact (below_weaken h3 (by omega) hb).setCell (p := ⟨g, 3, none⟩) h6 _
  · rw [Below.heap_setCell _ _ _ _ hne]
    exact (hb.block k hk).trans (h4 k hk hne)
  · have := hb.size
    simp only [World.setCell, Array.size_modify]
    omega
set_option maxHeartbeats 8000000 in
set_option maxRecDepth 100000 in
theorem impl_ExprOf.leaf (g : Nat) (kd a : Int) (xs : List S45) (w0 u w : World) (h : impl_ExprOf.St w0 u g w xs) (hlen : xs.length < 1000000) :
    Calls Try.prog 70 #[.pointer (some ⟨g, 0, none⟩), .int .i64 kd, .int .i64 a] w fun e w' => e = .returned (.tuple #[]) ∧ impl_ExprOf.St w0 u g w' (xs ++ [⟨kd, a, 0⟩]) := by
  have H := Aside0.mk h
  obtain ⟨A, c, ho, hBK, hB, hk, hs, h6, h7⟩ := h
  have hc3 : w.cell? ⟨g, 3, none⟩ = some (.slice A xs.length c) := blk_cell hBK 3
  have HO := Aside0.mk ho
  have HS := Aside0.mk hs
  have HBK := Aside0.mk hBK
  have H7 := Aside0.mk h7
  clear ho hBK hB hk hs h6 h7
  go_enter Try.func70, Try.ntmps70
  go_wp2_with (at_builtin; refine Kd.R_append k45 (w0 := w) u.heap.size rfl (.tmp 10) (.tmp 14) 25 45 (.agg #[(.int .i64 0), (.int .i64 0), (.int .i64 0)]) 24 rfl Try.underlying25 info45 rfl (by decide) (by omega) (.slice A xs.length c) xs (⟨kd, a, 0⟩ : S45) [.int .i64 kd, .int .i64 a, .int .i64 0] (fun _ => True) (fun _ => False) rfl (by first | (go_simp; done) | (go_simp; rfl)) (k45_mkM _ _ _ (⟨kd, a, 0⟩ : S45)) (fun _ hk => hk.elim) (fun _ _ => trivial) HO.out (Below.refl _ _) HS.out (by omega) ?_; intro v1 w1 ho1 hb1 hg1 _; obtain ⟨A1, c1, e1⟩ := Kd.R_slice ho1; rw [List.length_append, List.length_singleton] at e1; subst e1; have hbk1 : w1.heap[g]? = _ := (hb1.block g H7.out).trans HBK.out; have hc4 : w1.cell? ⟨g, 3, none⟩ = some (.slice A xs.length c) := blk_cell hbk1 3; have hf4 := blk_frozen hbk1 3; have HO1 := Aside0.mk ho1; have HB1 := Aside0.mk hb1; clear ho1 hb1 hg1 hbk1)
  go_end0
  exact ⟨rfl, impl_ExprOf.St_put _ H.out HO1.out HB1.out⟩
set_option maxHeartbeats 8000000 in
set_option maxRecDepth 100000 in
theorem impl_ExprOf.one (g : Nat) (kd : Int) (xs : List S45) (w0 u w : World) (h : impl_ExprOf.St w0 u g w xs) (hlen : xs.length < 1000000) :
    Calls Try.prog 59 #[.pointer (some ⟨g, 0, none⟩), .int .i64 kd] w fun e w' => e = .returned (.tuple #[]) ∧ impl_ExprOf.St w0 u g w' (xs ++ [⟨kd, (xs.length : Int) - 1, 0⟩]) := by
  have H := Aside0.mk (impl_ExprOf.St_drewN h 1)
  obtain ⟨A, c, ho, hBK, hB, hk, hs, h6, h7⟩ := h
  have hw1 : IntKind.i64.wrap ((xs.length : Int) - 1) = (xs.length : Int) - 1 := by rw [IntKind.wrap_i64]; omega
  have hg : g < w.heap.size := (Array.getElem?_eq_some_iff.1 hBK).1
  have hc3w : w.cell? ⟨g, 3, none⟩ = some (.slice A xs.length c) := blk_cell hBK 3
  have hc3 : w.drew.cell? ⟨g, 3, none⟩ = some (.slice A xs.length c) := blk_cell (blk_drew hBK) 3
  have hf3 : w.drew.frozen? ⟨g, 3, none⟩ = false := blk_frozen (blk_drew hBK) 3
  have HO := Aside0.mk (Kd.R_drew ho)
  have HS := Aside0.mk hs
  have HBK := Aside0.mk (blk_drew hBK)
  have H7 := Aside0.mk h7
  clear ho hBK hB hk hs h6 h7
  go_enter Try.func59, Try.ntmps59
  go_region_law (refine Kd.R_append_step k45 (w0 := w.drew) u.heap.size (by simp [Region.wanted]) (.tmp 8) (.tmp 17) 25 45 (.agg #[(.int .i64 0), (.int .i64 0), (.int .i64 0)]) 24 rfl Try.underlying25 info45 rfl (by decide) (by omega) (.slice A xs.length c) xs (⟨kd, (xs.length : Int) - 1, 0⟩ : S45) [.int .i64 kd, .int .i64 ((xs.length : Int) - 1), .int .i64 0] (fun _ => True) (fun _ => False) (by simp [Act.eval, Act.put]) (by simp [Act.eval, Act.put]) (k45_mkM _ _ _ (⟨kd, (xs.length : Int) - 1, 0⟩ : S45)) (fun _ hk => hk.elim) (fun _ _ => trivial) HO.out (Below.refl _ _) HS.out (by omega) ?_; intro v1 w1 ho1 hb1 hg1 _; obtain ⟨A1, c1, e1⟩ := Kd.R_slice ho1; rw [List.length_append, List.length_singleton] at e1; subst e1; have hbk1 : w1.heap[g]? = _ := (hb1.block g H7.out).trans HBK.out; have hc4 : w1.cell? ⟨g, 3, none⟩ = some (.slice A xs.length c) := blk_cell hbk1 3; have hf4 := blk_frozen hbk1 3; have HO1 := Aside0.mk ho1; have HB1 := Aside0.mk hb1; clear ho1 hb1 hg1 hbk1)
  all_goals go_end0
  all_goals exact ⟨rfl, impl_ExprOf.St_put _ H.out HO1.out HB1.out⟩
set_option maxHeartbeats 8000000 in
set_option maxRecDepth 100000 in
theorem impl_ExprOf.two (g : Nat) (kd a : Int) (xs : List S45) (w0 u w : World) (h : impl_ExprOf.St w0 u g w xs) (hlen : xs.length < 1000000) :
    Calls Try.prog 52 #[.pointer (some ⟨g, 0, none⟩), .int .i64 kd, .int .i64 a] w fun e w' => e = .returned (.tuple #[]) ∧ impl_ExprOf.St w0 u g w' (xs ++ [⟨kd, a, (xs.length : Int) - 1⟩]) := by
  have H := Aside0.mk (impl_ExprOf.St_drewN h 1)
  obtain ⟨A, c, ho, hBK, hB, hk, hs, h6, h7⟩ := h
  have hw1 : IntKind.i64.wrap ((xs.length : Int) - 1) = (xs.length : Int) - 1 := by rw [IntKind.wrap_i64]; omega
  have hg : g < w.heap.size := (Array.getElem?_eq_some_iff.1 hBK).1
  have hc3w : w.cell? ⟨g, 3, none⟩ = some (.slice A xs.length c) := blk_cell hBK 3
  have hc3 : w.drew.cell? ⟨g, 3, none⟩ = some (.slice A xs.length c) := blk_cell (blk_drew hBK) 3
  have hf3 : w.drew.frozen? ⟨g, 3, none⟩ = false := blk_frozen (blk_drew hBK) 3
  have HO := Aside0.mk (Kd.R_drew ho)
  have HS := Aside0.mk hs
  have HBK := Aside0.mk (blk_drew hBK)
  have H7 := Aside0.mk h7
  clear ho hBK hB hk hs h6 h7
  go_enter Try.func52, Try.ntmps52
  go_region_law (refine Kd.R_append_step k45 (w0 := w.drew) u.heap.size (by simp [Region.wanted]) (.tmp 10) (.tmp 20) 25 45 (.agg #[(.int .i64 0), (.int .i64 0), (.int .i64 0)]) 24 rfl Try.underlying25 info45 rfl (by decide) (by omega) (.slice A xs.length c) xs (⟨kd, a, (xs.length : Int) - 1⟩ : S45) [.int .i64 kd, .int .i64 a, .int .i64 ((xs.length : Int) - 1)] (fun _ => True) (fun _ => False) (by simp [Act.eval, Act.put]) (by simp [Act.eval, Act.put]) (k45_mkM _ _ _ (⟨kd, a, (xs.length : Int) - 1⟩ : S45)) (fun _ hk => hk.elim) (fun _ _ => trivial) HO.out (Below.refl _ _) HS.out (by omega) ?_; intro v1 w1 ho1 hb1 hg1 _; obtain ⟨A1, c1, e1⟩ := Kd.R_slice ho1; rw [List.length_append, List.length_singleton] at e1; subst e1; have hbk1 : w1.heap[g]? = _ := (hb1.block g H7.out).trans HBK.out; have hc4 : w1.cell? ⟨g, 3, none⟩ = some (.slice A xs.length c) := blk_cell hbk1 3; have hf4 := blk_frozen hbk1 3; have HO1 := Aside0.mk ho1; have HB1 := Aside0.mk hb1; clear ho1 hb1 hg1 hbk1)
  all_goals go_end0
  all_goals exact ⟨rfl, impl_ExprOf.St_put _ H.out HO1.out HB1.out⟩
theorem impl_ExprOf.St_cell {w0 u w : World} {g : Nat} {xs : List S45} (h : impl_ExprOf.St w0 u g w xs) : ∃ A c, w.cell? ⟨g, 3, none⟩ = some (.slice A xs.length c) := by
  obtain ⟨A, c, _, hBK, _⟩ := h
  exact ⟨A, c, blk_cell hBK 3⟩
set_option maxHeartbeats 16000000 in
set_option maxRecDepth 100000 in
theorem impl_ExprOf.product (g : Nat) (m : Int) (n : Nat) (hn : n < 1000) (xs zs : List S45) (w0 u w : World) (h : impl_ExprOf.St w0 u g w xs) (hz : impl_ExprOf.prodO m n xs = some zs) :
    Calls Try.prog 51 #[.pointer (some ⟨g, 0, none⟩), .int .i64 m, .int .i64 (n : Int)] w fun e w' => e = .returned (.tuple #[]) ∧ impl_ExprOf.St w0 u g w' zs := by
  have H := Aside0.mk h
  have HZ := Aside0.mk hz
  clear h hz
  go_enter Try.func51, Try.ntmps51
  go_wp2
  go_loopw [9] (fun i wr => ∃ (q : Nat) (ys : List S45), q ≤ n ∧ i = .int .i64 (q : Int) ∧ impl_ExprOf.prodO m q xs = some ys ∧ impl_ExprOf.St w0 u g wr ys) (fun i _ => n - (intOf i).toNat)
  case atStart => exact ⟨0, xs, Nat.zero_le _, rfl, rfl, H.out⟩
  case round =>
    obtain ⟨q, ys, hq, rfl, hys, hst⟩ := hrel
    by_cases hlt : q < n
    · have hlb : decide ((q : Int) < (n : Int)) = true := decide_eq_true (by omega)
      obtain ⟨y', hy'⟩ := impl_ExprOf.prodO_le m xs (n - (q + 1)) (q + 1) zs (by rw [show q + 1 + (n - (q + 1)) = n by omega]; exact HZ.out)
      have hy'' := hy'
      rw [impl_ExprOf.prodO, hys, Option.bind_some] at hy''
      obtain ⟨b, hb, hy2⟩ := Option.bind_eq_some_iff.1 hy''
      by_cases hlen : ys.length < 100000
      · rw [if_pos hlen] at hy2
        obtain rfl := Option.some.inj hy2
        obtain ⟨A, c, hc⟩ := impl_ExprOf.St_cell hst
        have hw1 : IntKind.i64.wrap ((ys.length : Int) - 1) = (ys.length : Int) - 1 := by rw [IntKind.wrap_i64]; omega
        have hw2 : IntKind.i64.wrap ((q : Int) + 1) = (q : Int) + 1 := by rw [IntKind.wrap_i64]; omega
        have HB := Aside0.mk hb
        have HST := Aside0.mk hst
        have HY := Aside0.mk hy'
        have HL := Aside0.mk hlen
        clear hb hst hy' hlen hys hy'' hy2
        by_cases h0 : 0 < q
        · have h0b : decide ((0 : Int) < (q : Int)) = true := decide_eq_true (by omega)
          cases b
          · go_wp2_with (first
              | (go_at_call 70; refine (impl_ExprOf.leaf g 3 (q : Int) ys w0 u _ HST.out (by have := HL.out; omega)).mono ?_; rintro e w1 ⟨rfl, st1⟩; have ST1 := Aside0.mk st1; clear st1)
              | (go_at_call 69; refine (impl_has.calls m (q : Int) false _ HB.out).mono ?_; rintro e w2 ⟨rfl, ⟨nd, rfl⟩⟩; have ST2 := Aside0.mk (impl_ExprOf.St_drewN ST1.out nd))
              | (go_at_call 59; refine (impl_ExprOf.one g 4 _ w0 u _ ST2.out (by have := HL.out; simp; omega)).mono ?_; rintro e w3 ⟨rfl, st3⟩; have ST3 := Aside0.mk st3; clear st3)
              | (go_at_call 52; refine (impl_ExprOf.two g 5 ((ys.length : Int) - 1) _ w0 u _ ST3.out (by have := HL.out; simp; omega)).mono ?_; rintro e w4 ⟨rfl, st4⟩; have ST4 := Aside0.mk st4; clear st4))
            go_roundw
            case measure => simp [intOf]; omega
            case rel => exact ⟨q + 1, _, by omega, by rw [Int.natCast_add]; rfl, HY.out, by unfold impl_ExprOf.stepL; rw [if_pos h0]; exact ST4.out⟩
          · go_wp2_with (first
              | (go_at_call 70; refine (impl_ExprOf.leaf g 3 (q : Int) ys w0 u _ HST.out (by have := HL.out; omega)).mono ?_; rintro e w1 ⟨rfl, st1⟩; have ST1 := Aside0.mk st1; clear st1)
              | (go_at_call 69; refine (impl_has.calls m (q : Int) true _ HB.out).mono ?_; rintro e w2 ⟨rfl, ⟨nd, rfl⟩⟩; have ST2 := Aside0.mk (impl_ExprOf.St_drewN ST1.out nd))
              | (go_at_call 52; refine (impl_ExprOf.two g 5 ((ys.length : Int) - 1) _ w0 u _ ST2.out (by have := HL.out; simp; omega)).mono ?_; rintro e w4 ⟨rfl, st4⟩; have ST4 := Aside0.mk st4; clear st4))
            go_roundw
            case measure => simp [intOf]; omega
            case rel => exact ⟨q + 1, _, by omega, by rw [Int.natCast_add]; rfl, HY.out, by unfold impl_ExprOf.stepL; rw [if_pos h0]; exact ST4.out⟩
        · have h0b : decide ((0 : Int) < (q : Int)) = false := decide_eq_false (by omega)
          cases b
          · go_wp2_with (first
              | (go_at_call 70; refine (impl_ExprOf.leaf g 3 (q : Int) ys w0 u _ HST.out (by have := HL.out; omega)).mono ?_; rintro e w1 ⟨rfl, st1⟩; have ST1 := Aside0.mk st1; clear st1)
              | (go_at_call 69; refine (impl_has.calls m (q : Int) false _ HB.out).mono ?_; rintro e w2 ⟨rfl, ⟨nd, rfl⟩⟩; have ST2 := Aside0.mk (impl_ExprOf.St_drewN ST1.out nd))
              | (go_at_call 59; refine (impl_ExprOf.one g 4 _ w0 u _ ST2.out (by have := HL.out; simp; omega)).mono ?_; rintro e w3 ⟨rfl, st3⟩; have ST3 := Aside0.mk st3; clear st3))
            go_roundw
            case measure => simp [intOf]; omega
            case rel => exact ⟨q + 1, _, by omega, by rw [Int.natCast_add]; rfl, HY.out, by unfold impl_ExprOf.stepL; rw [if_neg h0]; exact ST3.out⟩
          · go_wp2_with (first
              | (go_at_call 70; refine (impl_ExprOf.leaf g 3 (q : Int) ys w0 u _ HST.out (by have := HL.out; omega)).mono ?_; rintro e w1 ⟨rfl, st1⟩; have ST1 := Aside0.mk st1; clear st1)
              | (go_at_call 69; refine (impl_has.calls m (q : Int) true _ HB.out).mono ?_; rintro e w2 ⟨rfl, ⟨nd, rfl⟩⟩; have ST2 := Aside0.mk (impl_ExprOf.St_drewN ST1.out nd)))
            go_roundw
            case measure => simp [intOf]; omega
            case rel => exact ⟨q + 1, _, by omega, by rw [Int.natCast_add]; rfl, HY.out, by unfold impl_ExprOf.stepL; rw [if_neg h0]; exact ST2.out⟩
      · rw [if_neg hlen] at hy2
        cases hy2
    · have hlb : decide ((q : Int) < (n : Int)) = false := decide_eq_false (by omega)
      have hqe : q = n := by omega
      subst hqe
      obtain rfl : ys = zs := Option.some.inj (hys.symm.trans HZ.out)
      have HST := Aside0.mk hst
      clear hst hys
      go_wp2
      go_end0
      exact ⟨rfl, HST.out⟩
set_option maxHeartbeats 16000000 in
set_option maxRecDepth 100000 in
theorem impl_ExprOf.rest (k : Nat) (a0 : Int) (p : Nat) (hp : p < 1000) (p1 p2 : Int) (r0 : List S45) (r1 : Bool) (w : World) (hP : impl_isProps.f (p : Int) = some true) (hS : impl_SetOk.f a0 = some true) (h1 : impl_only.f (p : Int) = some p1) (h2 : impl_only.f p1 = some p2)
    (hlt : ¬ a0 ≥ p2) (hne0 : ¬ a0 = 0) (hne1 : ¬ a0 = wrap64 (p2 - 1)) (h : impl_ExprOf.restO k a0 p = some (r0, r1)) :
    Calls Try.prog 19 #[.int .i64 a0, .int .i64 (p : Int)] w fun e w' => ∃ v0_ : Value, e = .returned (.tuple #[v0_, .bool r1]) ∧ Kd.R k45 45 w' w.heap.size (fun _ => True) v0_ r0 ∧ Below w.heap.size w w' := by
  have hgeb : decide (p2 ≤ a0) = false := decide_eq_false (by omega)
  have he0 : (a0 == 0) = false := beq_eq_false_iff_ne.mpr hne0
  have he1 : (a0 == wrap64 (p2 - 1)) = false := beq_eq_false_iff_ne.mpr hne1
  unfold impl_ExprOf.restO at h
  obtain ⟨L, hL, h⟩ := Option.bind_eq_some_iff.1 h
  obtain ⟨xs, hxs, h⟩ := Option.bind_eq_some_iff.1 h
  by_cases hxl : xs.length < 100000
  · rw [if_pos hxl] at h
    have A1 := Aside0.mk hP
    have A2 := Aside0.mk hS
    have A3 := Aside0.mk h1
    have A4 := Aside0.mk h2
    have A5 := Aside0.mk hL
    have A6 := Aside0.mk hxs
    have A7 := Aside0.mk h
    have A8 := Aside0.mk hp
    have HB := Aside0.mk (Below.refl w.heap.size w)
    clear hP hS h1 h2 hL hxs h hp hlt hne0 hne1
    go_enter Try.func19, Try.ntmps19
    go_wp2_with (first
      | (go_at_call 47; (with_reducible refine (impl_isProps.calls (p : Int) true _ A1.out).mono ?_); rintro e w' ⟨rfl, ⟨nd, rfl⟩⟩)
      | (go_at_call 48; (with_reducible refine (impl_SetOk.calls a0 true _ A2.out).mono ?_); rintro e w' ⟨rfl, ⟨nd, rfl⟩⟩)
      | (go_at_call 49; (with_reducible refine (impl_only.calls (p : Int) p1 _ A3.out).mono ?_); rintro e w' ⟨rfl, ⟨nd, rfl⟩⟩)
      | (go_at_call 49; (with_reducible refine (impl_only.calls p1 p2 _ A4.out).mono ?_); rintro e w' ⟨rfl, ⟨nd, rfl⟩⟩)
      | ((with_reducible refine gate_dst (N := 39) rfl ?_); refine box_event ?hg (N := 39) ?hd (cs := impl_ExprOf.cells (.slice none 0 0)) (t := 59) ?hr ?_; (case hd => rfl); (case hg => rfl); (case hr => first | (go_simp; done) | (go_simp; rfl)); intro gb hg w7 hbox hb; have hgl : gb < w7.heap.size := (Array.getElem?_eq_some_iff.1 hbox).1; have hgb : w.heap.size ≤ gb := (by rw [hg]; exact below_size (by repeat (first | (with_reducible first | exact HB.out | apply pw_below_drewN) | exact HB.out))); replace HB := Aside0.mk (below_step (by repeat (first | (with_reducible first | exact HB.out | apply pw_below_drewN) | exact HB.out)) hb); have HBK := Aside0.mk hbox; have HGL := Aside0.mk hgl; have HGB := Aside0.mk hgb; clear hg hbox hb hgl hgb)
      | (go_at_call 50; (with_reducible refine (impl_SetList.calls k a0 L _ A5.out).mono ?_); rintro e u ⟨vL, rfl, hoL, hbL⟩; obtain ⟨AL, cL, eL⟩ := Kd.R_slice hoL; subst eL; have ST0 : Aside0 (impl_ExprOf.St w u gb u []) := ⟨⟨none, 0, Kd.R_nil _ _ _ _ _, (hbL.block gb HGL.out).trans HBK.out, below_step HB.out hbL, fun _ _ _ => rfl, Nat.le_refl _, HGB.out, Nat.lt_of_lt_of_le HGL.out hbL.size⟩⟩; have HOL := Aside0.mk hoL; clear hoL hbL))
    go_loopw [43] (fun i wr => ∃ (q : Nat) (ys : List S45), q ≤ L.length ∧ i = .int .i64 (q : Int) ∧ impl_ExprOf.sumO p L q = some ys ∧ impl_ExprOf.St w u gb wr ys) (fun i _ => L.length - (intOf i).toNat)
    case atStart => exact ⟨0, [], Nat.zero_le _, rfl, rfl, ST0.out⟩
    case round =>
      obtain ⟨q, ys, hq, rfl, hys, hst⟩ := hrel
      by_cases hlt : q < L.length
      · have hlb : decide ((q : Int) < (L.length : Int)) = true := decide_eq_true (by omega)
        obtain ⟨y', hy'⟩ := impl_ExprOf.sumO_le p L (L.length - (q + 1)) (q + 1) xs (by rw [show q + 1 + (L.length - (q + 1)) = L.length by omega]; exact A6.out)
        have hy'' := hy'
        rw [impl_ExprOf.sumO, hys, Option.bind_some] at hy''
        by_cases hlen : ys.length < 100000
        · rw [if_pos hlen] at hy''
          obtain ⟨zs, hzs, hy2⟩ := Option.bind_eq_some_iff.1 hy''
          by_cases hlen2 : zs.length < 100000
          · rw [if_pos hlen2] at hy2
            obtain rfl := Option.some.inj hy2
            obtain ⟨A, c, hc⟩ := impl_ExprOf.St_cell hst
            have hrow : Kd.R (Kd.int .i64) 3 wr w7.heap.size (fun _ => True) (.slice AL L.length cL) L := by
              obtain ⟨_, _, _, _, _, hfr, _, _, _⟩ := hst
              exact Kd.R_mono (Kd.R_step (Kd.R_bound HOL.out) (fun k hk hlt => hfr k hlt (by have := hk.2.1; have := HGL.out; omega))) (fun _ _ => trivial)
            obtain ⟨ad, e0_, hcell⟩ := Kd.at_int (Kd.R_reads' hrow).2.2 (q : Int) (by omega) (by omega)
            subst e0_
            rw [Int.toNat_natCast] at hcell
            have hw1 : IntKind.i64.wrap ((ys.length : Int) - 1) = (ys.length : Int) - 1 := by rw [IntKind.wrap_i64]; omega
            have hL63 : L.length ≤ 9223372036854775807 := (Kd.R_reads' hrow).2.2.2.1
            have hw2 : IntKind.i64.wrap ((q : Int) + 1) = (q : Int) + 1 := by rw [IntKind.wrap_i64]; omega
            obtain ⟨x, hx⟩ : ∃ x, x = rd L (q : Int) := ⟨_, rfl⟩
            rw [← hx] at hcell hzs
            have HST := Aside0.mk hst
            have HY := Aside0.mk hy'
            have HZS := Aside0.mk hzs
            have HL := Aside0.mk hlen
            have HL2 := Aside0.mk hlen2
            clear hst hy' hlen hlen2 hys hy'' hy2 hrow hx hzs
            by_cases h0 : 0 < q
            · have h0b : decide ((0 : Int) < (q : Int)) = true := decide_eq_true (by omega)
              go_wp2_with (first
                | (go_at_call 51; refine (impl_ExprOf.product gb x p A8.out ys zs w u _ HST.out HZS.out).mono ?_; rintro e w1 ⟨rfl, st1⟩; have ST1 := Aside0.mk st1; clear st1)
                | (go_at_call 52; refine (impl_ExprOf.two gb 6 ((ys.length : Int) - 1) zs w u _ ST1.out (by have := HL2.out; omega)).mono ?_; rintro e w4 ⟨rfl, st4⟩; have ST4 := Aside0.mk st4; clear st4))
              go_roundw
              case measure => simp [intOf]; omega
              case rel => exact ⟨q + 1, _, by omega, by rw [Int.natCast_add]; rfl, HY.out, by rw [if_pos h0]; exact ST4.out⟩
            · have h0b : decide ((0 : Int) < (q : Int)) = false := decide_eq_false (by omega)
              go_wp2_with (go_at_call 51; refine (impl_ExprOf.product gb x p A8.out ys zs w u _ HST.out HZS.out).mono ?_; rintro e w1 ⟨rfl, st1⟩; have ST1 := Aside0.mk st1; clear st1)
              go_roundw
              case measure => simp [intOf]; omega
              case rel => exact ⟨q + 1, _, by omega, by rw [Int.natCast_add]; rfl, HY.out, by rw [if_neg h0]; exact ST1.out⟩
          · rw [if_neg hlen2] at hy2
            cases hy2
        · rw [if_neg hlen] at hy''
          cases hy''
      · have hlb : decide ((q : Int) < (L.length : Int)) = false := decide_eq_false (by omega)
        have hqe : q = L.length := by omega
        subst hqe
        obtain rfl : ys = xs := Option.some.inj (hys.symm.trans A6.out)
        obtain ⟨A, c, ho, hbk, hb, _, _, h6, h7⟩ := hst
        have hc3 : wr.cell? ⟨gb, 3, none⟩ = some (.slice A ys.length c) := blk_cell hbk 3
        have HO := Aside0.mk (Kd.R_lower ho (base' := w.heap.size) (by omega))
        have HBW := Aside0.mk hb
        have h7' := A7.out
        clear ho hbk hb hys hlt
        by_cases h31 : ys.length > 31
        · rw [if_pos h31] at h7'
          simp only [Option.some.injEq, Prod.mk.injEq] at h7'
          obtain ⟨rfl, rfl⟩ := h7'
          have hgb1 : decide ((31 : Int) < (ys.length : Int)) = true := decide_eq_true (by omega)
          have hgb2 : decide (31 < ys.length) = true := decide_eq_true h31
          clear h31
          go_wp2
          go_ret2
          exact ⟨_, rfl, Kd.R_nil _ _ _ _ _, HBW.out⟩
        · rw [if_neg h31] at h7'
          simp only [Option.some.injEq, Prod.mk.injEq] at h7'
          obtain ⟨rfl, rfl⟩ := h7'
          have hgb1 : decide ((31 : Int) < (ys.length : Int)) = false := decide_eq_false (by omega)
          have hgb2 : decide (31 < ys.length) = false := decide_eq_false h31
          clear h31
          go_wp2
          go_ret2
          exact ⟨_, rfl, HO.out, HBW.out⟩
  · rw [if_neg hxl] at h
    cases h
set_option maxHeartbeats 16000000 in
set_option maxRecDepth 100000 in
theorem impl_ExprOf.calls (k : Nat) (a0 : Int) (a1 : Int) (r0 : List S45) (r1 : Bool) (w : World) (h : impl_ExprOf.f k a0 a1 = some (r0, r1)) :
    Calls Try.prog 19 #[.int .i64 a0, .int .i64 a1] w fun e w' => ∃ v0_ : Value, e = .returned (.tuple #[v0_, .bool r1]) ∧ Kd.R k45 45 w' w.heap.size (fun _ => True) v0_ r0 ∧ Below w.heap.size w w' := by
  have HB := Aside0.mk (Below.refl w.heap.size w)
  unfold impl_ExprOf.f at h
  obtain ⟨b1, hb1, h⟩ := Option.bind_eq_some_iff.1 h
  cases b1 with
  | false =>
    rw [if_neg (by simp)] at h
    simp only [Option.some.injEq, Prod.mk.injEq] at h
    obtain ⟨rfl, rfl⟩ := h
    have A1 := Aside0.mk hb1
    clear hb1
    go_enter Try.func19, Try.ntmps19
    go_wp2_with (go_at_call 47; (with_reducible refine (impl_isProps.calls a1 false _ A1.out).mono ?_); rintro e w' ⟨rfl, ⟨nd, rfl⟩⟩)
    go_ret2
    exact ⟨_, rfl, Kd.R_nil _ _ _ _ _, by repeat (first | (with_reducible first | exact HB.out | apply below_alloc | apply pw_below_drewN | apply below_drew1) | exact HB.out)⟩
  | true =>
    rw [if_pos rfl] at h
    obtain ⟨b2, hb2, h⟩ := Option.bind_eq_some_iff.1 h
    cases b2 with
    | false =>
      rw [if_neg (by simp)] at h
      simp only [Option.some.injEq, Prod.mk.injEq] at h
      obtain ⟨rfl, rfl⟩ := h
      have A1 := Aside0.mk hb1
      have A2 := Aside0.mk hb2
      clear hb1 hb2
      go_enter Try.func19, Try.ntmps19
      go_wp2_with (first
        | (go_at_call 47; (with_reducible refine (impl_isProps.calls a1 true _ A1.out).mono ?_); rintro e w' ⟨rfl, ⟨nd, rfl⟩⟩)
        | (go_at_call 48; (with_reducible refine (impl_SetOk.calls a0 false _ A2.out).mono ?_); rintro e w' ⟨rfl, ⟨nd, rfl⟩⟩))
      go_ret2
      exact ⟨_, rfl, Kd.R_nil _ _ _ _ _, by repeat (first | (with_reducible first | exact HB.out | apply below_alloc | apply pw_below_drewN | apply below_drew1) | exact HB.out)⟩
    | true =>
      rw [if_pos rfl] at h
      obtain ⟨p1, hp1, h⟩ := Option.bind_eq_some_iff.1 h
      obtain ⟨p2, hp2, h⟩ := Option.bind_eq_some_iff.1 h
      by_cases hge : a0 ≥ p2
      · rw [if_pos hge] at h
        simp only [Option.some.injEq, Prod.mk.injEq] at h
        obtain ⟨rfl, rfl⟩ := h
        have hgeb : decide (p2 ≤ a0) = true := decide_eq_true hge
        have A1 := Aside0.mk hb1
        have A2 := Aside0.mk hb2
        have A3 := Aside0.mk hp1
        have A4 := Aside0.mk hp2
        clear hb1 hb2 hp1 hp2 hge
        go_enter Try.func19, Try.ntmps19
        go_wp2_with (first
          | (go_at_call 47; (with_reducible refine (impl_isProps.calls a1 true _ A1.out).mono ?_); rintro e w' ⟨rfl, ⟨nd, rfl⟩⟩)
          | (go_at_call 48; (with_reducible refine (impl_SetOk.calls a0 true _ A2.out).mono ?_); rintro e w' ⟨rfl, ⟨nd, rfl⟩⟩)
          | (go_at_call 49; (with_reducible refine (impl_only.calls a1 p1 _ A3.out).mono ?_); rintro e w' ⟨rfl, ⟨nd, rfl⟩⟩)
          | (go_at_call 49; (with_reducible refine (impl_only.calls p1 p2 _ A4.out).mono ?_); rintro e w' ⟨rfl, ⟨nd, rfl⟩⟩))
        go_ret2
        exact ⟨_, rfl, Kd.R_nil _ _ _ _ _, by repeat (first | (with_reducible first | exact HB.out | apply below_alloc | apply pw_below_drewN | apply below_drew1) | exact HB.out)⟩
      · rw [if_neg hge] at h
        by_cases he0 : a0 = 0
        · rw [if_pos he0] at h
          simp only [Option.some.injEq, Prod.mk.injEq] at h
          obtain ⟨rfl, rfl⟩ := h
          subst he0
          have hgeb : decide (p2 ≤ 0) = false := decide_eq_false (by omega)
          have A1 := Aside0.mk hb1
          have A2 := Aside0.mk hb2
          have A3 := Aside0.mk hp1
          have A4 := Aside0.mk hp2
          clear hb1 hb2 hp1 hp2 hge
          go_enter Try.func19, Try.ntmps19
          go_wp2_with (first
            | (go_at_call 47; (with_reducible refine (impl_isProps.calls a1 true _ A1.out).mono ?_); rintro e w' ⟨rfl, ⟨nd, rfl⟩⟩)
            | (go_at_call 48; (with_reducible refine (impl_SetOk.calls 0 true _ A2.out).mono ?_); rintro e w' ⟨rfl, ⟨nd, rfl⟩⟩)
            | (go_at_call 49; (with_reducible refine (impl_only.calls a1 p1 _ A3.out).mono ?_); rintro e w' ⟨rfl, ⟨nd, rfl⟩⟩)
            | (go_at_call 49; (with_reducible refine (impl_only.calls p1 p2 _ A4.out).mono ?_); rintro e w' ⟨rfl, ⟨nd, rfl⟩⟩)
            | ((with_reducible refine gate_dst (N := 29) rfl ?_); refine Kd.R_lit k45 (w0 := w) w.heap.size 45 ?hg (N := 29) ?hd (xs := [(⟨2, 0, 0⟩ : S45)]) (inner := [.int .i64 2, .int .i64 0, .int .i64 0]) (ok := fun _ => True) (okp := fun _ => True) ?hr ?hp (fun _ hk => hk) trivial ?hb ?hs (by simp) ?_; (case hd => rfl); (case hg => rfl); (case hr => first | (go_simp; done) | (go_simp; rfl)); (case hp => exact (Reps.c3 (show Kd.M k45 _ _ _ (⟨2, 0, 0⟩ : S45) [.int .i64 2, .int .i64 0, .int .i64 0] from (k45_mkM _ _ _ (⟨2, 0, 0⟩ : S45))) (Reps.none _ _))); (case hb => repeat (first | (with_reducible first | exact HB.out | apply below_alloc | apply pw_below_drewN | apply below_drew1) | exact HB.out)); (case hs => exact Nat.le_refl _); intro v1 w1 ho1 hb1 _ _; have HO1 := Aside0.mk ho1; have HB1 := Aside0.mk hb1; clear ho1 hb1))
          go_ret2
          exact ⟨_, rfl, HO1.out, HB1.out⟩
        · rw [if_neg he0] at h
          have he0b : (a0 == 0) = false := beq_eq_false_iff_ne.mpr he0
          by_cases he1 : a0 = wrap64 (p2 - 1)
          · rw [if_pos he1] at h
            simp only [Option.some.injEq, Prod.mk.injEq] at h
            obtain ⟨rfl, rfl⟩ := h
            have hgeb : decide (p2 ≤ a0) = false := decide_eq_false (by omega)
            have he1b : (a0 == wrap64 (p2 - 1)) = true := beq_iff_eq.mpr he1
            have A1 := Aside0.mk hb1
            have A2 := Aside0.mk hb2
            have A3 := Aside0.mk hp1
            have A4 := Aside0.mk hp2
            clear hb1 hb2 hp1 hp2 hge he1 he0
            go_enter Try.func19, Try.ntmps19
            go_wp2_with (first
              | (go_at_call 47; (with_reducible refine (impl_isProps.calls a1 true _ A1.out).mono ?_); rintro e w' ⟨rfl, ⟨nd, rfl⟩⟩)
              | (go_at_call 48; (with_reducible refine (impl_SetOk.calls a0 true _ A2.out).mono ?_); rintro e w' ⟨rfl, ⟨nd, rfl⟩⟩)
              | (go_at_call 49; (with_reducible refine (impl_only.calls a1 p1 _ A3.out).mono ?_); rintro e w' ⟨rfl, ⟨nd, rfl⟩⟩)
              | (go_at_call 49; (with_reducible refine (impl_only.calls p1 p2 _ A4.out).mono ?_); rintro e w' ⟨rfl, ⟨nd, rfl⟩⟩)
              | ((with_reducible refine gate_dst (N := 37) rfl ?_); refine Kd.R_lit k45 (w0 := w) w.heap.size 45 ?hg (N := 37) ?hd (xs := [(⟨1, 0, 0⟩ : S45)]) (inner := [.int .i64 1, .int .i64 0, .int .i64 0]) (ok := fun _ => True) (okp := fun _ => True) ?hr ?hp (fun _ hk => hk) trivial ?hb ?hs (by simp) ?_; (case hd => rfl); (case hg => rfl); (case hr => first | (go_simp; done) | (go_simp; rfl)); (case hp => exact (Reps.c3 (show Kd.M k45 _ _ _ (⟨1, 0, 0⟩ : S45) [.int .i64 1, .int .i64 0, .int .i64 0] from (k45_mkM _ _ _ (⟨1, 0, 0⟩ : S45))) (Reps.none _ _))); (case hb => repeat (first | (with_reducible first | exact HB.out | apply below_alloc | apply pw_below_drewN | apply below_drew1) | exact HB.out)); (case hs => exact Nat.le_refl _); intro v1 w1 ho1 hb1 _ _; have HO1 := Aside0.mk ho1; have HB1 := Aside0.mk hb1; clear ho1 hb1))
            go_ret2
            exact ⟨_, rfl, HO1.out, HB1.out⟩
          · rw [if_neg he1] at h
            by_cases hp : 0 ≤ a1 ∧ a1 < 1000
            · rw [if_pos hp] at h
              obtain ⟨p, rfl⟩ := Int.eq_ofNat_of_zero_le hp.1
              rw [Int.toNat_natCast] at h
              exact impl_ExprOf.rest k a0 p (by omega) p1 p2 r0 r1 w hb1 hb2 hp1 hp2 hge he0 he1 h
            · rw [if_neg hp] at h
              cases h

/-! ### laws_markNodeS: function 20 -/
def laws_markNodeS.l0 : Nat → List (S45) → Int → Int → Option (Int × (List (S45)))
  | 0, _, _, _ => none
  | k + 1, x0, x1, x5 => if x5 < (x0.length : Int) then (if 0 ≤ x5 then ((some (x0.set (x5 : Int).toNat (⟨x1, (rd_T45 x0 x5).f1, (rd_T45 x0 x5).f2⟩ : S45) : List (S45))).bind fun y152 => ((some (y152.set (x5 : Int).toNat (⟨(rd_T45 y152 x5).f0, wrap64 (x1 + 1), (rd_T45 y152 x5).f2⟩ : S45) : List (S45))).bind fun y153 => (laws_markNodeS.l0 k (y153.set (x5 : Int).toNat (⟨(rd_T45 y153 x5).f0, (rd_T45 y153 x5).f1, wrap64 ((wrap64 (x1 + 1)) + 1)⟩ : S45)) (wrap64 ((wrap64 ((wrap64 (x1 + 1)) + 1)) + 1)) (wrap64 (x5 + 1))))) else (none)) else (some (x1, x0))
def laws_markNodeS.f (k : Nat) (l0 : List (S45)) (a1 : Int) : Option (Int × (List (S45))) := laws_markNodeS.l0 k l0 a1 0
theorem laws_markNodeS.mono_l : ∀ k, (∀ y0 y1 y2, LeO (laws_markNodeS.l0 k y0 y1 y2) (laws_markNodeS.l0 (k + 1) y0 y1 y2))
  | 0 => fun _ _ _ r h => by simp [laws_markNodeS.l0] at h
  | k + 1 => by
    have ih0 := laws_markNodeS.mono_l k
    · intro y0 y1 y2
      unfold laws_markNodeS.l0
      repeat' first
      | (with_reducible exact ih0 _ _ _)
      | (with_reducible exact LeO.refl _)
      | (with_reducible exact LeO.none _)
      | (with_reducible refine LeO.ite ?_ ?_)
      | (with_reducible refine LeO.bind ?_ (fun _ => ?_))
      | exact ih0 _ _ _
      | exact LeO.none _
      | refine LeO.ite ?_ ?_
      | refine LeO.bind ?_ (fun _ => ?_)
theorem laws_markNodeS.mono : ∀ a0 a1 k, LeO (laws_markNodeS.f k a0 a1) (laws_markNodeS.f (k + 1) a0 a1) := by
  intro a0 a1 k
  have ih0 := laws_markNodeS.mono_l k
  unfold laws_markNodeS.f
  repeat' first
      | (with_reducible exact ih0 _ _ _)
      | (with_reducible exact LeO.refl _)
      | (with_reducible exact LeO.none _)
      | (with_reducible refine LeO.ite ?_ ?_)
      | (with_reducible refine LeO.bind ?_ (fun _ => ?_))
      | exact ih0 _ _ _
      | exact LeO.none _
      | refine LeO.ite ?_ ?_
      | refine LeO.bind ?_ (fun _ => ?_)
set_option maxHeartbeats 8000000 in
set_option maxRecDepth 100000 in
theorem laws_markNodeS.calls (k : Nat) (P0_ : Nat → Prop) (u9000_ : Value) (l0 : List (S45)) (a1 : Int) (r1 : Int) (r2 : List (S45)) (w0 w : World) (hB : Below w0.heap.size w0 w) (ho0 : Kd.R k45 45 w w0.heap.size P0_ u9000_ l0) (h : laws_markNodeS.f k l0 a1 = some (r1, r2)) :
    Calls Try.prog 20 #[u9000_, .int .i64 a1] w fun e w' => e = .returned (.int .i64 r1) ∧ Kd.R k45 45 w' w0.heap.size (fun k_ => (P0_ k_ ∨ w.heap.size ≤ k_)) u9000_ r2 ∧ Below w0.heap.size w0 w' ∧ Kept w w' (fun k_ => P0_ k_) := by
  have HO0 := Aside0.mk (show Kd.R k45 45 w w0.heap.size (fun k_ => (P0_ k_ ∨ w.heap.size ≤ k_)) u9000_ l0 from Kd.R_mono ho0 (fun k_ hk => (.inl hk)))
  have HK := Aside0.mk (Kept.refl w (fun k_ => P0_ k_))
  have HW0 := Aside0.mk hB.size
  have HB := Aside0.mk hB
  clear hB
  have H : (laws_markNodeS.l0 k l0 a1 0) = some (r1, r2) := h
  clear h
  have H' := Aside0.mk H
  clear H
  go_enter Try.func20, Try.ntmps20
  go_wp2
  go_loopg [1, 5] k (fun kq v1 v5 w' => ∃ (x0_1 : List (S45)) (x1_1 : Int) (x5_1 : Int), v1 = .int .i64 x1_1 ∧ v5 = .int .i64 x5_1 ∧ Aside0 (laws_markNodeS.l0 kq x0_1 x1_1 x5_1 = some (r1, r2)) ∧ Aside0 (kq ≤ k) ∧ Aside0 (Kd.R k45 45 w' w0.heap.size (fun k_ => (P0_ k_ ∨ w.heap.size ≤ k_)) u9000_ x0_1) ∧ Aside0 (Kept w w' (fun k_ => P0_ k_)) ∧ Aside0 (Below w0.heap.size w0 w'))
  case atStart => exact ⟨(l0), (a1), (0), (by first | rfl | (simp; done) | (simp [*]; done) | (rw [Int.tmod_eq_emod_of_nonneg (Int.natCast_nonneg _)]; done)), (by first | rfl | (simp; done) | (simp [*]; done) | (rw [Int.tmod_eq_emod_of_nonneg (Int.natCast_nonneg _)]; done)), H', ⟨Nat.le_refl _⟩, ⟨by (with_reducible repeat (first | apply Kd.R_alloc | apply Kd.R_drewN | apply Kd.R_drew)); exact HO0.out⟩, ⟨by repeat (first | (with_reducible first | exact HK.out | apply Kept.alloc | apply Kept.drewN | apply Kept.drew) | exact HK.out)⟩, ⟨by repeat (first | (with_reducible first | exact HB.out | apply below_alloc | apply pw_below_drewN | apply below_drew1) | exact HB.out)⟩⟩
  case round =>
    clear H'
    try clear c2
    try clear p2
    obtain ⟨x0_1, x1_1, x5_1, rfl, rfl, HA, HK1, HO_0, HK, HB⟩ := hrel
    cases gk with
    | zero => exact absurd HA.out (by simp [laws_markNodeS.l0])
    | succ k1 =>
      have H := HA.out
      clear HA
      simp only [laws_markNodeS.l0] at H
      by_cases c3 : x5_1 < (x0_1.length : Int)
      · rw [if_pos c3] at H
        have c3b0 : decide (x5_1 < (x0_1.length : Int)) = true := decide_eq_true c3
        clear c3
        by_cases c4 : 0 ≤ x5_1
        · rw [if_pos c4] at H
          have c4b0 : decide (0 ≤ x5_1) = true := decide_eq_true c4
          clear c4
          obtain ⟨y152, hy152⟩ : ∃ y_ : List (S45), y_ = (x0_1.set (x5_1 : Int).toNat (⟨x1_1, (rd_T45 x0_1 x5_1).f1, (rd_T45 x0_1 x5_1).f2⟩ : S45)) := ⟨_, rfl⟩
          replace H : ((some (y152.set (x5_1 : Int).toNat (⟨(rd_T45 y152 x5_1).f0, wrap64 (x1_1 + 1), (rd_T45 y152 x5_1).f2⟩ : S45) : List (S45))).bind fun y153 => (laws_markNodeS.l0 k1 (y153.set (x5_1 : Int).toNat (⟨(rd_T45 y153 x5_1).f0, (rd_T45 y153 x5_1).f1, wrap64 ((wrap64 (x1_1 + 1)) + 1)⟩ : S45)) (wrap64 ((wrap64 ((wrap64 (x1_1 + 1)) + 1)) + 1)) (wrap64 (x5_1 + 1)))) = some (r1, r2) := by first | (rw [hy152]; with_reducible exact H) | (have H2_ := (Option.bind_some _ _).symm.trans H; rw [hy152]; with_reducible exact H2_) | (have H2_ := (Option.bind_some _ _).symm.trans H; with_reducible exact H2_) | with_reducible exact H | (rw [hy152]; exact H) | exact H
          have Ny152 := Aside0.mk hy152
          clear hy152
          obtain ⟨y153, hy153⟩ : ∃ y_ : List (S45), y_ = (y152.set (x5_1 : Int).toNat (⟨(rd_T45 y152 x5_1).f0, wrap64 (x1_1 + 1), (rd_T45 y152 x5_1).f2⟩ : S45)) := ⟨_, rfl⟩
          replace H : (laws_markNodeS.l0 k1 (y153.set (x5_1 : Int).toNat (⟨(rd_T45 y153 x5_1).f0, (rd_T45 y153 x5_1).f1, wrap64 ((wrap64 (x1_1 + 1)) + 1)⟩ : S45)) (wrap64 ((wrap64 ((wrap64 (x1_1 + 1)) + 1)) + 1)) (wrap64 (x5_1 + 1))) = some (r1, r2) := by first | (rw [hy153]; with_reducible exact H) | (have H2_ := (Option.bind_some _ _).symm.trans H; rw [hy153]; with_reducible exact H2_) | (have H2_ := (Option.bind_some _ _).symm.trans H; with_reducible exact H2_) | with_reducible exact H | (rw [hy153]; exact H) | exact H
          have Ny153 := Aside0.mk hy153
          clear hy153
          obtain ⟨y154, hy154⟩ : ∃ y_ : List (S45), y_ = (y153.set (x5_1 : Int).toNat (⟨(rd_T45 y153 x5_1).f0, (rd_T45 y153 x5_1).f1, wrap64 ((wrap64 (x1_1 + 1)) + 1)⟩ : S45)) := ⟨_, rfl⟩
          replace H : (laws_markNodeS.l0 k1 y154 (wrap64 ((wrap64 ((wrap64 (x1_1 + 1)) + 1)) + 1)) (wrap64 (x5_1 + 1))) = some (r1, r2) := by first | (rw [hy154]; with_reducible exact H) | (have H2_ := (Option.bind_some _ _).symm.trans H; rw [hy154]; with_reducible exact H2_) | (have H2_ := (Option.bind_some _ _).symm.trans H; with_reducible exact H2_) | with_reducible exact H | (rw [hy154]; exact H) | exact H
          have Ny154 := Aside0.mk hy154
          clear hy154
          have H' := Aside0.mk H
          clear H
          obtain ⟨Ao8, co8, eo8⟩ := Kd.R_slice HO_0.out
          subst eo8
          have p5 : 0 ≤ (x5_1 : Int) := of_decide_eq_true (by first | (with_reducible assumption) | assumption)
          have q5 : (x5_1 : Int) < ((x0_1.length : Int) : Int) := of_decide_eq_true (by first | (with_reducible assumption) | assumption)
          obtain ⟨go5, co5, eo5, gb5, gl5, cl5, HG5⟩ := Kd.R_form HO_0.out (by omega)
          (first | cases eo5 | (injection eo5 with ea_ en_ ec_; (first | subst ea_ | (injection ea_ with ea_; subst ea_)); subst ec_; clear en_))
          have GB5 := Aside0.mk gb5
          have GG5 := Aside0.mk HG5
          clear gb5 gl5 HG5
          have HMgo5 := Aside0.mk (show (P0_ go5 ∨ w.heap.size ≤ go5) from (HO_0.out.1 _ rfl))
          obtain ⟨ce5, hcl5, hM5, hcc5, hfr5⟩ := Kd.R_elem HO_0.out z45 (x5_1 : Int) p5 q5
          obtain rfl := k45_openM hM5
          have hx5_0 : wr.cell? ⟨go5, (x5_1 : Int).toNat * 3, none⟩ = some (.int .i64 ((rd_T45 x0_1 x5_1).f0)) := hcc5 0 _ rfl
          have hx5_1 : wr.cell? ⟨go5, (x5_1 : Int).toNat * 3 + 1, none⟩ = some (.int .i64 ((rd_T45 x0_1 x5_1).f1)) := hcc5 1 _ rfl
          have hx5_2 : wr.cell? ⟨go5, (x5_1 : Int).toNat * 3 + 2, none⟩ = some (.int .i64 ((rd_T45 x0_1 x5_1).f2)) := hcc5 2 _ rfl
          have hf5_0 : wr.frozen? ⟨go5, (x5_1 : Int).toNat * 3, none⟩ = false := hfr5 0
          have hf5_1 : wr.frozen? ⟨go5, (x5_1 : Int).toNat * 3 + 1, none⟩ = false := hfr5 1
          have hf5_2 : wr.frozen? ⟨go5, (x5_1 : Int).toNat * 3 + 2, none⟩ = false := hfr5 2
          clear hcl5 hcc5 hfr5 hM5
          replace p5 := eq_true p5
          replace q5 := eq_true q5
          have HX9 := Aside0.mk (show Kd.R k45 45 wr w0.heap.size (fun k_ => (P0_ k_ ∨ w.heap.size ≤ k_)) (.slice (some ⟨go5, 0, none⟩) x0_1.length co8) x0_1 from (by (with_reducible repeat (first | apply Kd.R_alloc | apply Kd.R_drewN | apply Kd.R_drew)); exact HO_0.out))
          obtain ⟨ce9, hcl9, hM9, hcc9, hfr9⟩ := Kd.R_elem HX9.out z45 (x5_1 : Int) (of_decide_eq_true (by first | (with_reducible assumption) | assumption)) (by have h_ : (x5_1 : Int) < ((x0_1.length : Int) : Int) := of_decide_eq_true (by first | (with_reducible assumption) | assumption); first | exact h_ | (have e_ := (Kd.R_reads' HO_0.out).1; omega) | simpa using h_)
          obtain rfl := k45_openM hM9
          have HP9 := Kd.R_seg HX9.out (x5_1 : Int) (of_decide_eq_true (by first | (with_reducible assumption) | assumption)) (by have h_ : (x5_1 : Int) < ((x0_1.length : Int) : Int) := of_decide_eq_true (by first | (with_reducible assumption) | assumption); first | exact h_ | (have e_ := (Kd.R_reads' HO_0.out).1; omega) | simpa using h_) (seg := [.int .i64 x1_1]) (j := 0) hcl9 hcc9 (show 1 ≤ 3 from by decide) (x' := (⟨x1_1, (rd_T45 x0_1 x5_1).f1, (rd_T45 x0_1 x5_1).f2⟩ : S45)) (k45_mkM _ _ _ (⟨x1_1, (rd_T45 x0_1 x5_1).f1, (rd_T45 x0_1 x5_1).f2⟩ : S45) ) (fun _ hk => hk)
          have hx9_0 := hcc9 0 _ rfl
          (try simp only [show (k45).sz = 3 from rfl, Nat.mul_one, Nat.add_zero] at hx9_0)
          have hf9_0 := hfr9 0
          (try simp only [show (k45).sz = 3 from rfl, Nat.mul_one, Nat.add_zero] at hf9_0)
          clear hcl9 hcc9 hfr9 hM9
          go_wp2_with (first | ((with_reducible refine gate_store (t := 3) (p := 16) rfl ?_); refine store_event (t := 3) (p := 16) (v := ?vo_w10) (w1 := (wr.setCell ⟨go5, (x5_1 : Int).toNat * 3, none⟩ (.int .i64 x1_1))) ?hg ?ho ?hn ?hr ?_; (case ho => rfl); (case hg => rfl); (case hn => rfl); (case hr => first | (go_simp; done) | (go_simp; rfl)); intro w10 hw; have hg : wr.grownBy w10 (some go5) := (by rw [hw]; exact HP9.2); have hp_ : Kd.R k45 45 w10 w0.heap.size (fun k_ => (P0_ k_ ∨ w.heap.size ≤ k_)) (.slice (some ⟨go5, 0, none⟩) x0_1.length co8) y152 := (by rw [hw, Ny152.out]; exact HP9.1); clear HP9; have n0_ := Aside0.mk (hp_); have n1_ := Aside0.mk ((by rw [hw]; exact below_set (HB.out) GB5.out : Below w0.heap.size w0 w10)); have n2_ := Aside0.mk (Kept.of_grown (S := (fun k_ => P0_ k_)) hg (by repeat (first | (with_reducible first | exact HK.out | apply Kept.alloc | apply Kept.drewN | apply Kept.drew) | exact HK.out)) (fun k_ e_ => (HO_0.out.1 k_ e_))); clear HO_0; clear HB; clear HK; have HO_0 := n0_; have HB := n1_; have HK := n2_; clear n0_ n1_ n2_; clear hg hw hp_; have p6 : 0 ≤ (x5_1 : Int) := of_decide_eq_true (by first | (with_reducible assumption) | assumption); have q6 : (x5_1 : Int) < ((x0_1.length : Int) : Int) := of_decide_eq_true (by first | (with_reducible assumption) | assumption); obtain ⟨ce6, hcl6, hM6, hcc6, hfr6⟩ := Kd.R_elem HO_0.out z45 (x5_1 : Int) p6 q6; obtain rfl := k45_openM hM6; have hx6_0 : w10.cell? ⟨go5, (x5_1 : Int).toNat * 3, none⟩ = some (.int .i64 ((rd_T45 y152 x5_1).f0)) := hcc6 0 _ rfl; have hx6_1 : w10.cell? ⟨go5, (x5_1 : Int).toNat * 3 + 1, none⟩ = some (.int .i64 ((rd_T45 y152 x5_1).f1)) := hcc6 1 _ rfl; have hx6_2 : w10.cell? ⟨go5, (x5_1 : Int).toNat * 3 + 2, none⟩ = some (.int .i64 ((rd_T45 y152 x5_1).f2)) := hcc6 2 _ rfl; have hf6_0 : w10.frozen? ⟨go5, (x5_1 : Int).toNat * 3, none⟩ = false := hfr6 0; have hf6_1 : w10.frozen? ⟨go5, (x5_1 : Int).toNat * 3 + 1, none⟩ = false := hfr6 1; have hf6_2 : w10.frozen? ⟨go5, (x5_1 : Int).toNat * 3 + 2, none⟩ = false := hfr6 2; clear hcl6 hcc6 hfr6 hM6; replace p6 := eq_true p6; replace q6 := eq_true q6; have HX11 := Aside0.mk (show Kd.R k45 45 w10 w0.heap.size (fun k_ => (P0_ k_ ∨ w.heap.size ≤ k_)) (.slice (some ⟨go5, 0, none⟩) x0_1.length co8) y152 from (by (with_reducible repeat (first | apply Kd.R_alloc | apply Kd.R_drewN | apply Kd.R_drew)); exact HO_0.out)); obtain ⟨ce11, hcl11, hM11, hcc11, hfr11⟩ := Kd.R_elem HX11.out z45 (x5_1 : Int) (of_decide_eq_true (by first | (with_reducible assumption) | assumption)) (by have h_ : (x5_1 : Int) < ((x0_1.length : Int) : Int) := of_decide_eq_true (by first | (with_reducible assumption) | assumption); first | exact h_ | (have e_ := (Kd.R_reads' HO_0.out).1; omega) | simpa using h_); obtain rfl := k45_openM hM11; have HP11 := Kd.R_seg HX11.out (x5_1 : Int) (of_decide_eq_true (by first | (with_reducible assumption) | assumption)) (by have h_ : (x5_1 : Int) < ((x0_1.length : Int) : Int) := of_decide_eq_true (by first | (with_reducible assumption) | assumption); first | exact h_ | (have e_ := (Kd.R_reads' HO_0.out).1; omega) | simpa using h_) (seg := [.int .i64 (wrap64 (x1_1 + 1))]) (j := 1) hcl11 hcc11 (show 2 ≤ 3 from by decide) (x' := (⟨(rd_T45 y152 x5_1).f0, wrap64 (x1_1 + 1), (rd_T45 y152 x5_1).f2⟩ : S45)) (k45_mkM _ _ _ (⟨(rd_T45 y152 x5_1).f0, wrap64 (x1_1 + 1), (rd_T45 y152 x5_1).f2⟩ : S45) ) (fun _ hk => hk); have hx11_1 := hcc11 1 _ rfl; (try simp only [show (k45).sz = 3 from rfl, Nat.mul_one, Nat.add_zero] at hx11_1); have hf11_1 := hfr11 1; (try simp only [show (k45).sz = 3 from rfl, Nat.mul_one, Nat.add_zero] at hf11_1); clear hcl11 hcc11 hfr11 hM11) | ((with_reducible refine gate_store (t := 3) (p := 23) rfl ?_); refine store_event (t := 3) (p := 23) (v := ?vo_w12) (w1 := (w10.setCell ⟨go5, (x5_1 : Int).toNat * 3 + 1, none⟩ (.int .i64 (wrap64 (x1_1 + 1))))) ?hg ?ho ?hn ?hr ?_; (case ho => rfl); (case hg => rfl); (case hn => rfl); (case hr => first | (go_simp; done) | (go_simp; rfl)); intro w12 hw; have hg : w10.grownBy w12 (some go5) := (by rw [hw]; exact HP11.2); have hp_ : Kd.R k45 45 w12 w0.heap.size (fun k_ => (P0_ k_ ∨ w.heap.size ≤ k_)) (.slice (some ⟨go5, 0, none⟩) x0_1.length co8) y153 := (by rw [hw, Ny153.out]; exact HP11.1); clear HP11; have n0_ := Aside0.mk (hp_); have n1_ := Aside0.mk ((by rw [hw]; exact below_set (HB.out) GB5.out : Below w0.heap.size w0 w12)); have n2_ := Aside0.mk (Kept.of_grown (S := (fun k_ => P0_ k_)) hg (by repeat (first | (with_reducible first | exact HK.out | apply Kept.alloc | apply Kept.drewN | apply Kept.drew) | exact HK.out)) (fun k_ e_ => (HO_0.out.1 k_ e_))); clear HO_0; clear HB; clear HK; have HO_0 := n0_; have HB := n1_; have HK := n2_; clear n0_ n1_ n2_; clear hg hw hp_; have p7 : 0 ≤ (x5_1 : Int) := of_decide_eq_true (by first | (with_reducible assumption) | assumption); have q7 : (x5_1 : Int) < ((x0_1.length : Int) : Int) := of_decide_eq_true (by first | (with_reducible assumption) | assumption); obtain ⟨ce7, hcl7, hM7, hcc7, hfr7⟩ := Kd.R_elem HO_0.out z45 (x5_1 : Int) p7 q7; obtain rfl := k45_openM hM7; have hx7_0 : w12.cell? ⟨go5, (x5_1 : Int).toNat * 3, none⟩ = some (.int .i64 ((rd_T45 y153 x5_1).f0)) := hcc7 0 _ rfl; have hx7_1 : w12.cell? ⟨go5, (x5_1 : Int).toNat * 3 + 1, none⟩ = some (.int .i64 ((rd_T45 y153 x5_1).f1)) := hcc7 1 _ rfl; have hx7_2 : w12.cell? ⟨go5, (x5_1 : Int).toNat * 3 + 2, none⟩ = some (.int .i64 ((rd_T45 y153 x5_1).f2)) := hcc7 2 _ rfl; have hf7_0 : w12.frozen? ⟨go5, (x5_1 : Int).toNat * 3, none⟩ = false := hfr7 0; have hf7_1 : w12.frozen? ⟨go5, (x5_1 : Int).toNat * 3 + 1, none⟩ = false := hfr7 1; have hf7_2 : w12.frozen? ⟨go5, (x5_1 : Int).toNat * 3 + 2, none⟩ = false := hfr7 2; clear hcl7 hcc7 hfr7 hM7; replace p7 := eq_true p7; replace q7 := eq_true q7; have HX13 := Aside0.mk (show Kd.R k45 45 w12 w0.heap.size (fun k_ => (P0_ k_ ∨ w.heap.size ≤ k_)) (.slice (some ⟨go5, 0, none⟩) x0_1.length co8) y153 from (by (with_reducible repeat (first | apply Kd.R_alloc | apply Kd.R_drewN | apply Kd.R_drew)); exact HO_0.out)); obtain ⟨ce13, hcl13, hM13, hcc13, hfr13⟩ := Kd.R_elem HX13.out z45 (x5_1 : Int) (of_decide_eq_true (by first | (with_reducible assumption) | assumption)) (by have h_ : (x5_1 : Int) < ((x0_1.length : Int) : Int) := of_decide_eq_true (by first | (with_reducible assumption) | assumption); first | exact h_ | (have e_ := (Kd.R_reads' HO_0.out).1; omega) | simpa using h_); obtain rfl := k45_openM hM13; have HP13 := Kd.R_seg HX13.out (x5_1 : Int) (of_decide_eq_true (by first | (with_reducible assumption) | assumption)) (by have h_ : (x5_1 : Int) < ((x0_1.length : Int) : Int) := of_decide_eq_true (by first | (with_reducible assumption) | assumption); first | exact h_ | (have e_ := (Kd.R_reads' HO_0.out).1; omega) | simpa using h_) (seg := [.int .i64 (wrap64 ((wrap64 (x1_1 + 1)) + 1))]) (j := 2) hcl13 hcc13 (show 3 ≤ 3 from by decide) (x' := (⟨(rd_T45 y153 x5_1).f0, (rd_T45 y153 x5_1).f1, wrap64 ((wrap64 (x1_1 + 1)) + 1)⟩ : S45)) (k45_mkM _ _ _ (⟨(rd_T45 y153 x5_1).f0, (rd_T45 y153 x5_1).f1, wrap64 ((wrap64 (x1_1 + 1)) + 1)⟩ : S45) ) (fun _ hk => hk); have hx13_2 := hcc13 2 _ rfl; (try simp only [show (k45).sz = 3 from rfl, Nat.mul_one, Nat.add_zero] at hx13_2); have hf13_2 := hfr13 2; (try simp only [show (k45).sz = 3 from rfl, Nat.mul_one, Nat.add_zero] at hf13_2); clear hcl13 hcc13 hfr13 hM13) | ((with_reducible refine gate_store (t := 3) (p := 30) rfl ?_); refine store_event (t := 3) (p := 30) (v := ?vo_w14) (w1 := (w12.setCell ⟨go5, (x5_1 : Int).toNat * 3 + 2, none⟩ (.int .i64 (wrap64 ((wrap64 (x1_1 + 1)) + 1))))) ?hg ?ho ?hn ?hr ?_; (case ho => rfl); (case hg => rfl); (case hn => rfl); (case hr => first | (go_simp; done) | (go_simp; rfl)); intro w14 hw; have hg : w12.grownBy w14 (some go5) := (by rw [hw]; exact HP13.2); have hp_ : Kd.R k45 45 w14 w0.heap.size (fun k_ => (P0_ k_ ∨ w.heap.size ≤ k_)) (.slice (some ⟨go5, 0, none⟩) x0_1.length co8) y154 := (by rw [hw, Ny154.out]; exact HP13.1); clear HP13; have n0_ := Aside0.mk (hp_); have n1_ := Aside0.mk ((by rw [hw]; exact below_set (HB.out) GB5.out : Below w0.heap.size w0 w14)); have n2_ := Aside0.mk (Kept.of_grown (S := (fun k_ => P0_ k_)) hg (by repeat (first | (with_reducible first | exact HK.out | apply Kept.alloc | apply Kept.drewN | apply Kept.drew) | exact HK.out)) (fun k_ e_ => (HO_0.out.1 k_ e_))); clear HO_0; clear HB; clear HK; have HO_0 := n0_; have HB := n1_; have HK := n2_; clear n0_ n1_ n2_; clear hg hw hp_))
          go_roundg k1
          case measure => have := HK1.out; omega
          case rel => exact ⟨(y154), (wrap64 ((wrap64 ((wrap64 (x1_1 + 1)) + 1)) + 1)), (wrap64 (x5_1 + 1)), (by first | rfl | (simp; done) | (simp [*]; done) | (rw [Int.tmod_eq_emod_of_nonneg (Int.natCast_nonneg _)]; done)), (by first | rfl | (simp; done) | (simp [*]; done) | (rw [Int.tmod_eq_emod_of_nonneg (Int.natCast_nonneg _)]; done)), H', ⟨by have := HK1.out; omega⟩, ⟨by (with_reducible repeat (first | apply Kd.R_alloc | apply Kd.R_drewN | apply Kd.R_drew)); exact HO_0.out⟩, ⟨by repeat (first | (with_reducible first | exact HK.out | apply Kept.alloc | apply Kept.drewN | apply Kept.drew) | exact HK.out)⟩, ⟨by repeat (first | (with_reducible first | exact HB.out | apply below_alloc | apply pw_below_drewN | apply below_drew1) | exact HB.out)⟩⟩
        · rw [if_neg c4] at H
          exact absurd H (by simp)
      · rw [if_neg c3] at H
        have c3b0 : decide (x5_1 < (x0_1.length : Int)) = false := decide_eq_false c3
        clear c3
        simp only [Option.some.injEq, Prod.mk.injEq] at H
        obtain ⟨rfl, rfl⟩ := H
        obtain ⟨Ao15, co15, eo15⟩ := Kd.R_slice HO_0.out
        subst eo15
        go_wp2
        go_ret
        exact ⟨by first | rfl | (simp [errW_none, errW_some] <;> rfl) | (simp [*, errW_none, errW_some] <;> rfl), by (with_reducible repeat (first | apply Kd.R_alloc | apply Kd.R_drewN | apply Kd.R_drew)); exact HO_0.out, by repeat (first | (with_reducible first | exact HB.out | apply below_alloc | apply pw_below_drewN | apply below_drew1) | exact HB.out), by repeat (first | (with_reducible first | exact HK.out | apply Kept.alloc | apply Kept.drewN | apply Kept.drew) | exact HK.out)⟩

/-! ### laws_heldNodeS: function 21 -/
def laws_heldNodeS.l0 : Nat → List (S45) → Int → Int → Option (Int)
  | 0, _, _, _ => none
  | k + 1, x0, x1, x5 => if x5 < (x0.length : Int) then (if 0 ≤ x5 then (if ((rd_T45 x0 x5).f0) = x1 then (if ((rd_T45 x0 x5).f1) = (wrap64 (x1 + 1)) then (if ((rd_T45 x0 x5).f2) = (wrap64 ((wrap64 (x1 + 1)) + 1)) then (laws_heldNodeS.l0 k x0 (wrap64 ((wrap64 ((wrap64 (x1 + 1)) + 1)) + 1)) (wrap64 (x5 + 1))) else (some (-1))) else (some (-1))) else (some (-1))) else (none)) else (some x1)
def laws_heldNodeS.f (k : Nat) (l0 : List (S45)) (a1 : Int) : Option (Int) := laws_heldNodeS.l0 k l0 a1 0
theorem laws_heldNodeS.mono_l : ∀ k, (∀ y0 y1 y2, LeO (laws_heldNodeS.l0 k y0 y1 y2) (laws_heldNodeS.l0 (k + 1) y0 y1 y2))
  | 0 => fun _ _ _ r h => by simp [laws_heldNodeS.l0] at h
  | k + 1 => by
    have ih0 := laws_heldNodeS.mono_l k
    · intro y0 y1 y2
      unfold laws_heldNodeS.l0
      repeat' first
      | (with_reducible exact ih0 _ _ _)
      | (with_reducible exact LeO.refl _)
      | (with_reducible exact LeO.none _)
      | (with_reducible refine LeO.ite ?_ ?_)
      | (with_reducible refine LeO.bind ?_ (fun _ => ?_))
      | exact ih0 _ _ _
      | exact LeO.none _
      | refine LeO.ite ?_ ?_
      | refine LeO.bind ?_ (fun _ => ?_)
theorem laws_heldNodeS.mono : ∀ a0 a1 k, LeO (laws_heldNodeS.f k a0 a1) (laws_heldNodeS.f (k + 1) a0 a1) := by
  intro a0 a1 k
  have ih0 := laws_heldNodeS.mono_l k
  unfold laws_heldNodeS.f
  repeat' first
      | (with_reducible exact ih0 _ _ _)
      | (with_reducible exact LeO.refl _)
      | (with_reducible exact LeO.none _)
      | (with_reducible refine LeO.ite ?_ ?_)
      | (with_reducible refine LeO.bind ?_ (fun _ => ?_))
      | exact ih0 _ _ _
      | exact LeO.none _
      | refine LeO.ite ?_ ?_
      | refine LeO.bind ?_ (fun _ => ?_)
set_option maxHeartbeats 8000000 in
set_option maxRecDepth 100000 in
theorem laws_heldNodeS.calls (k : Nat) (A0 : Option Addr) (c0 : Nat) (l0 : List (S45)) (a1 : Int) (r : Int) (w : World) (hr0 : Kd.C k45 w A0 l0.length l0) (hc0 : l0.length ≤ c0) (h : laws_heldNodeS.f k l0 a1 = some r) :
    Calls Try.prog 21 #[.slice A0 l0.length c0, .int .i64 a1] w fun e w' => e = .returned (.int .i64 r) ∧ Drawn0 w w' := by
  have HR0 := Aside0.mk hr0
  have HC0 := Aside0.mk hc0
  clear hr0 hc0
  have H : (laws_heldNodeS.l0 k l0 a1 0) = some r := h
  clear h
  have H' := Aside0.mk H
  clear H
  go_enter Try.func21, Try.ntmps21
  go_wp2
  go_loopg [1, 5] k (fun kq v1 v5 w' => ∃ (x1_1 : Int) (x5_1 : Int), v1 = .int .i64 x1_1 ∧ v5 = .int .i64 x5_1 ∧ Aside0 (laws_heldNodeS.l0 kq l0 x1_1 x5_1 = some r) ∧ Aside0 (kq ≤ k) ∧ Drawn0 w w')
  case atStart => exact ⟨(a1), (0), (by first | rfl | (simp; done) | (simp [*]; done) | (rw [Int.tmod_eq_emod_of_nonneg (Int.natCast_nonneg _)]; done)), (by first | rfl | (simp; done) | (simp [*]; done) | (rw [Int.tmod_eq_emod_of_nonneg (Int.natCast_nonneg _)]; done)), H', ⟨Nat.le_refl _⟩, by repeat (first | exact Drawn0.refl _ | apply Drawn0.step)⟩
  case round =>
    clear H'
    try clear c2
    try clear p2
    obtain ⟨x1_1, x5_1, rfl, rfl, HA, HK1, ⟨m1, rfl⟩⟩ := hrel
    cases gk with
    | zero => exact absurd HA.out (by simp [laws_heldNodeS.l0])
    | succ k1 =>
      have H := HA.out
      clear HA
      simp only [laws_heldNodeS.l0] at H
      by_cases c3 : x5_1 < (l0.length : Int)
      · rw [if_pos c3] at H
        have c3b0 : decide (x5_1 < (l0.length : Int)) = true := decide_eq_true c3
        clear c3
        by_cases c4 : 0 ≤ x5_1
        · rw [if_pos c4] at H
          have c4b0 : decide (0 ≤ x5_1) = true := decide_eq_true c4
          clear c4
          by_cases c5 : ((rd_T45 l0 x5_1).f0) = x1_1
          · rw [if_pos c5] at H
            have c5b0 : (((rd_T45 l0 x5_1).f0) == x1_1) = true := beq_iff_eq.mpr c5
            have c5b1 : (((rd_T45 l0 x5_1).f0) != x1_1) = false := bne_eq_false_iff_eq.mpr c5
            clear c5
            by_cases c6 : ((rd_T45 l0 x5_1).f1) = (wrap64 (x1_1 + 1))
            · rw [if_pos c6] at H
              have c6b0 : (((rd_T45 l0 x5_1).f1) == (wrap64 (x1_1 + 1))) = true := beq_iff_eq.mpr c6
              have c6b1 : (((rd_T45 l0 x5_1).f1) != (wrap64 (x1_1 + 1))) = false := bne_eq_false_iff_eq.mpr c6
              clear c6
              by_cases c7 : ((rd_T45 l0 x5_1).f2) = (wrap64 ((wrap64 (x1_1 + 1)) + 1))
              · rw [if_pos c7] at H
                have c7b0 : (((rd_T45 l0 x5_1).f2) == (wrap64 ((wrap64 (x1_1 + 1)) + 1))) = true := beq_iff_eq.mpr c7
                have c7b1 : (((rd_T45 l0 x5_1).f2) != (wrap64 ((wrap64 (x1_1 + 1)) + 1))) = false := bne_eq_false_iff_eq.mpr c7
                clear c7
                have H' := Aside0.mk H
                clear H
                have p155 : 0 ≤ (x5_1 : Int) := of_decide_eq_true (by first | (with_reducible assumption) | assumption)
                have q155 : x5_1 < (l0.length : Int) := of_decide_eq_true (by first | (with_reducible assumption) | assumption)
                obtain ⟨ad155, e155, hx155_0, hx155_1, hx155_2⟩ := at_T45 HR0.out x5_1 p155 q155
                cases e155
                replace p155 := eq_true p155
                replace q155 := eq_true q155
                have p156 : 0 ≤ (x5_1 : Int) := of_decide_eq_true (by first | (with_reducible assumption) | assumption)
                have q156 : x5_1 < (l0.length : Int) := of_decide_eq_true (by first | (with_reducible assumption) | assumption)
                obtain ⟨ad156, e156, hx156_0, hx156_1, hx156_2⟩ := at_T45 HR0.out x5_1 p156 q156
                obtain rfl : ad155 = ad156 := (by injection e156)
                replace p156 := eq_true p156
                replace q156 := eq_true q156
                have p157 : 0 ≤ (x5_1 : Int) := of_decide_eq_true (by first | (with_reducible assumption) | assumption)
                have q157 : x5_1 < (l0.length : Int) := of_decide_eq_true (by first | (with_reducible assumption) | assumption)
                obtain ⟨ad157, e157, hx157_0, hx157_1, hx157_2⟩ := at_T45 HR0.out x5_1 p157 q157
                obtain rfl : ad155 = ad157 := (by injection e157)
                replace p157 := eq_true p157
                replace q157 := eq_true q157
                go_wp2
                go_roundg k1
                case measure => have := HK1.out; omega
                case rel => exact ⟨(wrap64 ((wrap64 ((wrap64 (x1_1 + 1)) + 1)) + 1)), (wrap64 (x5_1 + 1)), (by first | rfl | (simp; done) | (simp [*]; done) | (rw [Int.tmod_eq_emod_of_nonneg (Int.natCast_nonneg _)]; done)), (by first | rfl | (simp; done) | (simp [*]; done) | (rw [Int.tmod_eq_emod_of_nonneg (Int.natCast_nonneg _)]; done)), H', ⟨by have := HK1.out; omega⟩, by repeat (first | exact Drawn0.refl _ | apply Drawn0.step)⟩
              · rw [if_neg c7] at H
                have c7b0 : (((rd_T45 l0 x5_1).f2) == (wrap64 ((wrap64 (x1_1 + 1)) + 1))) = false := beq_eq_false_iff_ne.mpr c7
                have c7b1 : (((rd_T45 l0 x5_1).f2) != (wrap64 ((wrap64 (x1_1 + 1)) + 1))) = true := bne_iff_ne.mpr c7
                obtain rfl := Option.some.inj H
                have p155 : 0 ≤ (x5_1 : Int) := of_decide_eq_true (by first | (with_reducible assumption) | assumption)
                have q155 : x5_1 < (l0.length : Int) := of_decide_eq_true (by first | (with_reducible assumption) | assumption)
                obtain ⟨ad155, e155, hx155_0, hx155_1, hx155_2⟩ := at_T45 HR0.out x5_1 p155 q155
                cases e155
                replace p155 := eq_true p155
                replace q155 := eq_true q155
                have p156 : 0 ≤ (x5_1 : Int) := of_decide_eq_true (by first | (with_reducible assumption) | assumption)
                have q156 : x5_1 < (l0.length : Int) := of_decide_eq_true (by first | (with_reducible assumption) | assumption)
                obtain ⟨ad156, e156, hx156_0, hx156_1, hx156_2⟩ := at_T45 HR0.out x5_1 p156 q156
                obtain rfl : ad155 = ad156 := (by injection e156)
                replace p156 := eq_true p156
                replace q156 := eq_true q156
                have p157 : 0 ≤ (x5_1 : Int) := of_decide_eq_true (by first | (with_reducible assumption) | assumption)
                have q157 : x5_1 < (l0.length : Int) := of_decide_eq_true (by first | (with_reducible assumption) | assumption)
                obtain ⟨ad157, e157, hx157_0, hx157_1, hx157_2⟩ := at_T45 HR0.out x5_1 p157 q157
                obtain rfl : ad155 = ad157 := (by injection e157)
                replace p157 := eq_true p157
                replace q157 := eq_true q157
                go_wp2
                go_ret
                exact ⟨by first | rfl | (simp; done) | (simp [*]; done), by repeat (first | exact Drawn0.refl _ | apply Drawn0.step)⟩
            · rw [if_neg c6] at H
              have c6b0 : (((rd_T45 l0 x5_1).f1) == (wrap64 (x1_1 + 1))) = false := beq_eq_false_iff_ne.mpr c6
              have c6b1 : (((rd_T45 l0 x5_1).f1) != (wrap64 (x1_1 + 1))) = true := bne_iff_ne.mpr c6
              obtain rfl := Option.some.inj H
              have p155 : 0 ≤ (x5_1 : Int) := of_decide_eq_true (by first | (with_reducible assumption) | assumption)
              have q155 : x5_1 < (l0.length : Int) := of_decide_eq_true (by first | (with_reducible assumption) | assumption)
              obtain ⟨ad155, e155, hx155_0, hx155_1, hx155_2⟩ := at_T45 HR0.out x5_1 p155 q155
              cases e155
              replace p155 := eq_true p155
              replace q155 := eq_true q155
              have p156 : 0 ≤ (x5_1 : Int) := of_decide_eq_true (by first | (with_reducible assumption) | assumption)
              have q156 : x5_1 < (l0.length : Int) := of_decide_eq_true (by first | (with_reducible assumption) | assumption)
              obtain ⟨ad156, e156, hx156_0, hx156_1, hx156_2⟩ := at_T45 HR0.out x5_1 p156 q156
              obtain rfl : ad155 = ad156 := (by injection e156)
              replace p156 := eq_true p156
              replace q156 := eq_true q156
              go_wp2
              go_ret
              exact ⟨by first | rfl | (simp; done) | (simp [*]; done), by repeat (first | exact Drawn0.refl _ | apply Drawn0.step)⟩
          · rw [if_neg c5] at H
            have c5b0 : (((rd_T45 l0 x5_1).f0) == x1_1) = false := beq_eq_false_iff_ne.mpr c5
            have c5b1 : (((rd_T45 l0 x5_1).f0) != x1_1) = true := bne_iff_ne.mpr c5
            obtain rfl := Option.some.inj H
            have p155 : 0 ≤ (x5_1 : Int) := of_decide_eq_true (by first | (with_reducible assumption) | assumption)
            have q155 : x5_1 < (l0.length : Int) := of_decide_eq_true (by first | (with_reducible assumption) | assumption)
            obtain ⟨ad155, e155, hx155_0, hx155_1, hx155_2⟩ := at_T45 HR0.out x5_1 p155 q155
            cases e155
            replace p155 := eq_true p155
            replace q155 := eq_true q155
            go_wp2
            go_ret
            exact ⟨by first | rfl | (simp; done) | (simp [*]; done), by repeat (first | exact Drawn0.refl _ | apply Drawn0.step)⟩
        · rw [if_neg c4] at H
          exact absurd H (by simp)
      · rw [if_neg c3] at H
        have c3b0 : decide (x5_1 < (l0.length : Int)) = false := decide_eq_false c3
        clear c3
        obtain rfl := Option.some.inj H
        go_wp2
        go_ret
        exact ⟨by first | rfl | (simp; done) | (simp [*]; done), by repeat (first | exact Drawn0.refl _ | apply Drawn0.step)⟩

end Go.Proofs.Ytjnieoogddmmcaa.MFnExactExprOf
