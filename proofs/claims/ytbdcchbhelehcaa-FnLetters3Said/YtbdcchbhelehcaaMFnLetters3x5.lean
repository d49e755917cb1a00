-- Written by a program of this session, out of Lean's print of the translation. Not trusted: Lean checks it.
import Derived.Test.YtbdcchbhelehcaaMFnLetters3x0
import Derived.Test.YtbdcchbhelehcaaMFnLetters3x3
import Derived.Test.YtbdcchbhelehcaaMFnLetters3x4
namespace Go.Proofs.Ytbdcchbhelehcaa.MFnLetters3
open Go.RowKit Go.Proofs.YtbdcchbhelehcaaW.PrintWords Go.Proofs.YtbdcchbhelehcaaW.PrintLast Go.Proofs.YtbdcchbhelehcaaW.PrintMore Go.Proofs.Ytbdcchbhelehcaa.Short6
attribute [local go_sem] max2_int min2_int max_two min_two max_three min_three max_four min_four   -- for this text's walks alone
set_option linter.unusedVariables false
set_option linter.unusedSimpArgs false

/-! ### bits_Mul32: function 49 -/
def bits_Mul32.f (a0 : Int) (a1 : Int) : Option (Int × Int) := some (((IntKind.u64.wrap ((IntKind.u64.wrap (a0)) * (IntKind.u64.wrap (a1)))) / 4294967296) % 4294967296, (IntKind.u64.wrap ((IntKind.u64.wrap (a0)) * (IntKind.u64.wrap (a1)))) % 4294967296)
set_option maxHeartbeats 8000000 in
set_option maxRecDepth 100000 in
theorem bits_Mul32.calls (a0 : Int) (a1 : Int) (r1 : Int) (r2 : Int) (w : World) (h : bits_Mul32.f a0 a1 = some (r1, r2)) :
    Calls Try.prog 49 #[.int .u32 a0, .int .u32 a1] w fun e w' => e = .returned (.tuple #[.int .u32 r1, .int .u32 r2]) ∧ Drawn0 w w' := by
  have H : (some (((IntKind.u64.wrap ((IntKind.u64.wrap (a0)) * (IntKind.u64.wrap (a1)))) / 4294967296) % 4294967296, (IntKind.u64.wrap ((IntKind.u64.wrap (a0)) * (IntKind.u64.wrap (a1)))) % 4294967296)) = some (r1, r2) := h
  clear h
  simp only [Option.some.injEq, Prod.mk.injEq] at H
  obtain ⟨rfl, rfl⟩ := H
  go_enter Try.func49, Try.ntmps49
  go_wp2
  go_ret2
  exact ⟨by first | rfl | (simp; done) | (simp [*]; done), by repeat (first | exact Drawn0.refl _ | apply Drawn0.step)⟩

/-! ### bits_Mul64: function 50 -/
def bits_Mul64.f (a0 : Int) (a1 : Int) : Option (Int × Int) := some (IntKind.u64.wrap ((IntKind.u64.wrap ((IntKind.u64.wrap ((a0 / 4294967296) * (a1 / 4294967296))) + ((IntKind.u64.wrap ((IntKind.u64.wrap ((a0 / 4294967296) * (Go.bits .and .u64 a1 4294967295))) + ((IntKind.u64.wrap ((Go.bits .and .u64 a0 4294967295) * (Go.bits .and .u64 a1 4294967295))) / 4294967296))) / 4294967296))) + ((IntKind.u64.wrap ((Go.bits .and .u64 (IntKind.u64.wrap ((IntKind.u64.wrap ((a0 / 4294967296) * (Go.bits .and .u64 a1 4294967295))) + ((IntKind.u64.wrap ((Go.bits .and .u64 a0 4294967295) * (Go.bits .and .u64 a1 4294967295))) / 4294967296))) 4294967295) + (IntKind.u64.wrap ((Go.bits .and .u64 a0 4294967295) * (a1 / 4294967296))))) / 4294967296)), IntKind.u64.wrap (a0 * a1))
set_option maxHeartbeats 8000000 in
set_option maxRecDepth 100000 in
theorem bits_Mul64.calls (a0 : Int) (a1 : Int) (r1 : Int) (r2 : Int) (w : World) (h : bits_Mul64.f a0 a1 = some (r1, r2)) :
    Calls Try.prog 50 #[.int .u64 a0, .int .u64 a1] w fun e w' => e = .returned (.tuple #[.int .u64 r1, .int .u64 r2]) ∧ Drawn0 w w' := by
  have H : (some (IntKind.u64.wrap ((IntKind.u64.wrap ((IntKind.u64.wrap ((a0 / 4294967296) * (a1 / 4294967296))) + ((IntKind.u64.wrap ((IntKind.u64.wrap ((a0 / 4294967296) * (Go.bits .and .u64 a1 4294967295))) + ((IntKind.u64.wrap ((Go.bits .and .u64 a0 4294967295) * (Go.bits .and .u64 a1 4294967295))) / 4294967296))) / 4294967296))) + ((IntKind.u64.wrap ((Go.bits .and .u64 (IntKind.u64.wrap ((IntKind.u64.wrap ((a0 / 4294967296) * (Go.bits .and .u64 a1 4294967295))) + ((IntKind.u64.wrap ((Go.bits .and .u64 a0 4294967295) * (Go.bits .and .u64 a1 4294967295))) / 4294967296))) 4294967295) + (IntKind.u64.wrap ((Go.bits .and .u64 a0 4294967295) * (a1 / 4294967296))))) / 4294967296)), IntKind.u64.wrap (a0 * a1))) = some (r1, r2) := h
  clear h
  simp only [Option.some.injEq, Prod.mk.injEq] at H
  obtain ⟨rfl, rfl⟩ := H
  go_enter Try.func50, Try.ntmps50
  go_wp2
  go_ret2
  exact ⟨by first | rfl | (simp; done) | (simp [*]; done), by repeat (first | exact Drawn0.refl _ | apply Drawn0.step)⟩

/-! ### bits_Mul: function 45 -/
def bits_Mul.f (a0 : Int) (a1 : Int) : Option (Int × Int) := (bits_Mul64.f a0 a1).bind fun bt371 => (some (bt371.1, bt371.2))
set_option maxHeartbeats 8000000 in
set_option maxRecDepth 100000 in
theorem bits_Mul.calls (a0 : Int) (a1 : Int) (r1 : Int) (r2 : Int) (w : World) (h : bits_Mul.f a0 a1 = some (r1, r2)) :
    Calls Try.prog 45 #[.int .u64 a0, .int .u64 a1] w fun e w' => e = .returned (.tuple #[.int .u64 r1, .int .u64 r2]) ∧ Drawn0 w w' := by
  have H : ((bits_Mul64.f a0 a1).bind fun bt371 => (some (bt371.1, bt371.2))) = some (r1, r2) := h
  clear h
  replace H := bI H
  obtain ⟨⟨aa, ab⟩, ac, H⟩ := H
  replace H : (some (aa, ab)) = some (r1, r2) := H
  have A3 := Aside0.mk ac
  clear ac
  simp only [Option.some.injEq, Prod.mk.injEq] at H
  obtain ⟨rfl, rfl⟩ := H
  go_enter Try.func45, Try.ntmps45
  go_wp2_with (first | ((with_reducible refine gate_callee (f := 50) rfl ?_); refine goesL_ (some 25) rfl rfl Try.func50 (by kernel_rfl) rfl #[.int .u64 a0, .int .u64 a1] rfl (by (try simp only [List.map_toArray, List.map_cons, List.map_nil]); first | done | rfl | (simp only [List.length_drop, List.length_take]; rfl)) ?_; (with_reducible refine (bits_Mul64.calls a0 a1 aa ab _ A3.out).mono ?_); rintro e w' ⟨rfl, ⟨nd, rfl⟩⟩; refine ⟨_, rfl, ?_⟩))
  go_ret2
  exact ⟨by first | rfl | (simp; done) | (simp [*]; done), by repeat (first | exact Drawn0.refl _ | apply Drawn0.step)⟩

/-! ### slices_Repeat_int_int: function 33 -/
def slices_Repeat_int_int.f (l0 : List Int) (a1 : Int) : Option (List Int) := if 0 < l0.length ∧ l0.length < 1048576 ∧ 0 < a1 ∧ a1 < 1048576 then some (List.replicate a1.toNat l0).flatten else none
theorem slices_Repeat_int_int.flat_at (l : List Int) (k : Nat) : ∀ j : Nat, j < k * l.length → ((List.replicate k l).flatten)[j]? = l[j % l.length]? := by
  induction k with
  | zero => intro j hj; omega
  | succ k ih =>
    intro j hj
    rw [List.replicate_succ, List.flatten_cons]
    by_cases h : j < l.length
    · rw [List.getElem?_append_left h, Nat.mod_eq_of_lt h]
    · rw [List.getElem?_append_right (by omega), ih (j - l.length) (by rw [Nat.succ_mul] at hj; omega), ← Nat.mod_eq_sub_mod (by omega)]
theorem slices_Repeat_int_int.flat_len (l : List Int) (k : Nat) : ((List.replicate k l).flatten).length = k * l.length := by
  induction k with
  | zero => simp
  | succ k ih => rw [List.replicate_succ, List.flatten_cons, List.length_append, ih, Nat.succ_mul, Nat.add_comm]
def slices_Repeat_int_int.put : List Int → Nat → List Int → List Int
  | xs, _, [] => xs
  | xs, o, v :: r => slices_Repeat_int_int.put (xs.set o v) (o + 1) r
theorem slices_Repeat_int_int.put_len : ∀ (vs xs : List Int) (o : Nat), (slices_Repeat_int_int.put xs o vs).length = xs.length
  | [], _, _ => rfl
  | v :: r, xs, o => by rw [slices_Repeat_int_int.put, slices_Repeat_int_int.put_len r, List.length_set]
theorem slices_Repeat_int_int.put_at : ∀ (vs xs : List Int) (o j : Nat), o + vs.length ≤ xs.length → (slices_Repeat_int_int.put xs o vs)[j]? = if o ≤ j ∧ j < o + vs.length then vs[j - o]? else xs[j]?
  | [], xs, o, j, _ => by rw [if_neg (by simp only [List.length_nil]; omega)]; rfl
  | v :: r, xs, o, j, h => by
    rw [List.length_cons] at h
    rw [slices_Repeat_int_int.put, slices_Repeat_int_int.put_at r (xs.set o v) (o + 1) j (by rw [List.length_set]; omega), List.length_cons]
    by_cases h1 : j = o
    · subst h1
      rw [if_neg (by omega), if_pos (by omega), Nat.sub_self, List.getElem?_set_self (by omega)]; rfl
    · by_cases h2 : o + 1 ≤ j ∧ j < o + 1 + r.length
      · rw [if_pos h2, if_pos (by omega), show j - o = (j - (o + 1)) + 1 by omega, List.getElem?_cons_succ]
      · rw [if_neg h2, if_neg (by omega), List.getElem?_set_ne (by omega)]
theorem slices_Repeat_int_int.put_R {e base g cap : Nat} {ok : Nat → Prop} : ∀ (vs xs : List Int) (o : Nat) (W : World), Kd.R (Kd.int .i64) e W base ok (.slice (some ⟨g, 0, none⟩) xs.length cap) xs →
    Kd.R (Kd.int .i64) e (W.setCells g o (vs.map (Value.int .i64))) base ok (.slice (some ⟨g, 0, none⟩) xs.length cap) (slices_Repeat_int_int.put xs o vs)
  | [], xs, o, W, h => h
  | v :: r, xs, o, W, h => by
    have h1 := (Kd.R_put (enc := Value.int .i64) (h1 := fun _ => rfl) h (o : Int) v).1
    rw [Int.toNat_natCast] at h1
    have h2 := slices_Repeat_int_int.put_R r (xs.set o v) (o + 1) (W.setCell ⟨g, o, none⟩ (.int .i64 v)) (by rw [List.length_set]; exact h1)
    rw [List.length_set] at h2
    exact h2
theorem slices_Repeat_int_int.and32 (a : Nat) (ha : a < 4294967296) : Go.bits .and .u64 (a : Int) 4294967295 = (a : Int) := by
  have h := bits_and_u64_nat a 4294967295 (by omega) (by omega)
  have e : a &&& 4294967295 = a % 4294967296 := Nat.and_two_pow_sub_one_eq_mod a 32
  rw [e, Nat.mod_eq_of_lt ha] at h
  exact h
theorem slices_Repeat_int_int.wrapU (a : Nat) (ha : a < 18446744073709551616) : IntKind.u64.wrap (a : Int) = (a : Int) := by
  rw [IntKind.wrap_u64]; omega
theorem slices_Repeat_int_int.mul_eq (x y : Nat) (hx : x < 1048576) (hy : y < 1048576) : bits_Mul.f (x : Int) (y : Int) = some (0, ((x * y : Nat) : Int)) := by
  have hxy : x * y ≤ 1048576 * 1048576 := Nat.mul_le_mul (by omega) (by omega)
  obtain ⟨z, hz⟩ : ∃ z, z = x * y := ⟨_, rfl⟩
  rw [← hz] at hxy ⊢
  have h1 : ((x : Int) / 4294967296) = ((0 : Nat) : Int) := by omega
  have h2 : ((y : Int) / 4294967296) = ((0 : Nat) : Int) := by omega
  have h3 : (x : Int) * (y : Int) = ((z : Nat) : Int) := by rw [hz]; exact (Int.natCast_mul x y).symm
  have h4 : ((z : Nat) : Int) / 4294967296 = ((z / 4294967296 : Nat) : Int) := by omega
  have h5 : ((z / 4294967296 : Nat) : Int) / 4294967296 = 0 := by omega
  unfold bits_Mul.f bits_Mul64.f
  rw [h1, h2, slices_Repeat_int_int.and32 x (by omega), slices_Repeat_int_int.and32 y (by omega), h3]
  have h0 : IntKind.u64.wrap 0 = 0 := by decide
  simp only [Int.natCast_zero, Int.zero_mul, Int.mul_zero, h0, Int.zero_add, Int.add_zero, slices_Repeat_int_int.wrapU z (by omega), h4, slices_Repeat_int_int.wrapU (z / 4294967296) (by omega), slices_Repeat_int_int.and32 (z / 4294967296) (by omega), h5, Option.bind_some]
theorem slices_Repeat_int_int.wp_copy (w : World) {ops : Array Oper} {rest : List Oper} {o : Oper} {a : Act} {Q : Exit → Act → World → Prop} (hgd : o.guard = none) (d s : Operand) (t t' : TypeId)
    (ho : o.op = .call { callee := .builtin .copy, args := #[d, s], argTypes := #[t, t'] }) (v u : Value) (hd : a.eval d = v) (hs : a.eval s = u) {v' : Value} {w' : World}
    (hr : (Builtin.copy_ #[t, t'] o.type #[v, u]).run Try.prog w = .ok v' w') (h : wpList Try.prog ops Q rest (a.put o.dst v') w') : wpList Try.prog ops Q (o :: rest) a w := by
  refine wpList_plain hgd fun _ hK => ?_
  unfold Oper.wp execOp
  simp only [ho, resolve, invoke, builtin, Sem.run_bind, Sem.run_pure, Result.andThen_ok, List.map_toArray, List.map_cons, List.map_nil, hd, hs, hr]
  exact hK _ _ h
theorem slices_Repeat_int_int.step_copy {ops : Array Oper} {o : Oper} {a : Act} {w : World} {K : Act → World → Prop} {Q : Exit → Act → World → Prop} {E : Prop} (N : Option Tmp) (hN : o.dst = N)
    (hg : o.guard = none) (d x : Operand) (dT sT : TypeId) (hop : o.op = Op.call { callee := Callee.builtin Builtin.copy, args := #[d, x], argTypes := #[dT, sT] })
    (v u : Value) (hd : a.eval d = v) (hx : a.eval x = u) {v' : Value} {w' : World} (hr : (Builtin.copy_ #[dT, sT] o.type #[v, u]).run Try.prog w = .ok v' w') (hK : K (a.put N v') w') :
    if Region.wanted o (yielded ops a.tmps) = true then Oper.wp Try.prog o a w K Q else E := by
  subst hN
  rw [if_pos (by simp [Region.wanted, hg])]
  unfold Oper.wp
  simp [execOp, hop, resolve, invoke, builtin, hd, hx, hr, Result.andThen]
  exact hK
theorem slices_Repeat_int_int.setCells_below {B : Nat} {w0 : World} (g : Nat) (hg : B ≤ g) : ∀ (vs : List Value) (o : Nat) {w : World}, Below B w0 w → Below B w0 (w.setCells g o vs)
  | [], _, _, h => h
  | v :: r, o, _, h => slices_Repeat_int_int.setCells_below g hg r (o + 1) (h.setCell (p := ⟨g, o, none⟩) hg v)
/-- 'copy' into a row of the call's own, from what can be read: the row, and the world behind it. -/
theorem slices_Repeat_int_int.copy_own {w0 W : World} {B g cap n : Nat} {ok : Nat → Prop} {cs : List Int} (hn : cs.length = n) (hR : Kd.R (Kd.int .i64) 3 W B ok (.slice (some ⟨g, 0, none⟩) n cap) cs) (hB : Below B w0 W) (hg : B ≤ g) (a : Addr) (o : Nat) (vs : List Int) (sl : Nat)
    (hsrc : ∀ j : Nat, j < vs.length → W.cell? (a.add j) = some (.int .i64 (rd vs (j : Int)))) (hl : vs.length = min sl (n - o)) (ho : o + vs.length ≤ n) :
    ∃ w2, (∀ (ty : TypeId) (dc sc : Nat), (Builtin.copy_ #[24, 24] ty #[.slice (some ⟨g, o, none⟩) (n - o) dc, .slice (some a) sl sc]).run Try.prog W = .ok (.int .i64 (vs.length : Int)) w2) ∧
      Kd.R (Kd.int .i64) 3 w2 B ok (.slice (some ⟨g, 0, none⟩) n cap) (slices_Repeat_int_int.put cs o vs) ∧ Below B w0 w2 := by
  subst hn
  refine ⟨W.setCells g o (vs.map (Value.int .i64)), fun ty dc sc => ?_, slices_Repeat_int_int.put_R vs cs o W hR, slices_Repeat_int_int.setCells_below g hg _ o hB⟩
  have hsz : (Try.prog.info? 3).map (·.size) = some 1 := by kernel_rfl
  have h := run_copy_cells (P := Try.prog) W 24 24 ty 3 g o (cs.length - o) dc a sl sc (vs.map (Value.int .i64)) Try.underlying24 hsz (by rw [List.length_map]; exact hl)
    (fun j v hj => by
      rw [List.getElem?_map] at hj
      obtain ⟨x, hx, rfl⟩ := Option.map_eq_some_iff.1 hj
      have hlt := (List.getElem?_eq_some_iff.1 hx).1
      rw [hsrc j hlt]
      simp [rd, List.getD_eq_getElem?_getD, hx])
    (fun j hj => by
      rw [List.length_map] at hj
      have := (Kd.R_cell (enc := Value.int .i64) (h1 := fun _ => rfl) (0 : Int) hR ((o + j : Nat) : Int) (by omega) (by omega)).1
      rw [Int.toNat_natCast] at this
      rw [this]; rfl)
    (fun j hj => by
      rw [List.length_map] at hj
      have := (Kd.R_cell (enc := Value.int .i64) (h1 := fun _ => rfl) (0 : Int) hR ((o + j : Nat) : Int) (by omega) (by omega)).2
      rw [Int.toNat_natCast] at this
      exact this)
    (fun v hv => by obtain ⟨x, _, rfl⟩ := List.mem_map.1 hv; rfl)
  rw [List.length_map] at h
  exact h
set_option maxHeartbeats 8000000 in
set_option maxRecDepth 100000 in
theorem slices_Repeat_int_int.calls (A0 : Option Addr) (c0 : Nat) (l0 : List Int) (a1 : Int) (r : List Int) (w : World) (hr0 : Kd.C (Kd.int .i64) w A0 l0.length l0) (hc0 : l0.length ≤ c0) (h : slices_Repeat_int_int.f l0 a1 = some r) :
    Calls Try.prog 33 #[.slice A0 l0.length c0, .int .i64 a1] w fun e w' => ∃ v0_ : Value, e = .returned (v0_) ∧ Kd.R (Kd.int .i64) 3 w' w.heap.size (fun _ => True) v0_ r ∧ Below w.heap.size w w' := by
  unfold slices_Repeat_int_int.f at h
  by_cases hl : 0 < l0.length ∧ l0.length < 1048576 ∧ 0 < a1 ∧ a1 < 1048576
  · rw [if_pos hl] at h
    obtain rfl := Option.some.inj h
    obtain ⟨h1, h2, h3, h4⟩ := hl
    obtain ⟨m, rfl⟩ := Int.eq_ofNat_of_zero_le (show 0 ≤ a1 by omega)
    rw [Int.toNat_natCast]
    have hat := fun (j : Nat) (hj : j < l0.length) => Kd.at_int hr0 (j : Int) (by omega) (by omega)
    obtain ⟨ad, rfl, _⟩ := hat 0 h1
    have hsrc : ∀ j : Nat, j < l0.length → w.cell? (ad.add j) = some (.int .i64 (rd l0 (j : Int))) := fun j hj => by
      obtain ⟨ad', e, hc⟩ := hat j hj
      obtain rfl := Option.some.inj e
      rwa [Int.toNat_natCast] at hc
    obtain ⟨n, hn⟩ : ∃ n, n = m * l0.length := ⟨_, rfl⟩
    have hmn : l0.length ≤ n := by rw [hn]; exact Nat.le_mul_of_pos_left _ (by omega)
    have hnb : n ≤ 1099511627776 := by rw [hn]; exact Nat.le_trans (Nat.mul_le_mul (show m ≤ 1048576 by omega) (show l0.length ≤ 1048576 by omega)) (by omega)
    have hmul := slices_Repeat_int_int.mul_eq l0.length m h2 (by omega)
    rw [show l0.length * m = n by rw [hn, Nat.mul_comm]] at hmul
    have hw1 : IntKind.u64.wrap (l0.length : Int) = l0.length := slices_Repeat_int_int.wrapU _ (by omega)
    have hw2 : IntKind.u64.wrap (m : Int) = m := slices_Repeat_int_int.wrapU _ (by omega)
    have hw3 : IntKind.i64.wrap (n : Int) = n := by rw [IntKind.wrap_i64]; omega
    have hneg : decide ((m : Int) < 0) = false := decide_eq_false (by omega)
    have hbig : decide ((9223372036854775807 : Int) < (n : Int)) = false := decide_eq_false (by omega)
    have hinf : (Try.prog.info? 3).map (fun i => (i.zero, i.size, i.bytes)) = some (some (.int .i64 0), 1, 8) := by kernel_rfl
    have HINF := Aside0.mk hinf
    have HSRC := Aside0.mk hsrc
    have HMUL := Aside0.mk hmul
    have HN := Aside0.mk hn
    clear hinf hsrc hmul hn hat hr0 hc0
    go_enter Try.func33, Try.ntmps33
    go_wp2_with (first
      | ((with_reducible refine gate_callee (f := 45) rfl ?_); refine goesL_ (some 18) rfl rfl Try.func45 (by kernel_rfl) rfl #[.int .u64 (l0.length : Int), .int .u64 (m : Int)] rfl (by (try simp only [List.map_toArray, List.map_cons, List.map_nil]); first | done | rfl | (go_simp; rfl)) ?_; (with_reducible refine (bits_Mul.calls (l0.length : Int) (m : Int) 0 (n : Int) _ HMUL.out).mono ?_); rintro e w' ⟨rfl, ⟨nd, rfl⟩⟩; refine ⟨_, rfl, ?_⟩)
      | ((with_reducible refine gate_dst (N := 30) rfl ?_); refine Kd.R_make (Kd.int .i64) (w0 := w) w.heap.size 3 rfl (N := 30) rfl 24 _ _ rfl (n : Int) rfl rfl Try.underlying24 (.int .i64 0) 8 HINF.out rfl (by decide) (by omega) 0 (ok := fun _ => True) (okp := fun _ => True) rfl (fun _ hk => hk) trivial (by omega) (by omega) ?aB ?aS ?_; (case aB => exact pw_below_drewN (Below.refl _ _) _); (case aS => exact Nat.le_refl _); intro v1 w1 ho hb hg_ hnew_; obtain ⟨cs0, hcs0⟩ : ∃ cs, cs = List.replicate (n : Int).toNat (0 : Int) := ⟨_, rfl⟩; rw [← hcs0] at ho; have hln0 : cs0.length = n := (by simp [hcs0]); have hp0 : 0 < cs0.length := (by omega); obtain ⟨g, cap, e1_, hgb, hgl, _⟩ := Kd.R_form ho hp0; rw [hln0] at e1_; subst e1_; have hcap := (Kd.R_reads' ho).2.1; obtain ⟨w2, hc2, hR2, hB2⟩ := slices_Repeat_int_int.copy_own hln0 ho hb hgb ad 0 l0 l0.length (fun j hj => pw_cell_below hb (HSRC.out j hj)) (by omega) (by omega); have hc2' := hc2 3 cap c0; rw [Nat.sub_zero] at hc2'; have hl2 : (slices_Repeat_int_int.put cs0 0 l0).length = n := (by rw [slices_Repeat_int_int.put_len]; exact hln0); have hat2 : ∀ j, j < l0.length → (slices_Repeat_int_int.put cs0 0 l0)[j]? = l0[j % l0.length]? := (fun j hj => by rw [slices_Repeat_int_int.put_at l0 cs0 0 j (by omega), if_pos (by omega), Nat.sub_zero, Nat.mod_eq_of_lt hj]); have HC2 := Aside0.mk hc2'; have HR2 := Aside0.mk hR2; have HB2 := Aside0.mk hB2; have HL2 := Aside0.mk hl2; have HAT2 := Aside0.mk hat2; clear hc2 hc2' hR2 hB2 hl2 hat2 ho hb hg_ hnew_ hcs0 hln0)
      | ((with_reducible refine gate_builtin (b := .copy) (xs := #[.tmp 31, .tmp 32]) rfl ?_); refine slices_Repeat_int_int.wp_copy _ rfl _ _ 24 24 rfl _ _ rfl rfl HC2.out ?_)
      )
    go_loopw [8] (fun i wr => ∃ (q : Nat) (cs : List Int), 0 < q ∧ q ≤ n ∧ i = .int .i64 (q : Int) ∧ cs.length = n ∧ (q = n ∨ l0.length ∣ q) ∧ (∀ j, j < q → cs[j]? = l0[j % l0.length]?) ∧ Below w.heap.size w wr ∧ Kd.R (Kd.int .i64) 3 wr w.heap.size (fun _ => True) (.slice (some ⟨g, 0, none⟩) n cap) cs)
      (fun i _ => n - (intOf i).toNat)
    case atStart => exact ⟨l0.length, _, h1, hmn, rfl, HL2.out, .inr (Nat.dvd_refl _), HAT2.out, HB2.out, HR2.out⟩
    case round =>
      obtain ⟨q, cs, hq0, hqn, rfl, hlen, hdvd, hpos, hB, hR⟩ := hrel
      by_cases hq : q < n
      · have hlt : decide ((q : Int) < (n : Int)) = true := decide_eq_true (by omega)
        have hR' := Kd.R_drew hR
        have hB' := below_drew1 hB
        obtain ⟨vs, hvs⟩ : ∃ vs, vs = cs.take (min q (n - q)) := ⟨_, rfl⟩
        have hvl : vs.length = min q (n - q) := by rw [hvs, List.length_take]; omega
        have hva : ∀ j, j < vs.length → vs[j]? = cs[j]? := fun j hj => by rw [hvs, List.getElem?_take_of_lt (by omega)]
        obtain ⟨w4, hc4, hR4, hB4⟩ := slices_Repeat_int_int.copy_own hlen hR' hB' hgb ⟨g, 0, none⟩ q vs q (fun j hj => by
          have := (Kd.R_cell (enc := Value.int .i64) (h1 := fun _ => rfl) (0 : Int) (by rw [hlen]; exact hR') (j : Int) (by omega) (by omega)).1
          rw [Int.toNat_natCast] at this
          rw [add_plain, this]
          simp only [rd, rdOf, List.getD_eq_getElem?_getD, Int.toNat_natCast, hva j hj]) hvl (by omega)
        have hcall := hc4 3 (cap - q) cap
        have hw5 : IntKind.i64.wrap ((q : Int) + (vs.length : Int)) = (q : Int) + (vs.length : Int) := by rw [IntKind.wrap_i64]; omega
        have hqc : ¬ (cap = q) := by omega
        have hqn2 : q ≤ n := by omega
        have hq63 : n ≤ cap := hcap
        have HR4 := Aside0.mk hR4
        have HB4 := Aside0.mk hB4
        have HLEN := Aside0.mk hlen
        have HD := Aside0.mk hdvd
        have HP := Aside0.mk hpos
        have HVA := Aside0.mk hva
        have HVL := Aside0.mk hvl
        have HCALL := Aside0.mk hcall
        clear hR4 hB4 hlen hdvd hpos hva hvl hcall hc4 hvs hR' hB' hR hB
        obtain ⟨i0, hi0, _, hsz0, _⟩ := info_parts HINF.out
        have hcut := cut_to (P := Try.prog) 24 3 .i64 Try.underlying24 hi0 (some ⟨g, 0, none⟩) n cap (q : Int) (by omega) (by omega) (by omega)
        rw [Int.toNat_natCast] at hcut
        clear hi0 hsz0
        go_wp2_with fail
        go_region_law (refine slices_Repeat_int_int.step_copy (some 45) rfl rfl (.tmp 41) (.tmp 44) 24 24 rfl (.slice (some ⟨g, q, none⟩) (n - q) (cap - q)) (.slice (some ⟨g, 0, none⟩) q cap) (by simp [Act.eval, Act.put]) (by simp [Act.eval, Act.put]) HCALL.out ?_)
        all_goals (try go_wp2_with fail)
        go_roundw
        case measure => have := HVL.out; simp [intOf, Act.put]; omega
        case rel =>
          (repeat apply Exists.intro)
          refine ⟨⟨q + vs.length, slices_Repeat_int_int.put cs q vs, by omega, by have := HVL.out; omega, ?_, by rw [slices_Repeat_int_int.put_len]; exact HLEN.out, ?_, ?_, HB4.out, HR4.out⟩, rfl⟩
          · rw [Int.natCast_add]
          · have hv := HVL.out
            rcases HD.out with hd | hd
            · omega
            · by_cases h2q : q ≤ n - q
              · refine .inr ?_
                rw [show q + vs.length = q + q by omega]
                exact Nat.dvd_add hd hd
              · exact .inl (by omega)
          · intro j hj
            have hv := HVL.out
            have hlen := HLEN.out
            rw [slices_Repeat_int_int.put_at vs cs q j (by omega)]
            by_cases hjq : j < q
            · rw [if_neg (by omega)]
              exact HP.out j hjq
            · rw [if_pos (by omega), HVA.out (j - q) (by omega), HP.out (j - q) (by omega)]
              rcases HD.out with hd | hd
              · omega
              · obtain ⟨z, hz⟩ := hd
                have : (j - q) % l0.length = j % l0.length := by
                  conv => rhs; rw [show j = (j - q) + l0.length * z by omega]
                  rw [Nat.add_mul_mod_self_left]
                rw [this]
      · have hlt : decide ((q : Int) < (n : Int)) = false := decide_eq_false (by omega)
        have hqe : q = n := by omega
        subst hqe
        have HR4 := Aside0.mk hR
        have HB4 := Aside0.mk hB
        have HLEN := Aside0.mk hlen
        have HP := Aside0.mk hpos
        clear hR hB hlen hdvd hpos
        go_wp2
        go_ret
        refine ⟨_, rfl, ?_, HB4.out⟩
        have he : cs = (List.replicate m l0).flatten := by
          apply List.ext_getElem?
          intro j
          by_cases hj : j < q
          · rw [HP.out j hj, slices_Repeat_int_int.flat_at l0 m j (by rw [← HN.out]; exact hj)]
          · rw [List.getElem?_eq_none (by rw [HLEN.out]; omega), List.getElem?_eq_none (by rw [slices_Repeat_int_int.flat_len, ← HN.out]; omega)]
        rw [← he]
        exact HR4.out
  · rw [if_neg hl] at h
    cases h

section
open Go.Proofs.Ytbdcchbhelehcaa.Short2.T
abbrev impl_WordPower.bl0 : Array Bool := #[f, f, f, f, f, f, f, f, f, f, f, f, f]
abbrev impl_WordPower.bl1 : Array Bool := #[t, f, f, f, f, f, f, f, f, f, f, f, f]
abbrev impl_WordPower.bl2 : Array Bool := #[t, f, f, t, f, f, f, f, f, f, f, f, f]
abbrev impl_WordPower.bl3 : Array Bool := #[t, f, f, t, f, t, f, f, f, f, f, f, f]
abbrev impl_WordPower.bl4 : Array Bool := #[t, t, f, t, f, t, f, f, f, f, f, f, f]
abbrev impl_WordPower.bl5 : Array Bool := #[t, t, f, t, t, t, f, f, f, f, f, f, f]
abbrev impl_WordPower.bl6 : Array Bool := #[t, t, t, t, t, t, f, f, f, f, f, f, f]
abbrev impl_WordPower.bl7 : Array Bool := #[t, t, t, t, t, t, t, f, f, f, f, f, f]
abbrev impl_WordPower.bl8 : Array Bool := #[t, t, t, t, t, t, t, t, f, f, f, f, f]
abbrev impl_WordPower.bl9 : Array Bool := #[t, t, t, t, t, t, t, t, t, f, f, f, f]
abbrev impl_WordPower.bl10 : Array Bool := #[t, t, t, t, t, t, t, t, t, t, f, f, f]
abbrev impl_WordPower.bl11 : Array Bool := #[t, t, t, t, t, t, t, t, t, t, t, f, f]
abbrev impl_WordPower.bl12 : Array Bool := #[t, t, t, t, t, t, t, t, t, t, t, t, f]
abbrev impl_WordPower.bl13 : Array Bool := #[t, t, t, t, t, t, t, t, t, t, t, t, t]
end
/-! ### impl_WordPower: function 9 -/
def impl_WordPower.j0 : Nat → Int → Bool → List Int → List Int → Option (List Int × List Int × Bool)
 | 0, _, _, _, _ => none
 | k + 1, x1, x13, x374000, x374001 => if x13 = true then (some (([] : List Int), ([] : List Int), false)) else ((slices_Clone_int_int.f x374000).bind fun t377 => ((slices_Repeat_int_int.f x374001 x1).bind fun t380 => ((impl_rightOr.f k t377 t380 true).bind fun bt383 => (some (bt383.1, bt383.2.1, bt383.2.2)))))
def impl_WordPower.f (k : Nat) (l0_0 : List Int) (l0_1 : List Int) (a1 : Int) : Option (List Int × List Int × Bool) := (impl_inRange.f a1 1 40).bind fun t375 => (if t375 = true then ((impl_isRight.f k l0_0 l0_1).bind fun t376 => (impl_WordPower.j0 k a1 (!t376) l0_0 l0_1)) else (impl_WordPower.j0 k a1 true l0_0 l0_1))
theorem impl_WordPower.mono_l : ∀ k, (∀ y0 y1 y2 y3, LeO (impl_WordPower.j0 k y0 y1 y2 y3) (impl_WordPower.j0 (k + 1) y0 y1 y2 y3))
 | 0 => fun _ _ _ _ r h => by simp [impl_WordPower.j0] at h
 | k + 1 => by
  have ih0 := impl_WordPower.mono_l k
  ·intro y0 y1 y2 y3
   unfold impl_WordPower.j0
   repeat' first
   | (with_reducible exact ih0 _ _ _ _)
   | (with_reducible exact impl_isRight.mono _ _ _)
   | (with_reducible exact impl_rightOr.mono _ _ _ _)
   | (with_reducible exact LeO.refl _)
   | (with_reducible exact LeO.none _)
   | (with_reducible refine LeO.ite ?_ ?_)
   | (with_reducible refine LeO.bind ?_ (fun _ => ?_))
   | exact ih0 _ _ _ _
   | exact impl_isRight.mono _ _ _
   | exact impl_rightOr.mono _ _ _ _
   | exact LeO.none _
   | refine LeO.ite ?_ ?_
   | refine LeO.bind ?_ (fun _ => ?_)
theorem impl_WordPower.mono : ∀ a0 a1 a2 k, LeO (impl_WordPower.f k a0 a1 a2) (impl_WordPower.f (k + 1) a0 a1 a2) := by
 intro a0 a1 a2 k
 have ih0 := impl_WordPower.mono_l k
 unfold impl_WordPower.f
 repeat' first
   | (with_reducible exact ih0 _ _ _ _)
   | (with_reducible exact impl_isRight.mono _ _ _)
   | (with_reducible exact impl_rightOr.mono _ _ _ _)
   | (with_reducible exact LeO.refl _)
   | (with_reducible exact LeO.none _)
   | (with_reducible refine LeO.ite ?_ ?_)
   | (with_reducible refine LeO.bind ?_ (fun _ => ?_))
   | exact ih0 _ _ _ _
   | exact impl_isRight.mono _ _ _
   | exact impl_rightOr.mono _ _ _ _
   | exact LeO.none _
   | refine LeO.ite ?_ ?_
   | refine LeO.bind ?_ (fun _ => ?_)
def impl_WordPower.T3 : Bool × List (List Nat × List Nat) := (true, [([], []), ([0], [0]), ([1], [1]), ([], []), ([3], [3]), ([], []), ([4, 5, 2], [4, 5]), ([2, 6], [2, 6]), ([7, 6], [7]), ([8], [8]), ([8], [8]), ([9, 8, 0, 1, 2, 3, 4, 5, 6, 7, 8, 9, 10], [9]), ([10, 11, 0, 1, 2, 3, 4, 5, 6, 7, 8, 9, 10, 11], [10])])
def impl_WordPower.B3 : List Nat := [0, 1, 3, 0, 8, 0, 63, 127, 255, 511, 511, 2047, 4095]
theorem impl_WordPower.tab3 : rtab .any (opsOf Try.f9 3) = impl_WordPower.T3 := by kernel_rfl
theorem impl_WordPower.bits3 : waitsOk impl_WordPower.T3.2 impl_WordPower.B3 = true := by kernel_rfl
open Go.Proofs.Ytbdcchbhelehcaa.Short2 in
set_option maxHeartbeats 8000000 in
set_option maxRecDepth 100000 in
theorem impl_WordPower.calls (k : Nat) (A0_0 : Option Addr) (c0_0 : Nat) (l0_0 : List Int) (A0_1 : Option Addr) (c0_1 : Nat) (l0_1 : List Int) (a1 : Int) (r1 : List Int) (r2 : List Int) (r3 : Bool) (w : World) (hr0_0 : Kd.C (Kd.int .i64) w A0_0 l0_0.length l0_0) (hc0_0 : l0_0.length ≤ c0_0) (hr0_1 : Kd.C (Kd.int .i64) w A0_1 l0_1.length l0_1) (hc0_1 : l0_1.length ≤ c0_1) (h : impl_WordPower.f k l0_0 l0_1 a1 = some (r1, r2, r3)) :
  Calls Try.prog 9 #[.agg #[.slice A0_0 l0_0.length c0_0, .slice A0_1 l0_1.length c0_1], .int .i64 a1] w fun e w' => ∃ v0_ v1_ : Value, e = .returned (.tuple #[.agg #[v0_, v1_], .bool r3]) ∧ Kd.R (Kd.int .i64) 3 w' w.heap.size (fun k_ => some k_ ≠ (v1_ : Value).ownBlock) v0_ r1 ∧ Kd.R (Kd.int .i64) 3 w' w.heap.size (fun k_ => some k_ ≠ (v0_ : Value).ownBlock) v1_ r2 ∧ Below w.heap.size w w' := by
 have hu26 := Try.underlying26; have HR0_0 := Aside0.mk hr0_0; have HC0_0 := Aside0.mk hc0_0; clear hr0_0 hc0_0; have HR0_1 := Aside0.mk hr0_1; have HC0_1 := Aside0.mk hc0_1; clear hr0_1 hc0_1; have HB := Aside0.mk (Below.refl w.heap.size w); have H : ((impl_inRange.f a1 1 40).bind fun al => (if al = true then ((impl_isRight.f k l0_0 l0_1).bind fun af => (impl_WordPower.j0 k a1 (!af) l0_0 l0_1)) else (impl_WordPower.j0 k a1 true l0_0 l0_1))) = some (r1, r2, r3) := h; clear h; have HC3 := Aside0.mk H; clear H
 go_enter Try.func9, Try.ntmps9
 go_upto_region 1 with (first | ((with_reducible refine gate_dst (N := 2) rfl ?_); refine bx_ 2 #[.slice A0_0 l0_0.length c0_0, .slice A0_1 l0_1.length c0_1] 26 ?_; intro am hg w4 hbox hb; have aa := Aside0.mk (hbox); have bm := xG HB hg; have aM := xG HB hg; replace HB := xS HB hb; clear hb hbox hg) | ((with_reducible refine gate_dst (N := 4) rfl ?_); refine bx_ 4 #[.slice none 0 0, .slice none 0 0] 26 ?_; intro aj hg w5 hbox hb; have ab := Aside0.mk (hbox); have bn := xG HB hg; have aN := xG HB hg; replace HB := xS HB hb; have ac := xN aa hg; have ah := xM aa hg; replace aa := xB aa hb; clear hb hbox hg))
 (try simp only [Act.put, q3])
 go_cut [13] (fun bi wc => ∃ (kq : Nat) (ak : Bool), bi = .bool ak ∧ Aside0 (impl_WordPower.j0 kq a1 ak l0_0 l0_1 = some (r1, r2, r3)) ∧ Aside0 (kq ≤ k) ∧ Aside0 (wc.heap[am]? = some (.cells #[(.slice A0_0 l0_0.length c0_0), (.slice A0_1 l0_1.length c0_1)] 26 (0, 0))) ∧ Aside0 (wc.heap[aj]? = some (.cells #[(.slice none 0 0), (.slice none 0 0)] 26 (0, 0))) ∧ Aside0 (Below w.heap.size w wc))
 case first =>
  have H := HC3.out; clear HC3; replace H := bI H; obtain ⟨al, aO, H⟩ := H; replace H : (if al = true then ((impl_isRight.f k l0_0 l0_1).bind fun af => (impl_WordPower.j0 k a1 (!af) l0_0 l0_1)) else (impl_WordPower.j0 k a1 true l0_0 l0_1)) = some (r1, r2, r3) := H; have A6 := Aside0.mk aO; clear aO
  by_cases c7 : al = true
  ·subst c7
   have H1 : ((impl_isRight.f k l0_0 l0_1).bind fun af => (impl_WordPower.j0 k a1 (!af) l0_0 l0_1)) = some (r1, r2, r3) := by rw [if_pos rfl] at H; exact H
   clear H; have H := H1; clear H1; replace H := bI H; obtain ⟨af, aP, H⟩ := H; replace H : (impl_WordPower.j0 k a1 (!af) l0_0 l0_1) = some (r1, r2, r3) := H; have A8 := Aside0.mk aP; clear aP; have H' := Aside0.mk H; clear H
   go_wp2_with (first | ((with_reducible refine gate_callee (f := 31) rfl ?_); refine gl_ (some 7) Try.func31 #[.int .i64 a1, .int .i64 1, .int .i64 40] ?_; (with_reducible refine (impl_inRange.calls a1 1 40 true _ A6.out).mono ?_); rintro e w' ⟨rfl, ⟨nd, rfl⟩⟩; refine ⟨_, rfl, ?_⟩; obtain ⟨bs, bt⟩ := nn ac; obtain ⟨ay, az, aA, aB⟩ := cz2 aa) | (go_at_call 23; (with_reducible refine (impl_isRight.calls k _ _ l0_0 _ _ l0_1 af _ ?side1 ?side2 ?side3 ?side4 A8.out).mono ?_); (case side1 => repeat (first | exact (Kd.C_below HR0_0.out (zS HB.out)) | (with_reducible refine Kd.C_alloc ?_ _) | (with_reducible refine Kd.C_drewN ?_ _) | (with_reducible refine Kd.C_drew ?_))); (case side2 => exact HC0_0.out); (case side3 => repeat (first | exact (Kd.C_below HR0_1.out (zS HB.out)) | (with_reducible refine Kd.C_alloc ?_ _) | (with_reducible refine Kd.C_drewN ?_ _) | (with_reducible refine Kd.C_drew ?_))); (case side4 => exact HC0_1.out); rintro e bz ⟨rfl, hb⟩; replace aa := xB aa hb; replace ab := xB ab hb; replace HB := xS HB hb; (try clear hb); (try clear hb2); (try clear hk); (try clear hi)))
   go_meet
   case rel => exact ⟨_, (!af), vv, H', ⟨by first | omega | exact Nat.le_refl _⟩, ⟨zB aa.out⟩, ⟨zB ab.out⟩, ⟨zS HB.out⟩⟩
  ·replace c7 := Bool.eq_false_iff.mpr c7; subst c7
   have H1 : (impl_WordPower.j0 k a1 true l0_0 l0_1) = some (r1, r2, r3) := by rw [if_neg (show ¬ (false = true) by decide)] at H; exact H
   clear H; have H := H1; clear H1; have H' := Aside0.mk H; clear H
   go_wp2_with (first | ((with_reducible refine gate_callee (f := 31) rfl ?_); refine gl_ (some 7) Try.func31 #[.int .i64 a1, .int .i64 1, .int .i64 40] ?_; (with_reducible refine (impl_inRange.calls a1 1 40 false _ A6.out).mono ?_); rintro e w' ⟨rfl, ⟨nd, rfl⟩⟩; refine ⟨_, rfl, ?_⟩))
   go_meet
   case rel => exact ⟨_, (true), vv, H', ⟨by first | omega | exact Nat.le_refl _⟩, ⟨zB aa.out⟩, ⟨zB ab.out⟩, ⟨zS HB.out⟩⟩
 case rest =>
  clear HC3
  try clear p2
  try clear c3
  try clear c7
  try clear c9
  try clear ay az aA aB
  obtain ⟨kq, ak, rfl, HA, HJ2, aa, ab, HB⟩ := hcut
  cases kq with
  | zero => exact absurd HA.out (by simp [impl_WordPower.j0])
  | succ kj2 =>
   have H := HA.out; clear HA; simp only [impl_WordPower.j0] at H
   by_cases av : ak = true
   ·subst av
    have H1 : (some (([] : List Int), ([] : List Int), false)) = some (r1, r2, r3) := by rw [if_pos rfl] at H; exact H
    clear H; have H := H1; clear H1; simp only [Option.some.injEq, Prod.mk.injEq] at H; obtain ⟨rfl, rfl, rfl⟩ := H; obtain ⟨bo, bp⟩ := nn ah; obtain ⟨ba, bb, bc, bd⟩ := cz2 ab
    go_wp2
    refine bodyPost_ret (results_ct rfl _ _ aj 26 #[.slice none 0 0, .slice none 0 0] (0, 0) _ rfl (by (with_reducible repeat (first | refine blk_drewN ?_ _ | refine blk_drew ?_ | refine blk_alloc ?_ _)); refine blk_put (cs := #[.slice none 0 0, .slice none 0 0]) ?_ 1 _ rfl; (with_reducible repeat (first | refine blk_drewN ?_ _ | refine blk_drew ?_ | refine blk_alloc ?_ _)); refine blk_put (cs := #[.slice none 0 0, .slice none 0 0]) ?_ 0 _ rfl; (with_reducible repeat (first | refine blk_drewN ?_ _ | refine blk_drew ?_ | refine blk_alloc ?_ _)); exact ab.out) Try.underlying26 rfl (by kernel_rfl)) rfl ?_; exact ⟨_, _, vw, by first | exact Kd.R_nil _ _ _ _ _ | exact Kd.N_nil _ _ _ _ _ | exact Kd.V_nil _ _ _ _ _ | exact Kd.Q_nil _ _ _ _ _ | exact Kd.S_nil _ _ _ _ _, by first | exact Kd.R_nil _ _ _ _ _ | exact Kd.N_nil _ _ _ _ _ | exact Kd.V_nil _ _ _ _ _ | exact Kd.Q_nil _ _ _ _ _ | exact Kd.S_nil _ _ _ _ _, zS HB.out⟩
   ·replace av := Bool.eq_false_iff.mpr av; subst av
    have H1 : ((slices_Clone_int_int.f l0_0).bind fun ag => ((slices_Repeat_int_int.f l0_1 a1).bind fun ae => ((impl_rightOr.f kj2 ag ae true).bind fun bt383 => (some (bt383.1, bt383.2.1, bt383.2.2))))) = some (r1, r2, r3) := by rw [if_neg (show ¬ (false = true) by decide)] at H; exact H
    clear H; have H := H1; clear H1; replace H := bI H; obtain ⟨ag, aC, H⟩ := H; replace H : ((slices_Repeat_int_int.f l0_1 a1).bind fun ae => ((impl_rightOr.f kj2 ag ae true).bind fun bt383 => (some (bt383.1, bt383.2.1, bt383.2.2)))) = some (r1, r2, r3) := H; have bj := Aside0.mk aC; clear aC; replace H := bI H; obtain ⟨ae, aD, H⟩ := H; replace H : ((impl_rightOr.f kj2 ag ae true).bind fun bt383 => (some (bt383.1, bt383.2.1, bt383.2.2))) = some (r1, r2, r3) := H; have bk := Aside0.mk aD; clear aD; replace H := bI H; obtain ⟨⟨an, ao, aE⟩, aF, H⟩ := H; replace H : (some (an, ao, aE)) = some (r1, r2, r3) := H; have bl := Aside0.mk aF; clear aF; simp only [Option.some.injEq, Prod.mk.injEq] at H; obtain ⟨rfl, rfl, rfl⟩ := H
    try go_wp2
    replace aa := Aside0.mk (blk_drew aa.out); replace ab := Aside0.mk (blk_drew ab.out); replace HB := Aside0.mk (below_drew1 HB.out); refine start_ (n := 13) (S := fun w' => w'.cell? ⟨am, 0, none⟩ = some (.slice A0_0 l0_0.length c0_0) ∧ w'.cell? ⟨am, 1, none⟩ = some (.slice A0_1 l0_1.length c0_1)) (ds := []) bl0 (by kernel_rfl) rfl rfl ⟨b1 aa 0, b1 aa 1⟩ (fun hHeld => ?_); refine with_tabW impl_WordPower.tab3 impl_WordPower.bits3 (fun HT_ HW_ => ?_); generalize wc.drew = bA at aa ab HB hHeld ⊢
    refine pv_ 0 (some 15) bl1 HT_ ?_
    refine pv_ 3 (some 18) bl2 HT_ ?_
    refine pv_ 5 (some 20) bl3 HT_ ?_
    refine tk_ 1 (some 16) bl4 HT_ HW_ hHeld ?_
    refine tk_ 4 (some 19) bl5 HT_ HW_ hHeld ?_
    refine on_ 2 (some 17) bl6 HT_ (fun K hK => ?_); refine gs_ Try.func24 #[.slice A0_0 l0_0.length c0_0] ?_
    with_reducible refine (slices_Clone_int_int.calls _ _ l0_0 ag _ ?side1 ?side2 bj.out).mono ?_
    (case side1 => exact zC (Kd.C_below HR0_0.out HB.out))
    (case side2 => exact HC0_0.out)
    rintro e bB ⟨bu, rfl, ho0, hb⟩; refine ⟨_, rfl, ?_⟩; have ad := rW0 ho0 HB; replace aa := xB aa hb; replace ab := xB ab hb; replace HB := xS HB hb
    (try clear hb)
    (try clear hb2)
    (try clear hk)
    (try clear hi)
    (try clear ho0)
    refine hK.out _ _ ⟨b1 aa 0, b1 aa 1⟩ (fun hHeld => ?_); clear hK K; refine nr_ (some 17) ?_
    refine on_ 6 (some 21) bl7 HT_ (fun K hK => ?_); refine gs_ Try.func33 #[.slice A0_1 l0_1.length c0_1, .int .i64 a1] ?_
    with_reducible refine (slices_Repeat_int_int.calls _ _ l0_1 a1 ae _ ?side1 ?side2 bk.out).mono ?_
    (case side1 => exact zC (Kd.C_below HR0_1.out HB.out))
    (case side2 => exact HC0_1.out)
    rintro e bC ⟨bv, rfl, ho0, hb⟩; refine ⟨_, rfl, ?_⟩; have ai := rW1 ho0 ad HB; replace ad := xE ad ho0 hb; replace aa := xB aa hb; replace ab := xB ab hb; replace HB := xS HB hb
    (try clear hb)
    (try clear hb2)
    (try clear hk)
    (try clear hi)
    (try clear ho0)
    obtain ⟨ap, aq, aG⟩ := Kd.R_slice ai.out
    (first | subst aG | (injection aG with f1_ f2_ f3_; have f4_ := f1_.symm; have f5_ := f3_.symm; clear f1_ f2_ f3_; subst f4_; subst f5_))
    obtain ⟨ar, au, aH⟩ := Kd.R_slice ad.out
    (first | subst aH | (injection aH with f1_ f2_ f3_; have f4_ := f1_.symm; have f5_ := f3_.symm; clear f1_ f2_ f3_; subst f4_; subst f5_))
    refine hK.out _ _ ⟨b1 aa 0, b1 aa 1⟩ (fun hHeld => ?_); clear hK K; refine nr_ (some 21) ?_
    refine pv_ 7 (some 22) bl8 HT_ ?_
    refine on_ 8 (some 23) bl9 HT_ (fun K hK => ?_); refine gs_ Try.func32 #[.agg #[.slice ar ag.length au, .slice ap ae.length aq], .bool true] ?_
    with_reducible refine (impl_rightOr.calls kj2 (fun k_ => some k_ = (.slice ar ag.length au : Value).ownBlock) (.slice ar ag.length au) ag (fun k_ => some k_ = (.slice ap ae.length aq : Value).ownBlock) (.slice ap ae.length aq) ae true an ao aE w _ ?side1 ?side2 ?side3 ?side4 ?side5 bl.out).mono ?_
    (case side1 => repeat (first | (with_reducible first | exact HB.out | apply below_alloc | apply pw_below_drewN | apply below_drew1 | refine below_set ?_ aM.out | refine below_set ?_ aN.out) | exact HB.out))
    (case side2 => exact Kd.R_tight rfl ad.out)
    (case side3 => exact fun k_ e_ => (ad.out.1 k_ e_.symm).2)
    (case side4 => exact Kd.R_tight rfl ai.out)
    (case side5 => exact fun k_ e_ => (ai.out.1 k_ e_.symm).2)
    rintro e aQ ⟨aW, aX, rfl, ho0, ho1, hb, hkp⟩; refine ⟨_, rfl, ?_⟩; have aR := Aside0.mk (blk_kept (zB aa.out) hkp (fun hs_ => Or.elim hs_ (fun e_ => (fun e_ => (Kd.R_ne ad.out aa.out (by decide)) e_) e_) (fun e_ => (fun e_ => (Kd.R_ne ai.out aa.out (by decide)) e_) e_))); have aS := Aside0.mk (blk_kept (zB ab.out) hkp (fun hs_ => Or.elim hs_ (fun e_ => (fun e_ => (Kd.R_ne ad.out ab.out (by decide)) e_) e_) (fun e_ => (fun e_ => (Kd.R_ne ai.out ab.out (by decide)) e_) e_))); have aT := Aside0.mk (Kd.R_mono (ok' := fun k_ => some k_ ≠ (aX : Value).ownBlock) ho0 (fun k_ hk_ => hk_.2)); have aU := Aside0.mk (Kd.R_mono (ok' := fun k_ => some k_ ≠ (aW : Value).ownBlock) ho1 (fun k_ hk_ => hk_.2)); have aV := Aside0.mk (hb); clear aa; clear ab; clear HB; clear ad; clear ai; have aa := aR; have ab := aS; have aw := aT; have ax := aU; have HB := aV; clear aR aS aT aU aV
    (try clear hb)
    (try clear hkp)
    (try clear ho0)
    (try clear ho1)
    obtain ⟨aI, aJ, aK⟩ := Kd.R_slice aw.out
    (first | subst aK | (injection aK with f1_ f2_ f3_; have f4_ := f1_.symm; have f5_ := f3_.symm; clear f1_ f2_ f3_; subst f4_; subst f5_))
    obtain ⟨aY, aZ, aL⟩ := Kd.R_slice ax.out
    (first | subst aL | (injection aL with f1_ f2_ f3_; have f4_ := f1_.symm; have f5_ := f3_.symm; clear f1_ f2_ f3_; subst f4_; subst f5_))
    refine hK.out _ _ ⟨b1 aa 0, b1 aa 1⟩ (fun hHeld => ?_); clear hK K; refine nr_ (some 23) ?_
    refine pv_ 9 (some 24) bl10 HT_ ?_
    refine pv_ 10 (some 25) bl11 HT_ ?_
    refine on_ 11 (none) bl12 HT_ (fun K hK => ?_); have bw : aQ.cell? ⟨aj, 0, none⟩ = some (.slice none 0 0) := b1 ab 0; have bq := blk_frozen ab.out 0; have be := ac.out; have bf := ah.out; have bx : aQ.cell? ⟨aj, 1, none⟩ = some (.slice none 0 0) := b1 ab 1; have br := blk_frozen ab.out 1; have bg := ac.out; have bh := ah.out; refine skip_ (w1 := ?_) (by rfl) rfl ?_ ?_; rotate_left
    ·go_simp; rfl
    refine hK.out _ _ ⟨(cf2 (hHeld.1) ac.out), (cf2 (hHeld.2) ac.out)⟩ (fun hHeld => ?_); clear hK K
    refine pv_ 12 (some 5) bl13 HT_ ?_
    refine done_ (done_of HT_.out (by kernel_rfl)) ?_
    try go_wp2
    refine bodyPost_ret (results_ct rfl _ _ aj 26 #[.slice aI an.length aJ, .slice aY ao.length aZ] (0, 0) _ rfl (by (with_reducible repeat (first | refine blk_drewN ?_ _ | refine blk_drew ?_ | refine blk_alloc ?_ _)); refine blk_put (cs := #[.slice aI an.length aJ, .slice none 0 0]) ?_ 1 _ rfl; (with_reducible repeat (first | refine blk_drewN ?_ _ | refine blk_drew ?_ | refine blk_alloc ?_ _)); refine blk_put (cs := #[.slice none 0 0, .slice none 0 0]) ?_ 0 _ rfl; (with_reducible repeat (first | refine blk_drewN ?_ _ | refine blk_drew ?_ | refine blk_alloc ?_ _)); exact ab.out) Try.underlying26 rfl (by kernel_rfl)) rfl ?_; exact ⟨_, _, vw, rM (Aside0.mk (yF2 aw ab)) (fun _ hk => hk.1), by (with_reducible repeat (first | apply Kd.R_alloc | apply Kd.R_drewN | apply Kd.R_drew)); exact Kd.R_mono (yF2 ax ab) (fun _ hk => hk.1), zS HB.out⟩

section
open Go.Proofs.Ytbdcchbhelehcaa.Short2.T
abbrev impl_WordTurn.bl0 : Array Bool := #[f, f, f, f, f, f, f, f, f, f, f, f, f, f, f, f, f]
abbrev impl_WordTurn.bl1 : Array Bool := #[t, f, f, f, f, f, f, f, f, f, f, f, f, f, f, f, f]
abbrev impl_WordTurn.bl2 : Array Bool := #[t, f, t, f, f, f, f, f, f, f, f, f, f, f, f, f, f]
abbrev impl_WordTurn.bl3 : Array Bool := #[t, f, t, f, f, t, f, f, f, f, f, f, f, f, f, f, f]
abbrev impl_WordTurn.bl4 : Array Bool := #[t, f, t, f, f, t, f, f, t, f, f, f, f, f, f, f, f]
abbrev impl_WordTurn.bl5 : Array Bool := #[t, t, t, f, f, t, f, f, t, f, f, f, f, f, f, f, f]
abbrev impl_WordTurn.bl6 : Array Bool := #[t, t, t, f, f, t, t, f, t, f, f, f, f, f, f, f, f]
abbrev impl_WordTurn.bl7 : Array Bool := #[t, t, t, f, f, t, t, t, t, f, f, f, f, f, f, f, f]
abbrev impl_WordTurn.bl8 : Array Bool := #[t, t, t, t, t, t, t, t, t, t, f, f, f, f, f, f, f]
abbrev impl_WordTurn.bl9 : Array Bool := #[t, t, t, t, f, t, t, t, t, f, f, f, f, f, f, f, f]
abbrev impl_WordTurn.bl10 : Array Bool := #[t, t, t, f, f, t, t, t, t, t, f, f, f, f, f, f, f]
abbrev impl_WordTurn.bl11 : Array Bool := #[t, t, t, t, t, t, t, t, t, f, f, f, f, f, f, f, f]
abbrev impl_WordTurn.bl12 : Array Bool := #[t, t, t, t, f, t, t, t, t, t, f, f, f, f, f, f, f]
abbrev impl_WordTurn.bl13 : Array Bool := #[t, t, t, t, t, t, t, t, t, t, t, f, f, f, f, f, f]
abbrev impl_WordTurn.bl14 : Array Bool := #[t, t, t, t, t, t, t, t, t, t, t, t, f, f, f, f, f]
abbrev impl_WordTurn.bl15 : Array Bool := #[t, t, t, t, t, t, t, t, t, t, t, t, t, f, f, f, f]
abbrev impl_WordTurn.bl16 : Array Bool := #[t, t, t, t, t, t, t, t, t, t, t, t, t, t, f, f, f]
abbrev impl_WordTurn.bl17 : Array Bool := #[t, t, t, t, t, t, t, t, t, t, t, t, t, t, t, f, f]
abbrev impl_WordTurn.bl18 : Array Bool := #[t, t, t, t, t, t, t, t, t, t, t, t, t, t, t, t, f]
abbrev impl_WordTurn.bl19 : Array Bool := #[t, t, t, t, t, t, t, t, t, t, t, t, t, t, t, t, t]
end
/-! ### impl_WordTurn: function 11 -/
def impl_WordTurn.f (k : Nat) (l0_0 : List Int) (l0_1 : List Int) : Option (List Int × List Int × Bool) := (impl_isRight.f k l0_0 l0_1).bind fun t392 => (if t392 = true then (if 1 ≤ (l0_1.length : Int) then ((some (l0_1.take 1 : List Int)).bind fun y393 => ((slices_Concat_int_int.f k (([l0_0, y393] : List (List Int)))).bind fun t401 => ((slices_Concat_int_int.f k (([(l0_1.drop 1), y393] : List (List Int)))).bind fun t412 => ((impl_rightOr.f k t401 t412 true).bind fun bt415 => (some (bt415.1, bt415.2.1, bt415.2.2)))))) else (none)) else (some (([] : List Int), ([] : List Int), false)))
theorem impl_WordTurn.mono : ∀ a0 a1 k, LeO (impl_WordTurn.f k a0 a1) (impl_WordTurn.f (k + 1) a0 a1) := by
 intro a0 a1 k
 unfold impl_WordTurn.f
 repeat' first
   | (with_reducible exact impl_isRight.mono _ _ _)
   | (with_reducible exact impl_rightOr.mono _ _ _ _)
   | (with_reducible exact slices_Concat_int_int.mono _ _)
   | (with_reducible exact LeO.refl _)
   | (with_reducible exact LeO.none _)
   | (with_reducible refine LeO.ite ?_ ?_)
   | (with_reducible refine LeO.bind ?_ (fun _ => ?_))
   | exact impl_isRight.mono _ _ _
   | exact impl_rightOr.mono _ _ _ _
   | exact slices_Concat_int_int.mono _ _
   | exact LeO.none _
   | refine LeO.ite ?_ ?_
   | refine LeO.bind ?_ (fun _ => ?_)
def impl_WordTurn.T4 : Bool × List (List Nat × List Nat) := (true, [([], []), ([0], [0]), ([], []), ([1, 2], [1, 2]), ([3], [3]), ([], []), ([5], [5]), ([6], [6]), ([], []), ([7, 8], [7, 8]), ([9, 4], [9]), ([4, 10], [4, 10]), ([11, 10], [11]), ([12], [12]), ([12], [12]), ([13, 12, 0, 1, 2, 3, 4, 5, 6, 7, 8, 9, 10, 11, 12, 13, 14], [13]), ([14, 15, 0, 1, 2, 3, 4, 5, 6, 7, 8, 9, 10, 11, 12, 13, 14, 15], [14])])
def impl_WordTurn.B4 : List Nat := [0, 1, 0, 7, 15, 0, 32, 96, 0, 480, 1023, 2047, 4095, 8191, 8191, 32767, 65535]
theorem impl_WordTurn.tab4 : rtab .any (opsOf Try.f11 4) = impl_WordTurn.T4 := by kernel_rfl
theorem impl_WordTurn.bits4 : waitsOk impl_WordTurn.T4.2 impl_WordTurn.B4 = true := by kernel_rfl
open Go.Proofs.Ytbdcchbhelehcaa.Short2 in
set_option maxHeartbeats 8000000 in
set_option maxRecDepth 100000 in
theorem impl_WordTurn.calls (k : Nat) (P0_0_ : Nat → Prop) (A0_0 : Option Addr) (c0_0 : Nat) (l0_0 : List Int) (P0_1_ : Nat → Prop) (A0_1 : Option Addr) (c0_1 : Nat) (l0_1 : List Int) (r1 : List Int) (r2 : List Int) (r3 : Bool) (w : World) (hs0_0 : Kd.V (Kd.int .i64) 3 w w.heap.size (fun k_ => P0_0_ k_) (.slice A0_0 l0_0.length c0_0) l0_0) (hs0_1 : Kd.V (Kd.int .i64) 3 w w.heap.size (fun k_ => P0_1_ k_) (.slice A0_1 l0_1.length c0_1) l0_1) (h : impl_WordTurn.f k l0_0 l0_1 = some (r1, r2, r3)) :
  Calls Try.prog 11 #[.agg #[.slice A0_0 l0_0.length c0_0, .slice A0_1 l0_1.length c0_1]] w fun e w' => ∃ v0_ v1_ : Value, e = .returned (.tuple #[.agg #[v0_, v1_], .bool r3]) ∧ Kd.R (Kd.int .i64) 3 w' w.heap.size (fun k_ => (w.heap.size ≤ k_) ∧ some k_ ≠ (v1_ : Value).ownBlock) v0_ r1 ∧ Kd.R (Kd.int .i64) 3 w' w.heap.size (fun k_ => (w.heap.size ≤ k_) ∧ some k_ ≠ (v0_ : Value).ownBlock) v1_ r2 ∧ Below w.heap.size w w' := by
 have hu26 := Try.underlying26; have HO0_0 := Aside0.mk (show Kd.V (Kd.int .i64) 3 w w.heap.size (fun k_ => ((P0_0_ k_ ∨ P0_1_ k_) ∨ w.heap.size ≤ k_)) (.slice A0_0 l0_0.length c0_0) l0_0 from Kd.V_mono hs0_0 (fun k_ hk => .inl (.inl hk))); have HO0_1 := Aside0.mk (show Kd.V (Kd.int .i64) 3 w w.heap.size (fun k_ => ((P0_0_ k_ ∨ P0_1_ k_) ∨ w.heap.size ≤ k_)) (.slice A0_1 l0_1.length c0_1) l0_1 from Kd.V_mono hs0_1 (fun k_ hk => .inl (.inr hk))); have HB := Aside0.mk (Below.refl w.heap.size w); have H : ((impl_isRight.f k l0_0 l0_1).bind fun aP => (if aP = true then (if 1 ≤ (l0_1.length : Int) then ((some (l0_1.take 1 : List Int)).bind fun af => ((slices_Concat_int_int.f k (([l0_0, af] : List (List Int)))).bind fun am => ((slices_Concat_int_int.f k (([(l0_1.drop 1), af] : List (List Int)))).bind fun an => ((impl_rightOr.f k am an true).bind fun bt415 => (some (bt415.1, bt415.2.1, bt415.2.2)))))) else (none)) else (some (([] : List Int), ([] : List Int), false)))) = some (r1, r2, r3) := h; clear h; replace H := bI H; obtain ⟨aP, bB, H⟩ := H; replace H : (if aP = true then (if 1 ≤ (l0_1.length : Int) then ((some (l0_1.take 1 : List Int)).bind fun af => ((slices_Concat_int_int.f k (([l0_0, af] : List (List Int)))).bind fun am => ((slices_Concat_int_int.f k (([(l0_1.drop 1), af] : List (List Int)))).bind fun an => ((impl_rightOr.f k am an true).bind fun bt415 => (some (bt415.1, bt415.2.1, bt415.2.2)))))) else (none)) else (some (([] : List Int), ([] : List Int), false))) = some (r1, r2, r3) := H; have A2 := Aside0.mk bB; clear bB
 by_cases c3 : aP = true
 ·subst c3
  have H1 : (if 1 ≤ (l0_1.length : Int) then ((some (l0_1.take 1 : List Int)).bind fun af => ((slices_Concat_int_int.f k (([l0_0, af] : List (List Int)))).bind fun am => ((slices_Concat_int_int.f k (([(l0_1.drop 1), af] : List (List Int)))).bind fun an => ((impl_rightOr.f k am an true).bind fun bt415 => (some (bt415.1, bt415.2.1, bt415.2.2)))))) else (none)) = some (r1, r2, r3) := by rw [if_pos rfl] at H; exact H
  clear H; have H := H1; clear H1
  by_cases c4 : 1 ≤ (l0_1.length : Int)
  ·rw [if_pos c4] at H; have co := eq_true c4; have cp : decide (1 ≤ (l0_1.length : Int)) = true := decide_eq_true c4; clear c4; obtain ⟨af, aC⟩ : ∃ y_ : List Int, y_ = (l0_1.take 1) := ⟨_, rfl⟩
   replace H : ((slices_Concat_int_int.f k (([l0_0, af] : List (List Int)))).bind fun am => ((slices_Concat_int_int.f k (([(l0_1.drop 1), af] : List (List Int)))).bind fun an => ((impl_rightOr.f k am an true).bind fun bt415 => (some (bt415.1, bt415.2.1, bt415.2.2))))) = some (r1, r2, r3) := by first | (rw [aC]; with_reducible exact H) | (have H2_ := (Option.bind_some _ _).symm.trans H; rw [aC]; with_reducible exact H2_) | (have H2_ := (Option.bind_some _ _).symm.trans H; with_reducible exact H2_) | with_reducible exact H | (rw [aC]; exact H) | exact H
   have bh := Aside0.mk aC; clear aC; obtain ⟨ak, aD⟩ : ∃ y_ : List (List Int), y_ = (([l0_0, af] : List (List Int))) := ⟨_, rfl⟩
   replace H : ((slices_Concat_int_int.f k ak).bind fun am => ((slices_Concat_int_int.f k (([(l0_1.drop 1), af] : List (List Int)))).bind fun an => ((impl_rightOr.f k am an true).bind fun bt415 => (some (bt415.1, bt415.2.1, bt415.2.2))))) = some (r1, r2, r3) := by first | (rw [aD]; with_reducible exact H) | (have H2_ := (Option.bind_some _ _).symm.trans H; rw [aD]; with_reducible exact H2_) | (have H2_ := (Option.bind_some _ _).symm.trans H; with_reducible exact H2_) | with_reducible exact H | (rw [aD]; exact H) | exact H
   have aK := Aside0.mk aD; clear aD; replace H := bI H; obtain ⟨am, bC, H⟩ := H; replace H : ((slices_Concat_int_int.f k (([(l0_1.drop 1), af] : List (List Int)))).bind fun an => ((impl_rightOr.f k am an true).bind fun bt415 => (some (bt415.1, bt415.2.1, bt415.2.2)))) = some (r1, r2, r3) := H; have A5 := Aside0.mk bC; clear bC; have cq := eq_true (oD : 1 ≤ (l0_1.length : Int)); obtain ⟨al, aE⟩ : ∃ y_ : List Int, y_ = (l0_1.drop 1) := ⟨_, rfl⟩
   replace H : ((slices_Concat_int_int.f k (([al, af] : List (List Int)))).bind fun an => ((impl_rightOr.f k am an true).bind fun bt415 => (some (bt415.1, bt415.2.1, bt415.2.2)))) = some (r1, r2, r3) := by first | (rw [aE]; with_reducible exact H) | (have H2_ := (Option.bind_some _ _).symm.trans H; rw [aE]; with_reducible exact H2_) | (have H2_ := (Option.bind_some _ _).symm.trans H; with_reducible exact H2_) | with_reducible exact H | (rw [aE]; exact H) | exact H
   have bi := Aside0.mk aE; clear aE; obtain ⟨aw, aF⟩ : ∃ y_ : List (List Int), y_ = (([al, af] : List (List Int))) := ⟨_, rfl⟩
   replace H : ((slices_Concat_int_int.f k aw).bind fun an => ((impl_rightOr.f k am an true).bind fun bt415 => (some (bt415.1, bt415.2.1, bt415.2.2)))) = some (r1, r2, r3) := by first | (rw [aF]; with_reducible exact H) | (have H2_ := (Option.bind_some _ _).symm.trans H; rw [aF]; with_reducible exact H2_) | (have H2_ := (Option.bind_some _ _).symm.trans H; with_reducible exact H2_) | with_reducible exact H | (rw [aF]; exact H) | exact H
   have ay := Aside0.mk aF; clear aF; replace H := bI H; obtain ⟨an, bD, H⟩ := H; replace H : ((impl_rightOr.f k am an true).bind fun bt415 => (some (bt415.1, bt415.2.1, bt415.2.2))) = some (r1, r2, r3) := H; have A7 := Aside0.mk bD; clear bD; replace H := bI H; obtain ⟨⟨aQ, bb, bn⟩, bE, H⟩ := H; replace H : (some (aQ, bb, bn)) = some (r1, r2, r3) := H; have A8 := Aside0.mk bE; clear bE; simp only [Option.some.injEq, Prod.mk.injEq] at H; obtain ⟨rfl, rfl, rfl⟩ := H
   go_enter Try.func11, Try.ntmps11
   try go_wp2_with (first | ((with_reducible refine gate_dst (N := 1) rfl ?_); refine bx_ 1 #[.slice A0_0 l0_0.length c0_0, .slice A0_1 l0_1.length c0_1] 26 ?_; intro ab hg w9 hbox hb; replace HO0_0 := Aside0.mk (Kd.V_below (Kd.V_elderB (by (with_reducible repeat (first | apply Kd.V_alloc | apply Kd.V_drewN | apply Kd.V_drew)); exact HO0_0.out) ab (Nat.le_of_eq hg.symm)) hb); replace HO0_1 := Aside0.mk (Kd.V_below (Kd.V_elderB (by (with_reducible repeat (first | apply Kd.V_alloc | apply Kd.V_drewN | apply Kd.V_drew)); exact HO0_1.out) ab (Nat.le_of_eq hg.symm)) hb); have aa := Aside0.mk (hbox); have bz := xG HB hg; have bj := xG HB hg; replace HB := xS HB hb; clear hb hbox hg) | ((with_reducible refine gate_dst (N := 2) rfl ?_); refine bx_ 2 #[.slice none 0 0, .slice none 0 0] 26 ?_; intro ac hg cv hbox hb; replace HO0_0 := Aside0.mk (Kd.V_below (Kd.V_elderB (by (with_reducible repeat (first | apply Kd.V_alloc | apply Kd.V_drewN | apply Kd.V_drew)); exact HO0_0.out) ac (Nat.le_of_eq hg.symm)) hb); replace HO0_1 := Aside0.mk (Kd.V_below (Kd.V_elderB (by (with_reducible repeat (first | apply Kd.V_alloc | apply Kd.V_drewN | apply Kd.V_drew)); exact HO0_1.out) ac (Nat.le_of_eq hg.symm)) hb); have ad := Aside0.mk (hbox); have bA := xG HB hg; have bk := xG HB hg; replace HB := xS HB hb; have ao := xN aa hg; have ax := xM aa hg; replace aa := xB aa hb; clear hb hbox hg; obtain ⟨ci, cj⟩ := nn ao; obtain ⟨bK, bL, bM, bN⟩ := cz2 aa) | ((with_reducible refine gate_callee (f := 23) rfl ?_); refine gl_ (some 6) Try.func23 #[.agg #[.slice A0_0 l0_0.length c0_0, .slice A0_1 l0_1.length c0_1]] ?_; (with_reducible refine (impl_isRight.calls k _ _ l0_0 _ _ l0_1 true _ ?side1 ?side2 ?side3 ?side4 A2.out).mono ?_); (case side1 => exact zC (Kd.V_reads' HO0_0.out).2.2); (case side2 => exact (Kd.V_reads' HO0_0.out).2.1); (case side3 => exact zC (Kd.V_reads' HO0_1.out).2.2); (case side4 => exact (Kd.V_reads' HO0_1.out).2.1); rintro e ce ⟨rfl, hb⟩; refine ⟨_, rfl, ?_⟩; replace HO0_0 := Aside0.mk (Kd.V_below (by (with_reducible repeat (first | apply Kd.V_alloc | apply Kd.V_drewN | apply Kd.V_drew)); exact HO0_0.out) hb); replace HO0_1 := Aside0.mk (Kd.V_below (by (with_reducible repeat (first | apply Kd.V_alloc | apply Kd.V_drewN | apply Kd.V_drew)); exact HO0_1.out) hb); replace aa := xB aa hb; replace ad := xB ad hb; replace HB := xS HB hb; (try clear hb); (try clear hb2); (try clear hk); (try clear hi); obtain ⟨bO, bP, bQ, bR⟩ := cz2 aa; have q15 : (1 : Int) ≤ ((l0_1.length : Int) : Int) := oD; obtain ⟨i015, hi015, _, hsz15, _⟩ := info_parts info3; have hroom15 : l0_1.length ≤ c0_1 := (Kd.V_reads' HO0_1.out).2.1; have hC15 : Kd.F (Kd.int .i64) _ _ A0_1 l0_1.length l0_1 := (Kd.V_at (base := w.heap.size) HO0_1.out).2.2; have hcut15 := cut_to (P := Try.prog) 24 3 .i64 Try.underlying24 hi015 A0_1 l0_1.length c0_1 1 (by omega) q15 hroom15; have hr15 := Kd.F_take (m := 1) hC15 (by omega); have bc : af.length = (1 : Int).toNat := (by rw [bh.out, List.length_take]; omega); rw [← bh.out] at hr15; rw [← bc] at hcut15; have ae := Aside0.mk (show Kd.V (Kd.int .i64) 3 _ w.heap.size _ (.slice A0_1 af.length c0_1) af from Kd.V_mk (by omega) hr15); have HC397 := Aside0.mk (show af.length ≤ c0_1 from by omega); clear hr15 hC15 hroom15 hi015 hsz15; have KY15 := Aside0.mk bc; clear bc; replace q15 := eq_true q15))
   replace HO0_0 := Aside0.mk (Kd.V_drew HO0_0.out); replace HO0_1 := Aside0.mk (Kd.V_drew HO0_1.out); replace ae := Aside0.mk (Kd.V_drew ae.out); replace aa := Aside0.mk (blk_drew aa.out); replace ad := Aside0.mk (blk_drew ad.out); replace HB := Aside0.mk (below_drew1 HB.out); have q17 : (1 : Int) ≤ ((l0_1.length : Int) : Int) := oD; obtain ⟨i017, hi017, _, hsz17, _⟩ := info_parts info3; have hroom17 : l0_1.length ≤ c0_1 := (Kd.V_reads' HO0_1.out).2.1; have hC17 : Kd.F (Kd.int .i64) _ _ A0_1 l0_1.length l0_1 := (Kd.V_at (base := w.heap.size) HO0_1.out).2.2; have hcut17 := cut_from (P := Try.prog) 24 3 .i64 Try.underlying24 hi017 1 hsz17 A0_1 l0_1.length c0_1 1 (by omega) q17; have hr17 := Kd.F_cut (m := (1 : Int).toNat) (c := c0_1) hC17 (by omega) hroom17; obtain ⟨aG, hA17⟩ : ∃ A1, A1 = (if c0_1 = (1 : Int).toNat then A0_1 else (A0_1 : Option Addr).map (·.add ((1 : Int).toNat * 1))) := ⟨_, rfl⟩; obtain ⟨aH, hc17⟩ : ∃ c1, c1 = c0_1 - (1 : Int).toNat := ⟨_, rfl⟩; have aL : al.length = l0_1.length - (1 : Int).toNat := (by rw [bi.out, List.length_drop] <;> omega); rw [show (l0_1).drop (1 : Int).toNat = al from bi.out.symm] at hr17; replace hr17 : Kd.F (Kd.int .i64) _ _ aG al.length al := (by rw [hA17]; exact hr17); rw [← aL, ← hA17, ← hc17] at hcut17; have ag := Aside0.mk (show Kd.V (Kd.int .i64) 3 _ w.heap.size _ (.slice aG al.length aH) al from Kd.V_mk (by rw [aL, hc17]; exact Nat.sub_le_sub_right hroom17 _) hr17); have HC408 := Aside0.mk (show al.length ≤ aH from by rw [aL, hc17]; exact Nat.sub_le_sub_right hroom17 _); clear hr17 hC17 hroom17 hi017 hsz17 hc17; have KY17 := Aside0.mk aL; have KA17 := Aside0.mk hA17; clear aL hA17; replace q17 := eq_true q17; refine start_ (n := 17) (S := fun w' => w'.cell? ⟨ab, 0, none⟩ = some (.slice A0_0 l0_0.length c0_0) ∧ w'.cell? ⟨ab, 1, none⟩ = some (.slice A0_1 l0_1.length c0_1)) (ds := []) bl0 (by kernel_rfl) rfl rfl ⟨b1 aa 0, b1 aa 1⟩ (fun hHeld => ?_); refine with_tabW impl_WordTurn.tab4 impl_WordTurn.bits4 (fun HT_ HW_ => ?_); generalize ce.drew = bF at HO0_0 HO0_1 ae aa ad HB ag hHeld ⊢
   refine pv_ 0 (some 12) bl1 HT_ ?_
   refine pv_ 2 (some 14) bl2 HT_ ?_
   refine pv_ 5 (some 17) bl3 HT_ ?_
   refine pv_ 8 (some 20) bl4 HT_ ?_
   refine tk_ 1 (some 13) bl5 HT_ HW_ hHeld ?_
   refine tk_ 6 (some 18) bl6 HT_ HW_ hHeld ?_
   refine pv_ 7 (some 19) bl7 HT_ ?_
   refine join_ (σ := Value × Value × Value) 7 bl8 (fun s_ => [(15, s_.1), (16, s_.2.1), (21, s_.2.2)]) (fun s_ w' => (w'.cell? ⟨ab, 0, none⟩ = some (.slice A0_0 l0_0.length c0_0) ∧ w'.cell? ⟨ab, 1, none⟩ = some (.slice A0_1 l0_1.length c0_1)) ∧ (Kd.V (Kd.int .i64) 3 w' w.heap.size (fun k_ => ((P0_0_ k_ ∨ P0_1_ k_) ∨ w.heap.size ≤ k_) ∧ some k_ ≠ (s_.1 : Value).ownBlock ∧ some k_ ≠ (s_.2.1 : Value).ownBlock ∧ some k_ ≠ (s_.2.2 : Value).ownBlock ∧ k_ ≠ ab ∧ k_ ≠ ac) (.slice A0_0 l0_0.length c0_0) l0_0) ∧ (Kd.V (Kd.int .i64) 3 w' w.heap.size (fun k_ => ((P0_0_ k_ ∨ P0_1_ k_) ∨ w.heap.size ≤ k_) ∧ some k_ ≠ (s_.1 : Value).ownBlock ∧ some k_ ≠ (s_.2.1 : Value).ownBlock ∧ some k_ ≠ (s_.2.2 : Value).ownBlock ∧ k_ ≠ ab ∧ k_ ≠ ac) (.slice A0_1 l0_1.length c0_1) l0_1) ∧ (Kd.V (Kd.int .i64) 3 w' w.heap.size (fun k_ => ((P0_0_ k_ ∨ P0_1_ k_) ∨ w.heap.size ≤ k_) ∧ some k_ ≠ (s_.1 : Value).ownBlock ∧ some k_ ≠ (s_.2.1 : Value).ownBlock ∧ some k_ ≠ (s_.2.2 : Value).ownBlock ∧ k_ ≠ ab ∧ k_ ≠ ac) (.slice A0_1 af.length c0_1) af) ∧ (Kd.N (Kd.slice 3 (Kd.int .i64)) 24 w' w.heap.size (fun k_ => ((P0_0_ k_ ∨ P0_1_ k_) ∨ w.heap.size ≤ k_) ∧ some k_ ≠ (s_.2.1 : Value).ownBlock ∧ some k_ ≠ (s_.2.2 : Value).ownBlock ∧ k_ ≠ ab ∧ k_ ≠ ac) s_.1 ak) ∧ (Kd.R (Kd.int .i64) 3 w' w.heap.size (fun k_ => (w.heap.size ≤ k_)) s_.2.1 am) ∧ (Kd.V (Kd.int .i64) 3 w' w.heap.size (fun k_ => ((P0_0_ k_ ∨ P0_1_ k_) ∨ w.heap.size ≤ k_) ∧ some k_ ≠ (s_.1 : Value).ownBlock ∧ some k_ ≠ (s_.2.1 : Value).ownBlock ∧ some k_ ≠ (s_.2.2 : Value).ownBlock ∧ k_ ≠ ab ∧ k_ ≠ ac) (.slice aG al.length aH) al) ∧ (Kd.N (Kd.slice 3 (Kd.int .i64)) 24 w' w.heap.size (fun k_ => ((P0_0_ k_ ∨ P0_1_ k_) ∨ w.heap.size ≤ k_) ∧ some k_ ≠ (s_.1 : Value).ownBlock ∧ some k_ ≠ (s_.2.1 : Value).ownBlock ∧ k_ ≠ ab ∧ k_ ≠ ac) s_.2.2 aw) ∧ (w'.heap[ab]? = some (.cells #[.slice A0_0 l0_0.length c0_0, .slice A0_1 l0_1.length c0_1] 26 (0, 0))) ∧ (w'.heap[ac]? = some (.cells #[.slice none 0 0, .slice none 0 0] 26 (0, 0))) ∧ (Below w.heap.size w w')) ?_ ?_; rotate_left
   ·intro hCont; refine two_ (i := 3) (j := 9) (Ni := some 15) (Nj := some 21) bl9 bl10 rfl rfl rfl rfl (two_of HT_.out (by kernel_rfl)) (by decide) (by decide) (fun K hK => ?_) (fun K hK => ?_)
    ·skip
     refine Kd.N_lit_step (Kd.slice 3 (Kd.int .i64)) _ 24 ?hg (N' := 15) ?hd (xs := ([l0_0, af] : List (List Int))) (inner := [.slice A0_0 l0_0.length c0_0, .slice A0_1 af.length c0_1]) (ok := (fun k_ => ((P0_0_ k_ ∨ P0_1_ k_) ∨ w.heap.size ≤ k_) ∧ k_ ≠ ab ∧ k_ ≠ ac)) (okp := (fun k_ => ((P0_0_ k_ ∨ P0_1_ k_) ∨ w.heap.size ≤ k_) ∧ k_ ≠ ab ∧ k_ ≠ ac)) ?hr ?hp (fun _ hk => hk) ((show ∀ k_, bF.heap.size ≤ k_ → (fun k_ => ((P0_0_ k_ ∨ P0_1_ k_) ∨ w.heap.size ≤ k_) ∧ k_ ≠ ab ∧ k_ ≠ ac) k_ from fun k_ hk => ⟨(.inr (Nat.le_trans (below_size (zS HB.out)) hk)), Kd.freshB (g := ab) (o := .cells #[.slice A0_0 l0_0.length c0_0, .slice A0_1 l0_1.length c0_1] 26 (0, 0)) (zB aa.out) k_ hk, Kd.freshB (g := ac) (o := .cells #[.slice none 0 0, .slice none 0 0] 26 (0, 0)) (zB ad.out) k_ hk⟩) _ (Nat.le_refl _)) (Below.refl _ _) (Nat.le_refl _) (by simp) ?_; (case hd => rfl); (case hg => rfl); (case hr => first | (go_simp; done) | (go_simp; rfl)); (case hp => exact (Reps.one (show Kd.FK (Kd.slice 3 (Kd.int .i64)) _ _ l0_0 [.slice A0_0 l0_0.length c0_0] from (Kd.FK_slice_mk (Kd.V_reads' (Kd.V_mono (ok' := (fun k_ => ((P0_0_ k_ ∨ P0_1_ k_) ∨ w.heap.size ≤ k_) ∧ k_ ≠ ab ∧ k_ ≠ ac)) (HO0_0.out) (fun k_ hk => ⟨hk.1.1, ⟨hk.1.2, hk.2⟩⟩))).2.1 (Kd.V_F (Kd.V_mono (ok' := (fun k_ => ((P0_0_ k_ ∨ P0_1_ k_) ∨ w.heap.size ≤ k_) ∧ k_ ≠ ab ∧ k_ ≠ ac)) (HO0_0.out) (fun k_ hk => ⟨hk.1.1, ⟨hk.1.2, hk.2⟩⟩))))) (Reps.one (show Kd.FK (Kd.slice 3 (Kd.int .i64)) _ _ af [.slice A0_1 af.length c0_1] from (Kd.FK_slice_mk (Kd.V_reads' (Kd.V_mono (ok' := (fun k_ => ((P0_0_ k_ ∨ P0_1_ k_) ∨ w.heap.size ≤ k_) ∧ k_ ≠ ab ∧ k_ ≠ ac)) (ae.out) (fun k_ hk => ⟨hk.1.1, ⟨hk.1.2, hk.2⟩⟩))).2.1 (Kd.V_F (Kd.V_mono (ok' := (fun k_ => ((P0_0_ k_ ∨ P0_1_ k_) ∨ w.heap.size ≤ k_) ∧ k_ ≠ ab ∧ k_ ≠ ac)) (ae.out) (fun k_ hk => ⟨hk.1.1, ⟨hk.1.2, hk.2⟩⟩))))) (Reps.none _ _))))
     intro az bo ho19 hb hg_ hnew_; clear hg_ hnew_
     (first | rw [← aK.out] at ho19 | (simp only [Int.reduceToNat] at ho19; rw [← aK.out] at ho19))
     replace HO0_0 := Aside0.mk (Kd.V_elder' (by (with_reducible repeat (first | apply Kd.V_alloc | apply Kd.V_drewN | apply Kd.V_drew)); exact HO0_0.out) (Kd.N_base ho19) hb); replace HO0_1 := Aside0.mk (Kd.V_elder' (by (with_reducible repeat (first | apply Kd.V_alloc | apply Kd.V_drewN | apply Kd.V_drew)); exact HO0_1.out) (Kd.N_base ho19) hb); replace ae := Aside0.mk (Kd.V_elder' (by (with_reducible repeat (first | apply Kd.V_alloc | apply Kd.V_drewN | apply Kd.V_drew)); exact ae.out) (Kd.N_base ho19) hb); replace ag := Aside0.mk (Kd.V_elder' (by (with_reducible repeat (first | apply Kd.V_alloc | apply Kd.V_drewN | apply Kd.V_drew)); exact ag.out) (Kd.N_base ho19) hb); have ah := Aside0.mk (Kd.N_lower ho19 (below_size (zS HB.out))); replace aa := xB aa hb; replace ad := xB ad hb; replace HB := xS HB hb; clear hb ho19; obtain ⟨ap, aq, bp⟩ := Kd.N_slice ah.out
     (first | subst bp | (injection bp with f1_ f2_ f3_; have f4_ := f1_.symm; have f5_ := f3_.symm; clear f1_ f2_ f3_; subst f4_; subst f5_))
     refine hK.out _ _ ⟨b1 aa 0, b1 aa 1⟩ (fun hHeld => ?_); clear hK K; refine nr_ (some 15) ?_
     refine two_ (i := 4) (j := 9) (Ni := some 16) (Nj := some 21) bl11 bl12 rfl rfl rfl rfl (two_of HT_.out (by kernel_rfl)) (by decide) (by decide) (fun K hK => ?_) (fun K hK => ?_)
     ·skip
      refine gs_ Try.func26 #[.slice ap ak.length aq] ?_
      with_reducible refine (slices_Concat_int_int.calls k _ _ ak am _ ?side1 ?side2 A5.out).mono ?_
      (case side1 => exact zC (Kd.N_reads' ah.out).2.2)
      (case side2 => exact (Kd.N_reads' ah.out).2.1)
      rintro e cf ⟨ar, rfl, ho0, hb⟩; refine ⟨_, rfl, ?_⟩; replace HO0_0 := Aside0.mk (Kd.V_elder' (by (with_reducible repeat (first | apply Kd.V_alloc | apply Kd.V_drewN | apply Kd.V_drew)); exact HO0_0.out) (Kd.R_base ho0) hb); replace HO0_1 := Aside0.mk (Kd.V_elder' (by (with_reducible repeat (first | apply Kd.V_alloc | apply Kd.V_drewN | apply Kd.V_drew)); exact HO0_1.out) (Kd.R_base ho0) hb); replace ae := Aside0.mk (Kd.V_elder' (by (with_reducible repeat (first | apply Kd.V_alloc | apply Kd.V_drewN | apply Kd.V_drew)); exact ae.out) (Kd.R_base ho0) hb); replace ag := Aside0.mk (Kd.V_elder' (by (with_reducible repeat (first | apply Kd.V_alloc | apply Kd.V_drewN | apply Kd.V_drew)); exact ag.out) (Kd.R_base ho0) hb); replace ah := Aside0.mk (Kd.N_elder' (by (with_reducible repeat (first | apply Kd.N_alloc | apply Kd.N_drewN | apply Kd.N_drew)); exact ah.out) (Kd.R_base ho0) hb); have aj := Aside0.mk (Kd.R_lower (Kd.R_newM (M := fun k_ => (w.heap.size ≤ k_)) ho0 (below_size (zS HB.out)) (fun k_ h_ => h_)) (below_size (zS HB.out))); replace aa := xB aa hb; replace ad := xB ad hb; replace HB := xS HB hb
      (try clear hb)
      (try clear hb2)
      (try clear hk)
      (try clear hi)
      (try clear ho0)
      refine hK.out _ _ ⟨b1 aa 0, b1 aa 1⟩ (fun hHeld => ?_); clear hK K; refine nr_ (some 16) ?_
      refine on_ 9 (some 21) bl8 HT_ (fun K hK => ?_)
      refine Kd.N_lit_step (Kd.slice 3 (Kd.int .i64)) _ 24 ?hg (N' := 21) ?hd (xs := ([al, af] : List (List Int))) (inner := [.slice aG al.length aH, .slice A0_1 af.length c0_1]) (ok := (fun k_ => ((P0_0_ k_ ∨ P0_1_ k_) ∨ w.heap.size ≤ k_) ∧ some k_ ≠ (.slice ap ak.length aq : Value).ownBlock ∧ some k_ ≠ (ar : Value).ownBlock ∧ k_ ≠ ab ∧ k_ ≠ ac)) (okp := (fun k_ => ((P0_0_ k_ ∨ P0_1_ k_) ∨ w.heap.size ≤ k_) ∧ some k_ ≠ (.slice ap ak.length aq : Value).ownBlock ∧ some k_ ≠ (ar : Value).ownBlock ∧ k_ ≠ ab ∧ k_ ≠ ac)) ?hr ?hp (fun _ hk => hk) ((show ∀ k_, cf.heap.size ≤ k_ → (fun k_ => ((P0_0_ k_ ∨ P0_1_ k_) ∨ w.heap.size ≤ k_) ∧ some k_ ≠ (.slice ap ak.length aq : Value).ownBlock ∧ some k_ ≠ (ar : Value).ownBlock ∧ k_ ≠ ab ∧ k_ ≠ ac) k_ from fun k_ hk => ⟨(.inr (Nat.le_trans (below_size (zS HB.out)) hk)), Kd.fresh' (Kd.N_lt (by (with_reducible repeat (first | apply Kd.N_alloc | apply Kd.N_drewN | apply Kd.N_drew)); exact ah.out)) k_ hk, Kd.fresh' (Kd.R_lt (zR aj.out)) k_ hk, Kd.freshB (g := ab) (o := .cells #[.slice A0_0 l0_0.length c0_0, .slice A0_1 l0_1.length c0_1] 26 (0, 0)) (zB aa.out) k_ hk, Kd.freshB (g := ac) (o := .cells #[.slice none 0 0, .slice none 0 0] 26 (0, 0)) (zB ad.out) k_ hk⟩) _ (Nat.le_refl _)) (Below.refl _ _) (Nat.le_refl _) (by simp) ?_; (case hd => rfl); (case hg => rfl); (case hr => first | (go_simp; done) | (go_simp; rfl)); (case hp => exact (Reps.one (show Kd.FK (Kd.slice 3 (Kd.int .i64)) _ _ al [.slice aG al.length aH] from (Kd.FK_slice_mk (Kd.V_reads' (Kd.V_mono (ok' := (fun k_ => ((P0_0_ k_ ∨ P0_1_ k_) ∨ w.heap.size ≤ k_) ∧ some k_ ≠ (.slice ap ak.length aq : Value).ownBlock ∧ some k_ ≠ (ar : Value).ownBlock ∧ k_ ≠ ab ∧ k_ ≠ ac)) (ag.out) (fun k_ hk => ⟨hk.1.1.1.1, ⟨hk.1.2, ⟨hk.2, ⟨hk.1.1.1.2, hk.1.1.2⟩⟩⟩⟩))).2.1 (Kd.V_F (Kd.V_mono (ok' := (fun k_ => ((P0_0_ k_ ∨ P0_1_ k_) ∨ w.heap.size ≤ k_) ∧ some k_ ≠ (.slice ap ak.length aq : Value).ownBlock ∧ some k_ ≠ (ar : Value).ownBlock ∧ k_ ≠ ab ∧ k_ ≠ ac)) (ag.out) (fun k_ hk => ⟨hk.1.1.1.1, ⟨hk.1.2, ⟨hk.2, ⟨hk.1.1.1.2, hk.1.1.2⟩⟩⟩⟩))))) (Reps.one (show Kd.FK (Kd.slice 3 (Kd.int .i64)) _ _ af [.slice A0_1 af.length c0_1] from (Kd.FK_slice_mk (Kd.V_reads' (Kd.V_mono (ok' := (fun k_ => ((P0_0_ k_ ∨ P0_1_ k_) ∨ w.heap.size ≤ k_) ∧ some k_ ≠ (.slice ap ak.length aq : Value).ownBlock ∧ some k_ ≠ (ar : Value).ownBlock ∧ k_ ≠ ab ∧ k_ ≠ ac)) (ae.out) (fun k_ hk => ⟨hk.1.1.1.1, ⟨hk.1.2, ⟨hk.2, ⟨hk.1.1.1.2, hk.1.1.2⟩⟩⟩⟩))).2.1 (Kd.V_F (Kd.V_mono (ok' := (fun k_ => ((P0_0_ k_ ∨ P0_1_ k_) ∨ w.heap.size ≤ k_) ∧ some k_ ≠ (.slice ap ak.length aq : Value).ownBlock ∧ some k_ ≠ (ar : Value).ownBlock ∧ k_ ≠ ab ∧ k_ ≠ ac)) (ae.out) (fun k_ hk => ⟨hk.1.1.1.1, ⟨hk.1.2, ⟨hk.2, ⟨hk.1.1.1.2, hk.1.1.2⟩⟩⟩⟩))))) (Reps.none _ _))))
      intro au cw ho23 hb hg_ hnew_; clear hg_ hnew_
      (first | rw [← ay.out] at ho23 | (simp only [Int.reduceToNat] at ho23; rw [← ay.out] at ho23))
      replace HO0_0 := Aside0.mk (Kd.V_elder' (by (with_reducible repeat (first | apply Kd.V_alloc | apply Kd.V_drewN | apply Kd.V_drew)); exact HO0_0.out) (Kd.N_base ho23) hb); replace HO0_1 := Aside0.mk (Kd.V_elder' (by (with_reducible repeat (first | apply Kd.V_alloc | apply Kd.V_drewN | apply Kd.V_drew)); exact HO0_1.out) (Kd.N_base ho23) hb); replace ae := Aside0.mk (Kd.V_elder' (by (with_reducible repeat (first | apply Kd.V_alloc | apply Kd.V_drewN | apply Kd.V_drew)); exact ae.out) (Kd.N_base ho23) hb); replace ag := Aside0.mk (Kd.V_elder' (by (with_reducible repeat (first | apply Kd.V_alloc | apply Kd.V_drewN | apply Kd.V_drew)); exact ag.out) (Kd.N_base ho23) hb); replace ah := Aside0.mk (Kd.N_elder' (by (with_reducible repeat (first | apply Kd.N_alloc | apply Kd.N_drewN | apply Kd.N_drew)); exact ah.out) (Kd.N_base ho23) hb); replace aj := xR aj hb; have ai := Aside0.mk (Kd.N_lower ho23 (below_size (zS HB.out))); replace aa := xB aa hb; replace ad := xB ad hb; replace HB := xS HB hb; clear hb ho23; refine hK.out _ _ ⟨b1 aa 0, b1 aa 1⟩ (fun hHeld => ?_); clear hK K; refine nr_ (some 21) ?_
      exact norm_ (by simp only [putAll, Act.put, q3]) (hCont (.slice ap ak.length aq, ar, au) _ ⟨hHeld, (by (with_reducible repeat (first | apply Kd.V_alloc | apply Kd.V_drewN | apply Kd.V_drew)); exact Kd.V_mono HO0_0.out (fun _ hk => ⟨hk.1.1.1.1.1, ⟨hk.1.1.2, ⟨hk.1.2, ⟨hk.2, ⟨hk.1.1.1.1.2, hk.1.1.1.2⟩⟩⟩⟩⟩)), (by (with_reducible repeat (first | apply Kd.V_alloc | apply Kd.V_drewN | apply Kd.V_drew)); exact Kd.V_mono HO0_1.out (fun _ hk => ⟨hk.1.1.1.1.1, ⟨hk.1.1.2, ⟨hk.1.2, ⟨hk.2, ⟨hk.1.1.1.1.2, hk.1.1.1.2⟩⟩⟩⟩⟩)), (by (with_reducible repeat (first | apply Kd.V_alloc | apply Kd.V_drewN | apply Kd.V_drew)); exact Kd.V_mono ae.out (fun _ hk => ⟨hk.1.1.1.1.1, ⟨hk.1.1.2, ⟨hk.1.2, ⟨hk.2, ⟨hk.1.1.1.1.2, hk.1.1.1.2⟩⟩⟩⟩⟩)), (by (with_reducible repeat (first | apply Kd.N_alloc | apply Kd.N_drewN | apply Kd.N_drew)); exact Kd.N_mono ah.out (fun _ hk => ⟨hk.1.1.1, ⟨hk.1.2, ⟨hk.2, ⟨hk.1.1.2.1, hk.1.1.2.2⟩⟩⟩⟩)), (rM aj (fun _ hk => hk.1)), (by (with_reducible repeat (first | apply Kd.V_alloc | apply Kd.V_drewN | apply Kd.V_drew)); exact Kd.V_mono ag.out (fun _ hk => ⟨hk.1.1.1.1.1, ⟨hk.1.1.2, ⟨hk.1.2, ⟨hk.2, ⟨hk.1.1.1.1.2, hk.1.1.1.2⟩⟩⟩⟩⟩)), (by (with_reducible repeat (first | apply Kd.N_alloc | apply Kd.N_drewN | apply Kd.N_drew)); exact ai.out), (zB aa.out), (zB ad.out), (zS HB.out)⟩)
     ·skip
      refine Kd.N_lit_step (Kd.slice 3 (Kd.int .i64)) _ 24 ?hg (N' := 21) ?hd (xs := ([al, af] : List (List Int))) (inner := [.slice aG al.length aH, .slice A0_1 af.length c0_1]) (ok := (fun k_ => ((P0_0_ k_ ∨ P0_1_ k_) ∨ w.heap.size ≤ k_) ∧ some k_ ≠ ((.slice ap ak.length aq) : Value).ownBlock ∧ k_ ≠ ab ∧ k_ ≠ ac)) (okp := (fun k_ => ((P0_0_ k_ ∨ P0_1_ k_) ∨ w.heap.size ≤ k_) ∧ some k_ ≠ ((.slice ap ak.length aq) : Value).ownBlock ∧ k_ ≠ ab ∧ k_ ≠ ac)) ?hr ?hp (fun _ hk => hk) ((show ∀ k_, bo.heap.size ≤ k_ → (fun k_ => ((P0_0_ k_ ∨ P0_1_ k_) ∨ w.heap.size ≤ k_) ∧ some k_ ≠ ((.slice ap ak.length aq) : Value).ownBlock ∧ k_ ≠ ab ∧ k_ ≠ ac) k_ from fun k_ hk => ⟨(.inr (Nat.le_trans (below_size (zS HB.out)) hk)), Kd.fresh' (Kd.N_lt (by (with_reducible repeat (first | apply Kd.N_alloc | apply Kd.N_drewN | apply Kd.N_drew)); exact ah.out)) k_ hk, Kd.freshB (g := ab) (o := .cells #[.slice A0_0 l0_0.length c0_0, .slice A0_1 l0_1.length c0_1] 26 (0, 0)) (zB aa.out) k_ hk, Kd.freshB (g := ac) (o := .cells #[.slice none 0 0, .slice none 0 0] 26 (0, 0)) (zB ad.out) k_ hk⟩) _ (Nat.le_refl _)) (Below.refl _ _) (Nat.le_refl _) (by simp) ?_; (case hd => rfl); (case hg => rfl); (case hr => first | (go_simp; done) | (go_simp; rfl)); (case hp => exact (Reps.one (show Kd.FK (Kd.slice 3 (Kd.int .i64)) _ _ al [.slice aG al.length aH] from (Kd.FK_slice_mk (Kd.V_reads' (Kd.V_mono (ok' := (fun k_ => ((P0_0_ k_ ∨ P0_1_ k_) ∨ w.heap.size ≤ k_) ∧ some k_ ≠ ((.slice ap ak.length aq) : Value).ownBlock ∧ k_ ≠ ab ∧ k_ ≠ ac)) (ag.out) (fun k_ hk => ⟨hk.1.1.1, ⟨hk.2, ⟨hk.1.1.2, hk.1.2⟩⟩⟩))).2.1 (Kd.V_F (Kd.V_mono (ok' := (fun k_ => ((P0_0_ k_ ∨ P0_1_ k_) ∨ w.heap.size ≤ k_) ∧ some k_ ≠ ((.slice ap ak.length aq) : Value).ownBlock ∧ k_ ≠ ab ∧ k_ ≠ ac)) (ag.out) (fun k_ hk => ⟨hk.1.1.1, ⟨hk.2, ⟨hk.1.1.2, hk.1.2⟩⟩⟩))))) (Reps.one (show Kd.FK (Kd.slice 3 (Kd.int .i64)) _ _ af [.slice A0_1 af.length c0_1] from (Kd.FK_slice_mk (Kd.V_reads' (Kd.V_mono (ok' := (fun k_ => ((P0_0_ k_ ∨ P0_1_ k_) ∨ w.heap.size ≤ k_) ∧ some k_ ≠ ((.slice ap ak.length aq) : Value).ownBlock ∧ k_ ≠ ab ∧ k_ ≠ ac)) (ae.out) (fun k_ hk => ⟨hk.1.1.1, ⟨hk.2, ⟨hk.1.1.2, hk.1.2⟩⟩⟩))).2.1 (Kd.V_F (Kd.V_mono (ok' := (fun k_ => ((P0_0_ k_ ∨ P0_1_ k_) ∨ w.heap.size ≤ k_) ∧ some k_ ≠ ((.slice ap ak.length aq) : Value).ownBlock ∧ k_ ≠ ab ∧ k_ ≠ ac)) (ae.out) (fun k_ hk => ⟨hk.1.1.1, ⟨hk.2, ⟨hk.1.1.2, hk.1.2⟩⟩⟩))))) (Reps.none _ _))))
      intro au cg ho21 hb hg_ hnew_; clear hg_ hnew_
      (first | rw [← ay.out] at ho21 | (simp only [Int.reduceToNat] at ho21; rw [← ay.out] at ho21))
      replace HO0_0 := Aside0.mk (Kd.V_elder' (by (with_reducible repeat (first | apply Kd.V_alloc | apply Kd.V_drewN | apply Kd.V_drew)); exact HO0_0.out) (Kd.N_base ho21) hb); replace HO0_1 := Aside0.mk (Kd.V_elder' (by (with_reducible repeat (first | apply Kd.V_alloc | apply Kd.V_drewN | apply Kd.V_drew)); exact HO0_1.out) (Kd.N_base ho21) hb); replace ae := Aside0.mk (Kd.V_elder' (by (with_reducible repeat (first | apply Kd.V_alloc | apply Kd.V_drewN | apply Kd.V_drew)); exact ae.out) (Kd.N_base ho21) hb); replace ag := Aside0.mk (Kd.V_elder' (by (with_reducible repeat (first | apply Kd.V_alloc | apply Kd.V_drewN | apply Kd.V_drew)); exact ag.out) (Kd.N_base ho21) hb); replace ah := Aside0.mk (Kd.N_elder' (by (with_reducible repeat (first | apply Kd.N_alloc | apply Kd.N_drewN | apply Kd.N_drew)); exact ah.out) (Kd.N_base ho21) hb); have ai := Aside0.mk (Kd.N_lower ho21 (below_size (zS HB.out))); replace aa := xB aa hb; replace ad := xB ad hb; replace HB := xS HB hb; clear hb ho21; obtain ⟨aM, aN, aO⟩ := Kd.N_slice ah.out
      (first | subst aO | (injection aO with f1_ f2_ f3_; have f4_ := f1_.symm; have f5_ := f3_.symm; clear f1_ f2_ f3_; subst f4_; subst f5_))
      refine hK.out _ _ ⟨b1 aa 0, b1 aa 1⟩ (fun hHeld => ?_); clear hK K; refine nr_ (some 21) ?_
      refine on_ 4 (some 16) bl8 HT_ (fun K hK => ?_); refine gs_ Try.func26 #[.slice aM ak.length aN] ?_
      with_reducible refine (slices_Concat_int_int.calls k _ _ ak am _ ?side1 ?side2 A5.out).mono ?_
      (case side1 => exact zC (Kd.N_reads' ah.out).2.2)
      (case side2 => exact (Kd.N_reads' ah.out).2.1)
      rintro e ch ⟨ar, rfl, ho0, hb⟩; refine ⟨_, rfl, ?_⟩; replace HO0_0 := Aside0.mk (Kd.V_elder' (by (with_reducible repeat (first | apply Kd.V_alloc | apply Kd.V_drewN | apply Kd.V_drew)); exact HO0_0.out) (Kd.R_base ho0) hb); replace HO0_1 := Aside0.mk (Kd.V_elder' (by (with_reducible repeat (first | apply Kd.V_alloc | apply Kd.V_drewN | apply Kd.V_drew)); exact HO0_1.out) (Kd.R_base ho0) hb); replace ae := Aside0.mk (Kd.V_elder' (by (with_reducible repeat (first | apply Kd.V_alloc | apply Kd.V_drewN | apply Kd.V_drew)); exact ae.out) (Kd.R_base ho0) hb); replace ag := Aside0.mk (Kd.V_elder' (by (with_reducible repeat (first | apply Kd.V_alloc | apply Kd.V_drewN | apply Kd.V_drew)); exact ag.out) (Kd.R_base ho0) hb); replace ah := Aside0.mk (Kd.N_elder' (by (with_reducible repeat (first | apply Kd.N_alloc | apply Kd.N_drewN | apply Kd.N_drew)); exact ah.out) (Kd.R_base ho0) hb); replace ai := Aside0.mk (Kd.N_elder' (by (with_reducible repeat (first | apply Kd.N_alloc | apply Kd.N_drewN | apply Kd.N_drew)); exact ai.out) (Kd.R_base ho0) hb); have aj := Aside0.mk (Kd.R_lower (Kd.R_newM (M := fun k_ => (w.heap.size ≤ k_)) ho0 (below_size (zS HB.out)) (fun k_ h_ => h_)) (below_size (zS HB.out))); replace aa := xB aa hb; replace ad := xB ad hb; replace HB := xS HB hb
      (try clear hb)
      (try clear hb2)
      (try clear hk)
      (try clear hi)
      (try clear ho0)
      refine hK.out _ _ ⟨b1 aa 0, b1 aa 1⟩ (fun hHeld => ?_); clear hK K; refine nr_ (some 16) ?_
      exact norm_ (by simp only [putAll, Act.put, q3]) (hCont (.slice aM ak.length aN, ar, au) _ ⟨hHeld, (by (with_reducible repeat (first | apply Kd.V_alloc | apply Kd.V_drewN | apply Kd.V_drew)); exact Kd.V_mono HO0_0.out (fun _ hk => ⟨hk.1.1.1.1.1, ⟨hk.1.1.2, ⟨hk.2, ⟨hk.1.2, ⟨hk.1.1.1.1.2, hk.1.1.1.2⟩⟩⟩⟩⟩)), (by (with_reducible repeat (first | apply Kd.V_alloc | apply Kd.V_drewN | apply Kd.V_drew)); exact Kd.V_mono HO0_1.out (fun _ hk => ⟨hk.1.1.1.1.1, ⟨hk.1.1.2, ⟨hk.2, ⟨hk.1.2, ⟨hk.1.1.1.1.2, hk.1.1.1.2⟩⟩⟩⟩⟩)), (by (with_reducible repeat (first | apply Kd.V_alloc | apply Kd.V_drewN | apply Kd.V_drew)); exact Kd.V_mono ae.out (fun _ hk => ⟨hk.1.1.1.1.1, ⟨hk.1.1.2, ⟨hk.2, ⟨hk.1.2, ⟨hk.1.1.1.1.2, hk.1.1.1.2⟩⟩⟩⟩⟩)), (by (with_reducible repeat (first | apply Kd.N_alloc | apply Kd.N_drewN | apply Kd.N_drew)); exact Kd.N_mono ah.out (fun _ hk => ⟨hk.1.1.1, ⟨hk.2, ⟨hk.1.2, ⟨hk.1.1.2.1, hk.1.1.2.2⟩⟩⟩⟩)), (rM aj (fun _ hk => hk.1)), (by (with_reducible repeat (first | apply Kd.V_alloc | apply Kd.V_drewN | apply Kd.V_drew)); exact Kd.V_mono ag.out (fun _ hk => ⟨hk.1.1.1.1.1, ⟨hk.1.1.2, ⟨hk.2, ⟨hk.1.2, ⟨hk.1.1.1.1.2, hk.1.1.1.2⟩⟩⟩⟩⟩)), (by (with_reducible repeat (first | apply Kd.N_alloc | apply Kd.N_drewN | apply Kd.N_drew)); exact Kd.N_mono ai.out (fun _ hk => ⟨hk.1.1, ⟨hk.1.2.1, ⟨hk.2, ⟨hk.1.2.2.1, hk.1.2.2.2⟩⟩⟩⟩)), (zB aa.out), (zB ad.out), (zS HB.out)⟩)
    ·skip
     refine Kd.N_lit_step (Kd.slice 3 (Kd.int .i64)) _ 24 ?hg (N' := 21) ?hd (xs := ([al, af] : List (List Int))) (inner := [.slice aG al.length aH, .slice A0_1 af.length c0_1]) (ok := (fun k_ => ((P0_0_ k_ ∨ P0_1_ k_) ∨ w.heap.size ≤ k_) ∧ k_ ≠ ab ∧ k_ ≠ ac)) (okp := (fun k_ => ((P0_0_ k_ ∨ P0_1_ k_) ∨ w.heap.size ≤ k_) ∧ k_ ≠ ab ∧ k_ ≠ ac)) ?hr ?hp (fun _ hk => hk) ((show ∀ k_, bF.heap.size ≤ k_ → (fun k_ => ((P0_0_ k_ ∨ P0_1_ k_) ∨ w.heap.size ≤ k_) ∧ k_ ≠ ab ∧ k_ ≠ ac) k_ from fun k_ hk => ⟨(.inr (Nat.le_trans (below_size (zS HB.out)) hk)), Kd.freshB (g := ab) (o := .cells #[.slice A0_0 l0_0.length c0_0, .slice A0_1 l0_1.length c0_1] 26 (0, 0)) (zB aa.out) k_ hk, Kd.freshB (g := ac) (o := .cells #[.slice none 0 0, .slice none 0 0] 26 (0, 0)) (zB ad.out) k_ hk⟩) _ (Nat.le_refl _)) (Below.refl _ _) (Nat.le_refl _) (by simp) ?_; (case hd => rfl); (case hg => rfl); (case hr => first | (go_simp; done) | (go_simp; rfl)); (case hp => exact (Reps.one (show Kd.FK (Kd.slice 3 (Kd.int .i64)) _ _ al [.slice aG al.length aH] from (Kd.FK_slice_mk (Kd.V_reads' (Kd.V_mono (ok' := (fun k_ => ((P0_0_ k_ ∨ P0_1_ k_) ∨ w.heap.size ≤ k_) ∧ k_ ≠ ab ∧ k_ ≠ ac)) (ag.out) (fun k_ hk => ⟨hk.1.1, ⟨hk.1.2, hk.2⟩⟩))).2.1 (Kd.V_F (Kd.V_mono (ok' := (fun k_ => ((P0_0_ k_ ∨ P0_1_ k_) ∨ w.heap.size ≤ k_) ∧ k_ ≠ ab ∧ k_ ≠ ac)) (ag.out) (fun k_ hk => ⟨hk.1.1, ⟨hk.1.2, hk.2⟩⟩))))) (Reps.one (show Kd.FK (Kd.slice 3 (Kd.int .i64)) _ _ af [.slice A0_1 af.length c0_1] from (Kd.FK_slice_mk (Kd.V_reads' (Kd.V_mono (ok' := (fun k_ => ((P0_0_ k_ ∨ P0_1_ k_) ∨ w.heap.size ≤ k_) ∧ k_ ≠ ab ∧ k_ ≠ ac)) (ae.out) (fun k_ hk => ⟨hk.1.1, ⟨hk.1.2, hk.2⟩⟩))).2.1 (Kd.V_F (Kd.V_mono (ok' := (fun k_ => ((P0_0_ k_ ∨ P0_1_ k_) ∨ w.heap.size ≤ k_) ∧ k_ ≠ ab ∧ k_ ≠ ac)) (ae.out) (fun k_ hk => ⟨hk.1.1, ⟨hk.1.2, hk.2⟩⟩))))) (Reps.none _ _))))
     intro au bo ho19 hb hg_ hnew_; clear hg_ hnew_
     (first | rw [← ay.out] at ho19 | (simp only [Int.reduceToNat] at ho19; rw [← ay.out] at ho19))
     replace HO0_0 := Aside0.mk (Kd.V_elder' (by (with_reducible repeat (first | apply Kd.V_alloc | apply Kd.V_drewN | apply Kd.V_drew)); exact HO0_0.out) (Kd.N_base ho19) hb); replace HO0_1 := Aside0.mk (Kd.V_elder' (by (with_reducible repeat (first | apply Kd.V_alloc | apply Kd.V_drewN | apply Kd.V_drew)); exact HO0_1.out) (Kd.N_base ho19) hb); replace ae := Aside0.mk (Kd.V_elder' (by (with_reducible repeat (first | apply Kd.V_alloc | apply Kd.V_drewN | apply Kd.V_drew)); exact ae.out) (Kd.N_base ho19) hb); replace ag := Aside0.mk (Kd.V_elder' (by (with_reducible repeat (first | apply Kd.V_alloc | apply Kd.V_drewN | apply Kd.V_drew)); exact ag.out) (Kd.N_base ho19) hb); have ai := Aside0.mk (Kd.N_lower ho19 (below_size (zS HB.out))); replace aa := xB aa hb; replace ad := xB ad hb; replace HB := xS HB hb; clear hb ho19; refine hK.out _ _ ⟨b1 aa 0, b1 aa 1⟩ (fun hHeld => ?_); clear hK K; refine nr_ (some 21) ?_
     refine on_ 3 (some 15) bl12 HT_ (fun K hK => ?_)
     refine Kd.N_lit_step (Kd.slice 3 (Kd.int .i64)) _ 24 ?hg (N' := 15) ?hd (xs := ([l0_0, af] : List (List Int))) (inner := [.slice A0_0 l0_0.length c0_0, .slice A0_1 af.length c0_1]) (ok := (fun k_ => ((P0_0_ k_ ∨ P0_1_ k_) ∨ w.heap.size ≤ k_) ∧ some k_ ≠ (au : Value).ownBlock ∧ k_ ≠ ab ∧ k_ ≠ ac)) (okp := (fun k_ => ((P0_0_ k_ ∨ P0_1_ k_) ∨ w.heap.size ≤ k_) ∧ some k_ ≠ (au : Value).ownBlock ∧ k_ ≠ ab ∧ k_ ≠ ac)) ?hr ?hp (fun _ hk => hk) ((show ∀ k_, bo.heap.size ≤ k_ → (fun k_ => ((P0_0_ k_ ∨ P0_1_ k_) ∨ w.heap.size ≤ k_) ∧ some k_ ≠ (au : Value).ownBlock ∧ k_ ≠ ab ∧ k_ ≠ ac) k_ from fun k_ hk => ⟨(.inr (Nat.le_trans (below_size (zS HB.out)) hk)), Kd.fresh' (Kd.N_lt (by (with_reducible repeat (first | apply Kd.N_alloc | apply Kd.N_drewN | apply Kd.N_drew)); exact ai.out)) k_ hk, Kd.freshB (g := ab) (o := .cells #[.slice A0_0 l0_0.length c0_0, .slice A0_1 l0_1.length c0_1] 26 (0, 0)) (zB aa.out) k_ hk, Kd.freshB (g := ac) (o := .cells #[.slice none 0 0, .slice none 0 0] 26 (0, 0)) (zB ad.out) k_ hk⟩) _ (Nat.le_refl _)) (Below.refl _ _) (Nat.le_refl _) (by simp) ?_; (case hd => rfl); (case hg => rfl); (case hr => first | (go_simp; done) | (go_simp; rfl)); (case hp => exact (Reps.one (show Kd.FK (Kd.slice 3 (Kd.int .i64)) _ _ l0_0 [.slice A0_0 l0_0.length c0_0] from (Kd.FK_slice_mk (Kd.V_reads' (Kd.V_mono (ok' := (fun k_ => ((P0_0_ k_ ∨ P0_1_ k_) ∨ w.heap.size ≤ k_) ∧ some k_ ≠ (au : Value).ownBlock ∧ k_ ≠ ab ∧ k_ ≠ ac)) (HO0_0.out) (fun k_ hk => ⟨hk.1.1.1, ⟨hk.2, ⟨hk.1.1.2, hk.1.2⟩⟩⟩))).2.1 (Kd.V_F (Kd.V_mono (ok' := (fun k_ => ((P0_0_ k_ ∨ P0_1_ k_) ∨ w.heap.size ≤ k_) ∧ some k_ ≠ (au : Value).ownBlock ∧ k_ ≠ ab ∧ k_ ≠ ac)) (HO0_0.out) (fun k_ hk => ⟨hk.1.1.1, ⟨hk.2, ⟨hk.1.1.2, hk.1.2⟩⟩⟩))))) (Reps.one (show Kd.FK (Kd.slice 3 (Kd.int .i64)) _ _ af [.slice A0_1 af.length c0_1] from (Kd.FK_slice_mk (Kd.V_reads' (Kd.V_mono (ok' := (fun k_ => ((P0_0_ k_ ∨ P0_1_ k_) ∨ w.heap.size ≤ k_) ∧ some k_ ≠ (au : Value).ownBlock ∧ k_ ≠ ab ∧ k_ ≠ ac)) (ae.out) (fun k_ hk => ⟨hk.1.1.1, ⟨hk.2, ⟨hk.1.1.2, hk.1.2⟩⟩⟩))).2.1 (Kd.V_F (Kd.V_mono (ok' := (fun k_ => ((P0_0_ k_ ∨ P0_1_ k_) ∨ w.heap.size ≤ k_) ∧ some k_ ≠ (au : Value).ownBlock ∧ k_ ≠ ab ∧ k_ ≠ ac)) (ae.out) (fun k_ hk => ⟨hk.1.1.1, ⟨hk.2, ⟨hk.1.1.2, hk.1.2⟩⟩⟩))))) (Reps.none _ _))))
     intro az cg ho21 hb hg_ hnew_; clear hg_ hnew_
     (first | rw [← aK.out] at ho21 | (simp only [Int.reduceToNat] at ho21; rw [← aK.out] at ho21))
     replace HO0_0 := Aside0.mk (Kd.V_elder' (by (with_reducible repeat (first | apply Kd.V_alloc | apply Kd.V_drewN | apply Kd.V_drew)); exact HO0_0.out) (Kd.N_base ho21) hb); replace HO0_1 := Aside0.mk (Kd.V_elder' (by (with_reducible repeat (first | apply Kd.V_alloc | apply Kd.V_drewN | apply Kd.V_drew)); exact HO0_1.out) (Kd.N_base ho21) hb); replace ae := Aside0.mk (Kd.V_elder' (by (with_reducible repeat (first | apply Kd.V_alloc | apply Kd.V_drewN | apply Kd.V_drew)); exact ae.out) (Kd.N_base ho21) hb); replace ag := Aside0.mk (Kd.V_elder' (by (with_reducible repeat (first | apply Kd.V_alloc | apply Kd.V_drewN | apply Kd.V_drew)); exact ag.out) (Kd.N_base ho21) hb); replace ai := Aside0.mk (Kd.N_elder' (by (with_reducible repeat (first | apply Kd.N_alloc | apply Kd.N_drewN | apply Kd.N_drew)); exact ai.out) (Kd.N_base ho21) hb); have ah := Aside0.mk (Kd.N_lower ho21 (below_size (zS HB.out))); replace aa := xB aa hb; replace ad := xB ad hb; replace HB := xS HB hb; clear hb ho21; obtain ⟨aM, aN, aO⟩ := Kd.N_slice ah.out
     (first | subst aO | (injection aO with f1_ f2_ f3_; have f4_ := f1_.symm; have f5_ := f3_.symm; clear f1_ f2_ f3_; subst f4_; subst f5_))
     refine hK.out _ _ ⟨b1 aa 0, b1 aa 1⟩ (fun hHeld => ?_); clear hK K; refine nr_ (some 15) ?_
     refine on_ 4 (some 16) bl8 HT_ (fun K hK => ?_); refine gs_ Try.func26 #[.slice aM ak.length aN] ?_
     with_reducible refine (slices_Concat_int_int.calls k _ _ ak am _ ?side1 ?side2 A5.out).mono ?_
     (case side1 => exact zC (Kd.N_reads' ah.out).2.2)
     (case side2 => exact (Kd.N_reads' ah.out).2.1)
     rintro e ch ⟨ar, rfl, ho0, hb⟩; refine ⟨_, rfl, ?_⟩; replace HO0_0 := Aside0.mk (Kd.V_elder' (by (with_reducible repeat (first | apply Kd.V_alloc | apply Kd.V_drewN | apply Kd.V_drew)); exact HO0_0.out) (Kd.R_base ho0) hb); replace HO0_1 := Aside0.mk (Kd.V_elder' (by (with_reducible repeat (first | apply Kd.V_alloc | apply Kd.V_drewN | apply Kd.V_drew)); exact HO0_1.out) (Kd.R_base ho0) hb); replace ae := Aside0.mk (Kd.V_elder' (by (with_reducible repeat (first | apply Kd.V_alloc | apply Kd.V_drewN | apply Kd.V_drew)); exact ae.out) (Kd.R_base ho0) hb); replace ag := Aside0.mk (Kd.V_elder' (by (with_reducible repeat (first | apply Kd.V_alloc | apply Kd.V_drewN | apply Kd.V_drew)); exact ag.out) (Kd.R_base ho0) hb); replace ai := Aside0.mk (Kd.N_elder' (by (with_reducible repeat (first | apply Kd.N_alloc | apply Kd.N_drewN | apply Kd.N_drew)); exact ai.out) (Kd.R_base ho0) hb); replace ah := Aside0.mk (Kd.N_elder' (by (with_reducible repeat (first | apply Kd.N_alloc | apply Kd.N_drewN | apply Kd.N_drew)); exact ah.out) (Kd.R_base ho0) hb); have aj := Aside0.mk (Kd.R_lower (Kd.R_newM (M := fun k_ => (w.heap.size ≤ k_)) ho0 (below_size (zS HB.out)) (fun k_ h_ => h_)) (below_size (zS HB.out))); replace aa := xB aa hb; replace ad := xB ad hb; replace HB := xS HB hb
     (try clear hb)
     (try clear hb2)
     (try clear hk)
     (try clear hi)
     (try clear ho0)
     refine hK.out _ _ ⟨b1 aa 0, b1 aa 1⟩ (fun hHeld => ?_); clear hK K; refine nr_ (some 16) ?_
     exact norm_ (by simp only [putAll, Act.put, q3]) (hCont (.slice aM ak.length aN, ar, au) _ ⟨hHeld, (by (with_reducible repeat (first | apply Kd.V_alloc | apply Kd.V_drewN | apply Kd.V_drew)); exact Kd.V_mono HO0_0.out (fun _ hk => ⟨hk.1.1.1.1.1, ⟨hk.1.2, ⟨hk.2, ⟨hk.1.1.2, ⟨hk.1.1.1.1.2, hk.1.1.1.2⟩⟩⟩⟩⟩)), (by (with_reducible repeat (first | apply Kd.V_alloc | apply Kd.V_drewN | apply Kd.V_drew)); exact Kd.V_mono HO0_1.out (fun _ hk => ⟨hk.1.1.1.1.1, ⟨hk.1.2, ⟨hk.2, ⟨hk.1.1.2, ⟨hk.1.1.1.1.2, hk.1.1.1.2⟩⟩⟩⟩⟩)), (by (with_reducible repeat (first | apply Kd.V_alloc | apply Kd.V_drewN | apply Kd.V_drew)); exact Kd.V_mono ae.out (fun _ hk => ⟨hk.1.1.1.1.1, ⟨hk.1.2, ⟨hk.2, ⟨hk.1.1.2, ⟨hk.1.1.1.1.2, hk.1.1.1.2⟩⟩⟩⟩⟩)), (by (with_reducible repeat (first | apply Kd.N_alloc | apply Kd.N_drewN | apply Kd.N_drew)); exact Kd.N_mono ah.out (fun _ hk => ⟨hk.1.1, ⟨hk.2, ⟨hk.1.2.1, ⟨hk.1.2.2.1, hk.1.2.2.2⟩⟩⟩⟩)), (rM aj (fun _ hk => hk.1)), (by (with_reducible repeat (first | apply Kd.V_alloc | apply Kd.V_drewN | apply Kd.V_drew)); exact Kd.V_mono ag.out (fun _ hk => ⟨hk.1.1.1.1.1, ⟨hk.1.2, ⟨hk.2, ⟨hk.1.1.2, ⟨hk.1.1.1.1.2, hk.1.1.1.2⟩⟩⟩⟩⟩)), (by (with_reducible repeat (first | apply Kd.N_alloc | apply Kd.N_drewN | apply Kd.N_drew)); exact Kd.N_mono ai.out (fun _ hk => ⟨hk.1.1.1, ⟨hk.1.2, ⟨hk.2, ⟨hk.1.1.2.1, hk.1.1.2.2⟩⟩⟩⟩)), (zB aa.out), (zB ad.out), (zS HB.out)⟩)
   rintro ⟨az, ar, au⟩ cx ⟨hS_, h0_, h1_, h2_, h3_, h4_, h5_, h6_, h7_, h8_, h9_⟩; (try dsimp only at hS_ h0_ h1_ h2_ h3_ h4_ h5_ h6_ h7_ h8_ h9_); have aR := Aside0.mk h0_; have aS := Aside0.mk h1_; have aT := Aside0.mk h2_; have aU := Aside0.mk h3_; have aV := Aside0.mk h4_; have aW := Aside0.mk h5_; have aX := Aside0.mk h6_; have aY := Aside0.mk h7_; have aZ := Aside0.mk h8_; have ba := Aside0.mk h9_; clear HO0_0; clear HO0_1; clear ae; clear aa; clear ad; clear HB; clear h0_ h1_ h2_ h3_ h4_ h5_ h6_ h7_ h8_ h9_; have HO0_0 := aR; have HO0_1 := aS; have ae := aT; have ah := aU; have aj := aV; have ag := aW; have ai := aX; have aa := aY; have ad := aZ; have HB := ba; clear aR aS aT aU aV aW aX aY aZ ba; have hHeld := hS_; obtain ⟨aI, aJ, bq⟩ := Kd.N_slice ai.out
   (first | subst bq | (injection bq with f1_ f2_ f3_; have f4_ := f1_.symm; have f5_ := f3_.symm; clear f1_ f2_ f3_; subst f4_; subst f5_))
   refine norm_ (a' := ?_) ?_ ?_; rotate_left
   ·simp only [putAll, Act.put, q3]; rfl
   refine on_ 10 (some 22) bl13 HT_ (fun K hK => ?_); refine gs_ Try.func26 #[.slice aI aw.length aJ] ?_
   with_reducible refine (slices_Concat_int_int.calls k _ _ aw an _ ?side1 ?side2 A7.out).mono ?_
   (case side1 => exact zC (Kd.N_reads' ai.out).2.2)
   (case side2 => exact (Kd.N_reads' ai.out).2.1)
   rintro e cy ⟨cr, rfl, ho0, hb⟩; refine ⟨_, rfl, ?_⟩; replace HO0_0 := Aside0.mk (Kd.V_elder' (by (with_reducible repeat (first | apply Kd.V_alloc | apply Kd.V_drewN | apply Kd.V_drew)); exact HO0_0.out) (Kd.R_base ho0) hb); replace HO0_1 := Aside0.mk (Kd.V_elder' (by (with_reducible repeat (first | apply Kd.V_alloc | apply Kd.V_drewN | apply Kd.V_drew)); exact HO0_1.out) (Kd.R_base ho0) hb); replace ae := Aside0.mk (Kd.V_elder' (by (with_reducible repeat (first | apply Kd.V_alloc | apply Kd.V_drewN | apply Kd.V_drew)); exact ae.out) (Kd.R_base ho0) hb); replace ag := Aside0.mk (Kd.V_elder' (by (with_reducible repeat (first | apply Kd.V_alloc | apply Kd.V_drewN | apply Kd.V_drew)); exact ag.out) (Kd.R_base ho0) hb); replace ah := Aside0.mk (Kd.N_elder' (by (with_reducible repeat (first | apply Kd.N_alloc | apply Kd.N_drewN | apply Kd.N_drew)); exact ah.out) (Kd.R_base ho0) hb); replace ai := Aside0.mk (Kd.N_elder' (by (with_reducible repeat (first | apply Kd.N_alloc | apply Kd.N_drewN | apply Kd.N_drew)); exact ai.out) (Kd.R_base ho0) hb); have av := Aside0.mk (Kd.R_lower (Kd.R_new' (Kd.R_newM (M := fun k_ => (w.heap.size ≤ k_)) ho0 (below_size (zS HB.out)) (fun k_ h_ => h_)) (Kd.R_lt (zR aj.out))) (below_size (zS HB.out))); replace aj := xE aj ho0 hb; replace aa := xB aa hb; replace ad := xB ad hb; replace HB := xS HB hb
   (try clear hb)
   (try clear hb2)
   (try clear hk)
   (try clear hi)
   (try clear ho0)
   obtain ⟨bd, be, br⟩ := Kd.R_slice av.out
   (first | subst br | (injection br with f1_ f2_ f3_; have f4_ := f1_.symm; have f5_ := f3_.symm; clear f1_ f2_ f3_; subst f4_; subst f5_))
   obtain ⟨bf, bg, bs⟩ := Kd.R_slice aj.out
   (first | subst bs | (injection bs with f1_ f2_ f3_; have f4_ := f1_.symm; have f5_ := f3_.symm; clear f1_ f2_ f3_; subst f4_; subst f5_))
   refine hK.out _ _ ⟨b1 aa 0, b1 aa 1⟩ (fun hHeld => ?_); clear hK K; refine nr_ (some 22) ?_
   refine pv_ 11 (some 23) bl14 HT_ ?_
   refine on_ 12 (some 24) bl15 HT_ (fun K hK => ?_); refine gs_ Try.func32 #[.agg #[.slice bf am.length bg, .slice bd an.length be], .bool true] ?_
   with_reducible refine (impl_rightOr.calls k (fun k_ => some k_ = (.slice bf am.length bg : Value).ownBlock) (.slice bf am.length bg) am (fun k_ => some k_ = (.slice bd an.length be : Value).ownBlock) (.slice bd an.length be) an true aQ bb bn w _ ?side1 ?side2 ?side3 ?side4 ?side5 A8.out).mono ?_
   (case side1 => repeat (first | (with_reducible first | exact HB.out | apply below_alloc | apply pw_below_drewN | apply below_drew1 | refine below_set ?_ bj.out | refine below_set ?_ bk.out) | exact HB.out))
   (case side2 => exact Kd.R_tight rfl aj.out)
   (case side3 => exact fun k_ e_ => (aj.out.1 k_ e_.symm).2)
   (case side4 => exact Kd.R_tight rfl av.out)
   (case side5 => exact fun k_ e_ => (av.out.1 k_ e_.symm).2)
   rintro e bG ⟨aA, aB, rfl, ho0, ho1, hb, hkp⟩; refine ⟨_, rfl, ?_⟩; have aR := Aside0.mk (Kd.V_mono (ok' := fun k_ => ((P0_0_ k_ ∨ P0_1_ k_) ∨ w.heap.size ≤ k_) ∧ some k_ ≠ (az : Value).ownBlock ∧ some k_ ≠ (.slice aI aw.length aJ : Value).ownBlock ∧ k_ ≠ ab ∧ k_ ≠ ac ∧ some k_ ≠ (aA : Value).ownBlock ∧ some k_ ≠ (aB : Value).ownBlock) (Kd.V_keptB (HO0_0.out) hkp (fun k_ hk_ hs_ => Or.elim hs_ (fun e_ => (hk_.1.2.2.1) e_) (fun e_ => (hk_.2) e_))) (fun k_ hk_ => ⟨hk_.1.1.1, hk_.1.1.2.1, hk_.1.1.2.2.2.1, hk_.1.1.2.2.2.2.1, hk_.1.1.2.2.2.2.2, fun e_ => Or.elim (ho0.1 k_ e_.symm).1 (fun hs_ => hk_.2.1 hs_) (fun hn_ => Nat.not_le.2 hk_.2.2 hn_), fun e_ => Or.elim (ho1.1 k_ e_.symm).1 (fun hs_ => hk_.2.1 hs_) (fun hn_ => Nat.not_le.2 hk_.2.2 hn_)⟩)); have aS := Aside0.mk (Kd.V_mono (ok' := fun k_ => ((P0_0_ k_ ∨ P0_1_ k_) ∨ w.heap.size ≤ k_) ∧ some k_ ≠ (az : Value).ownBlock ∧ some k_ ≠ (.slice aI aw.length aJ : Value).ownBlock ∧ k_ ≠ ab ∧ k_ ≠ ac ∧ some k_ ≠ (aA : Value).ownBlock ∧ some k_ ≠ (aB : Value).ownBlock) (Kd.V_keptB (HO0_1.out) hkp (fun k_ hk_ hs_ => Or.elim hs_ (fun e_ => (hk_.1.2.2.1) e_) (fun e_ => (hk_.2) e_))) (fun k_ hk_ => ⟨hk_.1.1.1, hk_.1.1.2.1, hk_.1.1.2.2.2.1, hk_.1.1.2.2.2.2.1, hk_.1.1.2.2.2.2.2, fun e_ => Or.elim (ho0.1 k_ e_.symm).1 (fun hs_ => hk_.2.1 hs_) (fun hn_ => Nat.not_le.2 hk_.2.2 hn_), fun e_ => Or.elim (ho1.1 k_ e_.symm).1 (fun hs_ => hk_.2.1 hs_) (fun hn_ => Nat.not_le.2 hk_.2.2 hn_)⟩)); have aT := Aside0.mk (blk_kept (zB aa.out) hkp (fun hs_ => Or.elim hs_ (fun e_ => (fun e_ => (Kd.R_ne aj.out aa.out (by decide)) e_) e_) (fun e_ => (fun e_ => (Kd.R_ne av.out aa.out (by decide)) e_) e_))); have aU := Aside0.mk (blk_kept (zB ad.out) hkp (fun hs_ => Or.elim hs_ (fun e_ => (fun e_ => (Kd.R_ne aj.out ad.out (by decide)) e_) e_) (fun e_ => (fun e_ => (Kd.R_ne av.out ad.out (by decide)) e_) e_))); have aV := Aside0.mk (Kd.V_mono (ok' := fun k_ => ((P0_0_ k_ ∨ P0_1_ k_) ∨ w.heap.size ≤ k_) ∧ some k_ ≠ (az : Value).ownBlock ∧ some k_ ≠ (.slice aI aw.length aJ : Value).ownBlock ∧ k_ ≠ ab ∧ k_ ≠ ac ∧ some k_ ≠ (aA : Value).ownBlock ∧ some k_ ≠ (aB : Value).ownBlock) (Kd.V_keptB (ae.out) hkp (fun k_ hk_ hs_ => Or.elim hs_ (fun e_ => (hk_.1.2.2.1) e_) (fun e_ => (hk_.2) e_))) (fun k_ hk_ => ⟨hk_.1.1.1, hk_.1.1.2.1, hk_.1.1.2.2.2.1, hk_.1.1.2.2.2.2.1, hk_.1.1.2.2.2.2.2, fun e_ => Or.elim (ho0.1 k_ e_.symm).1 (fun hs_ => hk_.2.1 hs_) (fun hn_ => Nat.not_le.2 hk_.2.2 hn_), fun e_ => Or.elim (ho1.1 k_ e_.symm).1 (fun hs_ => hk_.2.1 hs_) (fun hn_ => Nat.not_le.2 hk_.2.2 hn_)⟩))
   have aW := Aside0.mk (Kd.V_mono (ok' := fun k_ => ((P0_0_ k_ ∨ P0_1_ k_) ∨ w.heap.size ≤ k_) ∧ some k_ ≠ (az : Value).ownBlock ∧ some k_ ≠ (.slice aI aw.length aJ : Value).ownBlock ∧ k_ ≠ ab ∧ k_ ≠ ac ∧ some k_ ≠ (aA : Value).ownBlock ∧ some k_ ≠ (aB : Value).ownBlock) (Kd.V_keptB (ag.out) hkp (fun k_ hk_ hs_ => Or.elim hs_ (fun e_ => (hk_.1.2.2.1) e_) (fun e_ => (hk_.2) e_))) (fun k_ hk_ => ⟨hk_.1.1.1, hk_.1.1.2.1, hk_.1.1.2.2.2.1, hk_.1.1.2.2.2.2.1, hk_.1.1.2.2.2.2.2, fun e_ => Or.elim (ho0.1 k_ e_.symm).1 (fun hs_ => hk_.2.1 hs_) (fun hn_ => Nat.not_le.2 hk_.2.2 hn_), fun e_ => Or.elim (ho1.1 k_ e_.symm).1 (fun hs_ => hk_.2.1 hs_) (fun hn_ => Nat.not_le.2 hk_.2.2 hn_)⟩)); have aX := Aside0.mk (Kd.N_mono (ok' := fun k_ => ((P0_0_ k_ ∨ P0_1_ k_) ∨ w.heap.size ≤ k_) ∧ some k_ ≠ (.slice aI aw.length aJ : Value).ownBlock ∧ k_ ≠ ab ∧ k_ ≠ ac ∧ some k_ ≠ (aA : Value).ownBlock ∧ some k_ ≠ (aB : Value).ownBlock) (Kd.N_keptB (ah.out) hkp (fun k_ hk_ hs_ => Or.elim hs_ (fun e_ => (hk_.1.2.1) e_) (fun e_ => (hk_.2) e_))) (fun k_ hk_ => ⟨hk_.1.1.1, hk_.1.1.2.2.1, hk_.1.1.2.2.2.1, hk_.1.1.2.2.2.2, fun e_ => Or.elim (ho0.1 k_ e_.symm).1 (fun hs_ => hk_.2.1 hs_) (fun hn_ => Nat.not_le.2 hk_.2.2 hn_), fun e_ => Or.elim (ho1.1 k_ e_.symm).1 (fun hs_ => hk_.2.1 hs_) (fun hn_ => Nat.not_le.2 hk_.2.2 hn_)⟩)); have aY := Aside0.mk (Kd.N_mono (ok' := fun k_ => ((P0_0_ k_ ∨ P0_1_ k_) ∨ w.heap.size ≤ k_) ∧ some k_ ≠ (az : Value).ownBlock ∧ k_ ≠ ab ∧ k_ ≠ ac ∧ some k_ ≠ (aA : Value).ownBlock ∧ some k_ ≠ (aB : Value).ownBlock) (Kd.N_keptB (ai.out) hkp (fun k_ hk_ hs_ => Or.elim hs_ (fun e_ => (hk_.1.2.2.1) e_) (fun e_ => (hk_.2) e_))) (fun k_ hk_ => ⟨hk_.1.1.1, hk_.1.1.2.1, hk_.1.1.2.2.2.1, hk_.1.1.2.2.2.2, fun e_ => Or.elim (ho0.1 k_ e_.symm).1 (fun hs_ => hk_.2.1 hs_) (fun hn_ => Nat.not_le.2 hk_.2.2 hn_), fun e_ => Or.elim (ho1.1 k_ e_.symm).1 (fun hs_ => hk_.2.1 hs_) (fun hn_ => Nat.not_le.2 hk_.2.2 hn_)⟩)); have aZ := Aside0.mk (Kd.R_mono (ok' := fun k_ => (w.heap.size ≤ k_) ∧ some k_ ≠ (aB : Value).ownBlock) ho0 (fun k_ hk_ => ⟨Or.elim hk_.1 (fun hs_ => Or.elim hs_ (fun hs_ => (aj.out.1 k_ (hs_).symm).1) (fun hs_ => (av.out.1 k_ (hs_).symm).1.1)) (fun hn_ => (Nat.le_trans (below_size (zS HB.out)) hn_)), hk_.2⟩)); have ba := Aside0.mk (Kd.R_mono (ok' := fun k_ => (w.heap.size ≤ k_) ∧ some k_ ≠ (aA : Value).ownBlock) ho1 (fun k_ hk_ => ⟨Or.elim hk_.1 (fun hs_ => Or.elim hs_ (fun hs_ => (aj.out.1 k_ (hs_).symm).1) (fun hs_ => (av.out.1 k_ (hs_).symm).1.1)) (fun hn_ => (Nat.le_trans (below_size (zS HB.out)) hn_)), hk_.2⟩)); have bt := Aside0.mk (hb); clear HO0_0; clear HO0_1; clear aa; clear ad; clear ae; clear ag; clear ah; clear ai; clear HB; clear aj; clear av; have HO0_0 := aR; have HO0_1 := aS; have aa := aT; have ad := aU; have ae := aV; have ag := aW; have ah := aX; have ai := aY; have bl := aZ; have bm := ba
   have HB := bt; clear aR aS aT aU aV aW aX aY aZ ba bt
   (try clear hb)
   (try clear hkp)
   (try clear ho0)
   (try clear ho1)
   obtain ⟨bu, bv, bw⟩ := Kd.R_slice bl.out
   (first | subst bw | (injection bw with f1_ f2_ f3_; have f4_ := f1_.symm; have f5_ := f3_.symm; clear f1_ f2_ f3_; subst f4_; subst f5_))
   obtain ⟨bH, bJ, bx⟩ := Kd.R_slice bm.out
   (first | subst bx | (injection bx with f1_ f2_ f3_; have f4_ := f1_.symm; have f5_ := f3_.symm; clear f1_ f2_ f3_; subst f4_; subst f5_))
   refine hK.out _ _ ⟨b1 aa 0, b1 aa 1⟩ (fun hHeld => ?_); clear hK K; refine nr_ (some 24) ?_
   refine pv_ 13 (some 25) bl16 HT_ ?_
   refine pv_ 14 (some 26) bl17 HT_ ?_
   refine on_ 15 (none) bl18 HT_ (fun K hK => ?_); have ct : bG.cell? ⟨ac, 0, none⟩ = some (.slice none 0 0) := b1 ad 0; have ck := blk_frozen ad.out 0; have bS := ao.out; have bT := ax.out; have cu : bG.cell? ⟨ac, 1, none⟩ = some (.slice none 0 0) := b1 ad 1; have cl := blk_frozen ad.out 1; have bU := ao.out; have bV := ax.out; refine skip_ (w1 := ?_) (by rfl) rfl ?_ ?_; rotate_left
   ·go_simp; rfl
   refine hK.out _ _ ⟨(cf2 (hHeld.1) ao.out), (cf2 (hHeld.2) ao.out)⟩ (fun hHeld => ?_); clear hK K
   refine pv_ 16 (some 3) bl19 HT_ ?_
   refine done_ (done_of HT_.out (by kernel_rfl)) ?_
   try go_wp2
   refine bodyPost_ret (results_ct rfl _ _ ac 26 #[.slice bu aQ.length bv, .slice bH bb.length bJ] (0, 0) _ rfl (by (with_reducible repeat (first | refine blk_drewN ?_ _ | refine blk_drew ?_ | refine blk_alloc ?_ _)); refine blk_put (cs := #[.slice bu aQ.length bv, .slice none 0 0]) ?_ 1 _ rfl; (with_reducible repeat (first | refine blk_drewN ?_ _ | refine blk_drew ?_ | refine blk_alloc ?_ _)); refine blk_put (cs := #[.slice none 0 0, .slice none 0 0]) ?_ 0 _ rfl; (with_reducible repeat (first | refine blk_drewN ?_ _ | refine blk_drew ?_ | refine blk_alloc ?_ _)); exact ad.out) Try.underlying26 rfl (by kernel_rfl)) rfl ?_; exact ⟨_, _, vw, rM (Aside0.mk (yF2 bl ad)) (fun _ hk => ⟨hk.1.1, hk.1.2⟩), by (with_reducible repeat (first | apply Kd.R_alloc | apply Kd.R_drewN | apply Kd.R_drew)); exact Kd.R_mono (yF2 bm ad) (fun _ hk => ⟨hk.1.1, hk.1.2⟩), zS HB.out⟩
  ·rw [if_neg c4] at H; exact absurd H (by simp)
 ·replace c3 := Bool.eq_false_iff.mpr c3; subst c3
  have H1 : (some (([] : List Int), ([] : List Int), false)) = some (r1, r2, r3) := by rw [if_neg (show ¬ (false = true) by decide)] at H; exact H
  clear H; have H := H1; clear H1; simp only [Option.some.injEq, Prod.mk.injEq] at H; obtain ⟨rfl, rfl, rfl⟩ := H
  go_enter Try.func11, Try.ntmps11
  go_wp2_with (first | ((with_reducible refine gate_dst (N := 1) rfl ?_); refine bx_ 1 #[.slice A0_0 l0_0.length c0_0, .slice A0_1 l0_1.length c0_1] 26 ?_; intro ab hg cz hbox hb; replace HO0_0 := Aside0.mk (Kd.V_below (Kd.V_elderB (by (with_reducible repeat (first | apply Kd.V_alloc | apply Kd.V_drewN | apply Kd.V_drew)); exact HO0_0.out) ab (Nat.le_of_eq hg.symm)) hb); replace HO0_1 := Aside0.mk (Kd.V_below (Kd.V_elderB (by (with_reducible repeat (first | apply Kd.V_alloc | apply Kd.V_drewN | apply Kd.V_drew)); exact HO0_1.out) ab (Nat.le_of_eq hg.symm)) hb); have aa := Aside0.mk (hbox); have bz := xG HB hg; have bj := xG HB hg; replace HB := xS HB hb; clear hb hbox hg) | ((with_reducible refine gate_dst (N := 2) rfl ?_); refine bx_ 2 #[.slice none 0 0, .slice none 0 0] 26 ?_; intro ac hg cA hbox hb; replace HO0_0 := Aside0.mk (Kd.V_below (Kd.V_elderB (by (with_reducible repeat (first | apply Kd.V_alloc | apply Kd.V_drewN | apply Kd.V_drew)); exact HO0_0.out) ac (Nat.le_of_eq hg.symm)) hb); replace HO0_1 := Aside0.mk (Kd.V_below (Kd.V_elderB (by (with_reducible repeat (first | apply Kd.V_alloc | apply Kd.V_drewN | apply Kd.V_drew)); exact HO0_1.out) ac (Nat.le_of_eq hg.symm)) hb); have ad := Aside0.mk (hbox); have bA := xG HB hg; have bk := xG HB hg; replace HB := xS HB hb; have ao := xN aa hg; have ax := xM aa hg; replace aa := xB aa hb; clear hb hbox hg; obtain ⟨cm, cn⟩ := nn ao; obtain ⟨bW, bX, bY, bZ⟩ := cz2 aa) | ((with_reducible refine gate_callee (f := 23) rfl ?_); refine gl_ (some 6) Try.func23 #[.agg #[.slice A0_0 l0_0.length c0_0, .slice A0_1 l0_1.length c0_1]] ?_; (with_reducible refine (impl_isRight.calls k _ _ l0_0 _ _ l0_1 false _ ?side1 ?side2 ?side3 ?side4 A2.out).mono ?_); (case side1 => exact zC (Kd.V_reads' HO0_0.out).2.2); (case side2 => exact (Kd.V_reads' HO0_0.out).2.1); (case side3 => exact zC (Kd.V_reads' HO0_1.out).2.2); (case side4 => exact (Kd.V_reads' HO0_1.out).2.1); rintro e cB ⟨rfl, hb⟩; refine ⟨_, rfl, ?_⟩; replace HO0_0 := Aside0.mk (Kd.V_below (by (with_reducible repeat (first | apply Kd.V_alloc | apply Kd.V_drewN | apply Kd.V_drew)); exact HO0_0.out) hb); replace HO0_1 := Aside0.mk (Kd.V_below (by (with_reducible repeat (first | apply Kd.V_alloc | apply Kd.V_drewN | apply Kd.V_drew)); exact HO0_1.out) hb); replace aa := xB aa hb; replace ad := xB ad hb; replace HB := xS HB hb; (try clear hb); (try clear hb2); (try clear hk); (try clear hi); obtain ⟨ca, cb, cc, cd⟩ := cz2 ad))
  refine bodyPost_ret (results_ct rfl _ _ ac 26 #[.slice none 0 0, .slice none 0 0] (0, 0) _ rfl (by (with_reducible repeat (first | refine blk_drewN ?_ _ | refine blk_drew ?_ | refine blk_alloc ?_ _)); refine blk_put (cs := #[.slice none 0 0, .slice none 0 0]) ?_ 1 _ rfl; (with_reducible repeat (first | refine blk_drewN ?_ _ | refine blk_drew ?_ | refine blk_alloc ?_ _)); refine blk_put (cs := #[.slice none 0 0, .slice none 0 0]) ?_ 0 _ rfl; (with_reducible repeat (first | refine blk_drewN ?_ _ | refine blk_drew ?_ | refine blk_alloc ?_ _)); exact ad.out) Try.underlying26 rfl (by kernel_rfl)) rfl ?_; exact ⟨_, _, vw, by first | exact Kd.R_nil _ _ _ _ _ | exact Kd.N_nil _ _ _ _ _ | exact Kd.V_nil _ _ _ _ _ | exact Kd.Q_nil _ _ _ _ _ | exact Kd.S_nil _ _ _ _ _, by first | exact Kd.R_nil _ _ _ _ _ | exact Kd.N_nil _ _ _ _ _ | exact Kd.V_nil _ _ _ _ _ | exact Kd.Q_nil _ _ _ _ _ | exact Kd.S_nil _ _ _ _ _, zS HB.out⟩

/-! ### laws_at: function 13 -/
def laws_at.f (l0 : List Int) (a1 : Int) : Option (Int) := if a1 < (l0.length : Int) then (if 0 ≤ a1 then (some (wrap64 (rd l0 a1))) else (none)) else (some (Int.tmod (wrap64 ((wrap64 (a1 * 7)) + (l0.length : Int))) 256))
set_option maxHeartbeats 8000000 in
set_option maxRecDepth 100000 in
theorem laws_at.calls (A0 : Option Addr) (c0 : Nat) (l0 : List Int) (a1 : Int) (r : Int) (w : World) (hr0 : Kd.C (Kd.int .u8) w A0 l0.length l0) (hc0 : l0.length ≤ c0) (h : laws_at.f l0 a1 = some r) :
    Calls Try.prog 13 #[.slice A0 l0.length c0, .int .i64 a1] w fun e w' => e = .returned (.int .i64 r) ∧ Drawn0 w w' := by
  have HR0 := Aside0.mk hr0
  have HC0 := Aside0.mk hc0
  clear hr0 hc0
  have H : (if a1 < (l0.length : Int) then (if 0 ≤ a1 then (some (wrap64 (rd l0 a1))) else (none)) else (some (Int.tmod (wrap64 ((wrap64 (a1 * 7)) + (l0.length : Int))) 256))) = some r := h
  clear h
  by_cases c3 : a1 < (l0.length : Int)
  · rw [if_pos c3] at H
    have ab : decide (a1 < (l0.length : Int)) = true := decide_eq_true c3
    clear c3
    by_cases c4 : 0 ≤ a1
    · rw [if_pos c4] at H
      have ad : decide (0 ≤ a1) = true := decide_eq_true c4
      clear c4
      obtain rfl := Option.some.inj H
      have aa : 0 ≤ (a1 : Int) := oD
      have q422 : a1 < (l0.length : Int) := oD
      obtain ⟨ad422, e422, ac⟩ := Kd.at_int HR0.out a1 aa q422
      cases e422
      replace aa := eq_true aa
      replace q422 := eq_true q422
      go_enter Try.func13, Try.ntmps13
      go_wp2
      go_ret
      exact ⟨by first | rfl | (simp; done) | (simp [*]; done), by repeat (first | exact Drawn0.refl _ | apply Drawn0.step)⟩
    · rw [if_neg c4] at H
      exact absurd H (by simp)
  · rw [if_neg c3] at H
    have ab : decide (a1 < (l0.length : Int)) = false := decide_eq_false c3
    clear c3
    obtain rfl := Option.some.inj H
    go_enter Try.func13, Try.ntmps13
    go_wp2
    go_ret
    exact ⟨by first | rfl | (simp; done) | (simp [*]; done), by repeat (first | exact Drawn0.refl _ | apply Drawn0.step)⟩

section
open Go.Proofs.Ytbdcchbhelehcaa.Short2.T
abbrev impl_copyWord.bl0 : Array Bool := #[f, f, f, f, f, f, f, f]
abbrev impl_copyWord.bl1 : Array Bool := #[t, f, f, f, f, f, f, f]
abbrev impl_copyWord.bl2 : Array Bool := #[t, f, f, t, f, f, f, f]
abbrev impl_copyWord.bl3 : Array Bool := #[t, t, f, t, f, f, f, f]
abbrev impl_copyWord.bl4 : Array Bool := #[t, t, f, t, t, f, f, f]
abbrev impl_copyWord.bl5 : Array Bool := #[t, t, t, t, t, f, f, f]
abbrev impl_copyWord.bl6 : Array Bool := #[t, t, t, t, t, t, f, f]
abbrev impl_copyWord.bl7 : Array Bool := #[t, t, t, t, t, t, t, f]
abbrev impl_copyWord.bl8 : Array Bool := #[t, t, t, t, t, t, t, t]
end
/-! ### impl_copyWord: function 36 -/
def impl_copyWord.f (l0_0 : List Int) (l0_1 : List Int) : Option (List Int × List Int) := (slices_Clone_int_int.f l0_0).bind fun t425 => ((slices_Clone_int_int.f l0_1).bind fun t428 => (some (t425, t428)))
def impl_copyWord.T1 : Bool × List (List Nat × List Nat) := (true, [([], []), ([0], [0]), ([1], [1]), ([], []), ([3], [3]), ([4, 2], [4]), ([2, 5], [2, 5]), ([6, 5, 0, 1, 2, 3, 4, 5, 6], [6])])
def impl_copyWord.B1 : List Nat := [0, 1, 3, 0, 8, 31, 63, 127]
theorem impl_copyWord.tab1 : rtab .any (opsOf Try.f36 1) = impl_copyWord.T1 := by kernel_rfl
theorem impl_copyWord.bits1 : waitsOk impl_copyWord.T1.2 impl_copyWord.B1 = true := by kernel_rfl
open Go.Proofs.Ytbdcchbhelehcaa.Short2 in
set_option maxHeartbeats 8000000 in
set_option maxRecDepth 100000 in
theorem impl_copyWord.calls (A0_0 : Option Addr) (c0_0 : Nat) (l0_0 : List Int) (A0_1 : Option Addr) (c0_1 : Nat) (l0_1 : List Int) (r1 : List Int) (r2 : List Int) (w : World) (hr0_0 : Kd.C (Kd.int .i64) w A0_0 l0_0.length l0_0) (hc0_0 : l0_0.length ≤ c0_0) (hr0_1 : Kd.C (Kd.int .i64) w A0_1 l0_1.length l0_1) (hc0_1 : l0_1.length ≤ c0_1) (h : impl_copyWord.f l0_0 l0_1 = some (r1, r2)) :
  Calls Try.prog 36 #[.agg #[.slice A0_0 l0_0.length c0_0, .slice A0_1 l0_1.length c0_1]] w fun e w' => ∃ v0_ v1_ : Value, e = .returned (.agg #[v0_, v1_]) ∧ Kd.R (Kd.int .i64) 3 w' w.heap.size (fun k_ => some k_ ≠ (v1_ : Value).ownBlock) v0_ r1 ∧ Kd.R (Kd.int .i64) 3 w' w.heap.size (fun k_ => some k_ ≠ (v0_ : Value).ownBlock) v1_ r2 ∧ Below w.heap.size w w' := by
 have hu26 := Try.underlying26; have HR0_0 := Aside0.mk hr0_0; have HC0_0 := Aside0.mk hc0_0; clear hr0_0 hc0_0; have HR0_1 := Aside0.mk hr0_1; have HC0_1 := Aside0.mk hc0_1; clear hr0_1 hc0_1; have HB := Aside0.mk (Below.refl w.heap.size w); have H : ((slices_Clone_int_int.f l0_0).bind fun ad => ((slices_Clone_int_int.f l0_1).bind fun ae => (some (ad, ae)))) = some (r1, r2) := h; clear h; replace H := bI H; obtain ⟨ad, an, H⟩ := H; replace H : ((slices_Clone_int_int.f l0_1).bind fun ae => (some (ad, ae))) = some (r1, r2) := H; have A2 := Aside0.mk an; clear an; replace H := bI H; obtain ⟨ae, ao, H⟩ := H; replace H : (some (ad, ae)) = some (r1, r2) := H; have A3 := Aside0.mk ao; clear ao; simp only [Option.some.injEq, Prod.mk.injEq] at H; obtain ⟨rfl, rfl⟩ := H
 go_enter Try.func36, Try.ntmps36
 try go_wp2_with (first | ((with_reducible refine gate_dst (N := 1) rfl ?_); refine bx_ 1 #[.slice A0_0 l0_0.length c0_0, .slice A0_1 l0_1.length c0_1] 26 ?_; intro ai hg w4 hbox hb; have aa := Aside0.mk (hbox); have ay := xG HB hg; have az := xG HB hg; replace HB := xS HB hb; clear hb hbox hg) | ((with_reducible refine gate_dst (N := 2) rfl ?_); refine bx_ 2 #[.slice none 0 0, .slice none 0 0] 26 ?_; intro ah hg w5 hbox hb; have ab := Aside0.mk (hbox); have aA := xG HB hg; have aB := xG HB hg; replace HB := xS HB hb; have ac := xN aa hg; have ag := xM aa hg; replace aa := xB aa hb; clear hb hbox hg))
 replace aa := Aside0.mk (blk_drew aa.out); replace ab := Aside0.mk (blk_drew ab.out); replace HB := Aside0.mk (below_drew1 HB.out); refine start_ (n := 8) (S := fun w' => w'.cell? ⟨ai, 0, none⟩ = some (.slice A0_0 l0_0.length c0_0) ∧ w'.cell? ⟨ai, 1, none⟩ = some (.slice A0_1 l0_1.length c0_1)) (ds := []) bl0 (by kernel_rfl) rfl rfl ⟨b1 aa 0, b1 aa 1⟩ (fun hHeld => ?_); refine with_tabW impl_copyWord.tab1 impl_copyWord.bits1 (fun HT_ HW_ => ?_); generalize w5.drew = w6 at aa ab HB hHeld ⊢
 refine pv_ 0 (some 3) bl1 HT_ ?_
 refine pv_ 3 (some 6) bl2 HT_ ?_
 refine tk_ 1 (some 4) bl3 HT_ HW_ hHeld ?_
 refine tk_ 4 (some 7) bl4 HT_ HW_ hHeld ?_
 refine on_ 2 (some 5) bl5 HT_ (fun K hK => ?_); refine gs_ Try.func24 #[.slice A0_0 l0_0.length c0_0] ?_
 with_reducible refine (slices_Clone_int_int.calls _ _ l0_0 ad _ ?side1 ?side2 A2.out).mono ?_
 (case side1 => exact zC (Kd.C_below HR0_0.out HB.out))
 (case side2 => exact HC0_0.out)
 rintro e w7 ⟨aE, rfl, ho0, hb⟩; refine ⟨_, rfl, ?_⟩; have af := rW0 ho0 HB; replace aa := xB aa hb; replace ab := xB ab hb; replace HB := xS HB hb
 (try clear hb)
 (try clear hb2)
 (try clear hk)
 (try clear hi)
 (try clear ho0)
 refine hK.out _ _ ⟨b1 aa 0, b1 aa 1⟩ (fun hHeld => ?_); clear hK K; refine nr_ (some 5) ?_
 refine on_ 5 (some 8) bl6 HT_ (fun K hK => ?_); refine gs_ Try.func24 #[.slice A0_1 l0_1.length c0_1] ?_
 with_reducible refine (slices_Clone_int_int.calls _ _ l0_1 ae _ ?side1 ?side2 A3.out).mono ?_
 (case side1 => exact zC (Kd.C_below HR0_1.out HB.out))
 (case side2 => exact HC0_1.out)
 rintro e w8 ⟨aF, rfl, ho0, hb⟩; refine ⟨_, rfl, ?_⟩; have aj := rW1 ho0 af HB; replace af := xE af ho0 hb; replace aa := xB aa hb; replace ab := xB ab hb; replace HB := xS HB hb
 (try clear hb)
 (try clear hb2)
 (try clear hk)
 (try clear hi)
 (try clear ho0)
 obtain ⟨aw, ax, ap⟩ := Kd.R_slice aj.out
 (first | subst ap | (injection ap with f1_ f2_ f3_; have f4_ := f1_.symm; have f5_ := f3_.symm; clear f1_ f2_ f3_; subst f4_; subst f5_))
 obtain ⟨ak, al, am⟩ := Kd.R_slice af.out
 (first | subst am | (injection am with f1_ f2_ f3_; have f4_ := f1_.symm; have f5_ := f3_.symm; clear f1_ f2_ f3_; subst f4_; subst f5_))
 refine hK.out _ _ ⟨b1 aa 0, b1 aa 1⟩ (fun hHeld => ?_); clear hK K; refine nr_ (some 8) ?_
 refine pv_ 6 (some 9) bl7 HT_ ?_
 refine on_ 7 (none) bl8 HT_ (fun K hK => ?_); have aG : w8.cell? ⟨ah, 0, none⟩ = some (.slice none 0 0) := b1 ab 0; have aC := blk_frozen ab.out 0; have aq := ac.out; have ar := ag.out; have aH : w8.cell? ⟨ah, 1, none⟩ = some (.slice none 0 0) := b1 ab 1; have aD := blk_frozen ab.out 1; have au := ac.out; have av := ag.out; refine skip_ (w1 := ?_) (by rfl) rfl ?_ ?_; rotate_left
 ·go_simp; rfl
 refine hK.out _ _ ⟨(cf2 (hHeld.1) ac.out), (cf2 (hHeld.2) ac.out)⟩ (fun hHeld => ?_); clear hK K; refine done_ (done_of HT_.out (by kernel_rfl)) ?_
 try go_wp2
 refine bodyPost_ret (results_cell_row rfl _ _ ah 26 #[.slice ak ad.length al, .slice aw ae.length ax] (0, 0) _ rfl (by (with_reducible repeat (first | refine blk_drewN ?_ _ | refine blk_drew ?_ | refine blk_alloc ?_ _)); refine blk_put (cs := #[.slice ak ad.length al, .slice none 0 0]) ?_ 1 _ rfl; (with_reducible repeat (first | refine blk_drewN ?_ _ | refine blk_drew ?_ | refine blk_alloc ?_ _)); refine blk_put (cs := #[.slice none 0 0, .slice none 0 0]) ?_ 0 _ rfl; (with_reducible repeat (first | refine blk_drewN ?_ _ | refine blk_drew ?_ | refine blk_alloc ?_ _)); exact ab.out) Try.underlying26 rfl (by kernel_rfl)) rfl ?_; exact ⟨_, _, vw, rM (Aside0.mk (yF2 af ab)) (fun _ hk => hk.1.2), by (with_reducible repeat (first | apply Kd.R_alloc | apply Kd.R_drewN | apply Kd.R_drew)); exact Kd.R_mono (yF2 aj ab) (fun _ hk => hk.1.2), zS HB.out⟩

end Go.Proofs.Ytbdcchbhelehcaa.MFnLetters3
