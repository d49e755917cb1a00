/- How many bits of a number below 2^31 are set: the sums over fields of two, four, eight bits come to just that. Plain numbers; nothing of the program is in sight. -/
import Derived.Test.YtgnjacjinhadaaaDoorBaseS
namespace Go.Proofs.YtgnjacjinhadaaaDoor.Base
open Go Go.RowKit Go.Proofs.YtgnjacjinhadaaaDoorW.PrintWords

theorem and_bytes (a y m M : Nat) (ha : a < 256) (hm : m < 256) : (a + 256 * y) &&& (m + 256 * M) = (a &&& m) + 256 * (y &&& M) := by
  apply Nat.eq_of_testBit_eq
  intro j
  have ham : a &&& m < 2 ^ 8 := Nat.and_lt_two_pow _ (by omega)
  rw [Nat.testBit_and, Nat.add_comm a, Nat.add_comm m, Nat.add_comm (a &&& m)]
  rw [show (256 : Nat) = 2 ^ 8 from rfl, Nat.testBit_two_pow_mul_add _ (by omega), Nat.testBit_two_pow_mul_add _ (by omega), Nat.testBit_two_pow_mul_add _ ham]
  split
  · rw [Nat.testBit_and]
  · rw [Nat.testBit_and]

def g1 (v : Nat) : Nat := (v / 2 &&& 85) + (v &&& 85)
def g2 (v : Nat) : Nat := (v / 4 &&& 51) + (v &&& 51)
def g3 (v : Nat) : Nat := (v / 16 + v) &&& 15
def cnt8 (v : Nat) : Nat := v % 2 + v / 2 % 2 + v / 4 % 2 + v / 8 % 2 + v / 16 % 2 + v / 32 % 2 + v / 64 % 2 + v / 128 % 2

theorem g_all : ∀ v, v < 256 → g1 v < 256 ∧ g2 (g1 v) % 16 ≤ 4 ∧ g2 (g1 v) / 16 ≤ 4 ∧ g3 (g2 (g1 v)) = cnt8 v ∧ cnt8 v ≤ 8 ∧ g3 (g2 (g1 v)) = g2 (g1 v) / 16 + g2 (g1 v) % 16 := by
  decide +kernel
theorem mask1 : ∀ v, v < 128 → ∀ c, c < 2 → ((v + 128 * c) &&& 85) = (v &&& 85) := by decide +kernel
theorem mask2 : ∀ v, v < 64 → ∀ c, c < 4 → ((v + 64 * c) &&& 51) = (v &&& 51) := by decide +kernel
theorem mask3 : ∀ v, v < 16 → ∀ c, c < 16 → ((v + 16 * c) &&& 15) = v := by decide +kernel

theorem step1 (a y M : Nat) (ha : a < 256) : (((a + 256 * y) / 2) &&& (85 + 256 * M)) + ((a + 256 * y) &&& (85 + 256 * M)) = g1 a + 256 * ((y / 2 &&& M) + (y &&& M)) := by
  have e : (a + 256 * y) / 2 = (a / 2 + 128 * (y % 2)) + 256 * (y / 2) := by omega
  rw [e, and_bytes _ _ _ _ (by omega) (by omega), and_bytes _ _ _ _ ha (by omega), mask1 _ (by omega) _ (by omega)]
  unfold g1
  omega
theorem step2 (a y M : Nat) (ha : a < 256) : (((a + 256 * y) / 4) &&& (51 + 256 * M)) + ((a + 256 * y) &&& (51 + 256 * M)) = g2 a + 256 * ((y / 4 &&& M) + (y &&& M)) := by
  have e : (a + 256 * y) / 4 = (a / 4 + 64 * (y % 4)) + 256 * (y / 4) := by omega
  rw [e, and_bytes _ _ _ _ (by omega) (by omega), and_bytes _ _ _ _ ha (by omega), mask2 _ (by omega) _ (by omega)]
  unfold g2
  omega
theorem step3 (a y M : Nat) (ha : a % 16 ≤ 4) (ha2 : a / 16 ≤ 4) (hy : y % 16 ≤ 4) : (((a + 256 * y) / 16 + (a + 256 * y)) &&& (15 + 256 * M)) = (a / 16 + a % 16) + 256 * ((y / 16 + y) &&& M) := by
  have e : (a + 256 * y) / 16 + (a + 256 * y) = ((a / 16 + a % 16) + 16 * (y % 16 + a / 16)) + 256 * (y / 16 + y) := by omega
  rw [e, and_bytes _ _ _ _ (by omega) (by omega), mask3 _ (by omega) _ (by omega)]

/-- The whole, in plain numbers. -/
def onesN (x : Nat) : Nat :=
  let x1 := (x / 2 &&& 6148914691236517205) + (x &&& 6148914691236517205)
  let x2 := (x1 / 4 &&& 3689348814741910323) + (x1 &&& 3689348814741910323)
  let x3 := (x2 / 16 + x2) &&& 1085102592571150095
  let x4 := x3 / 256 + x3
  let x5 := x4 / 65536 + x4
  (x5 / 4294967296 + x5) % 128
theorem parts1 (a b c d : Nat) (ha : a < 256) (hb : b < 256) (hc : c < 256) (hd : d < 256) :
    ((a + 256 * (b + 256 * (c + 256 * (d + 256 * 0)))) / 2 &&& 6148914691236517205) + ((a + 256 * (b + 256 * (c + 256 * (d + 256 * 0)))) &&& 6148914691236517205) = g1 a + 256 * (g1 b + 256 * (g1 c + 256 * (g1 d + 256 * 0))) := by
  rw [show (6148914691236517205 : Nat) = 85 + 256 * (85 + 256 * (85 + 256 * (85 + 256 * 1431655765))) from rfl, step1 _ _ _ ha, step1 _ _ _ hb, step1 _ _ _ hc, step1 _ _ _ hd]
  simp
theorem parts2 (a b c d : Nat) (ha : a < 256) (hb : b < 256) (hc : c < 256) (hd : d < 256) :
    ((a + 256 * (b + 256 * (c + 256 * (d + 256 * 0)))) / 4 &&& 3689348814741910323) + ((a + 256 * (b + 256 * (c + 256 * (d + 256 * 0)))) &&& 3689348814741910323) = g2 a + 256 * (g2 b + 256 * (g2 c + 256 * (g2 d + 256 * 0))) := by
  rw [show (3689348814741910323 : Nat) = 51 + 256 * (51 + 256 * (51 + 256 * (51 + 256 * 858993459))) from rfl, step2 _ _ _ ha, step2 _ _ _ hb, step2 _ _ _ hc, step2 _ _ _ hd]
  simp
theorem parts3 (a b c d : Nat) (ha : a % 16 ≤ 4) (ha2 : a / 16 ≤ 4) (hb : b % 16 ≤ 4) (hb2 : b / 16 ≤ 4) (hc : c % 16 ≤ 4) (hc2 : c / 16 ≤ 4) (hd : d % 16 ≤ 4) (hd2 : d / 16 ≤ 4) :
    (((a + 256 * (b + 256 * (c + 256 * (d + 256 * 0)))) / 16 + (a + 256 * (b + 256 * (c + 256 * (d + 256 * 0))))) &&& 1085102592571150095) = (a / 16 + a % 16) + 256 * ((b / 16 + b % 16) + 256 * ((c / 16 + c % 16) + 256 * ((d / 16 + d % 16) + 256 * 0))) := by
  rw [show (1085102592571150095 : Nat) = 15 + 256 * (15 + 256 * (15 + 256 * (15 + 256 * 252645135))) from rfl, step3 _ _ _ ha ha2 (by omega), step3 _ _ _ hb hb2 (by omega), step3 _ _ _ hc hc2 (by omega), step3 _ _ _ hd hd2 (by omega)]
  simp
theorem fold_up (p0 p1 p2 p3 : Nat) (h0 : p0 ≤ 8) (h1 : p1 ≤ 8) (h2 : p2 ≤ 8) (h3 : p3 ≤ 8) :
    ((((p0 + 256 * (p1 + 256 * (p2 + 256 * (p3 + 256 * 0)))) / 256 + (p0 + 256 * (p1 + 256 * (p2 + 256 * (p3 + 256 * 0))))) / 65536 + ((p0 + 256 * (p1 + 256 * (p2 + 256 * (p3 + 256 * 0)))) / 256 + (p0 + 256 * (p1 + 256 * (p2 + 256 * (p3 + 256 * 0)))))) / 4294967296 +
      (((p0 + 256 * (p1 + 256 * (p2 + 256 * (p3 + 256 * 0)))) / 256 + (p0 + 256 * (p1 + 256 * (p2 + 256 * (p3 + 256 * 0))))) / 65536 + ((p0 + 256 * (p1 + 256 * (p2 + 256 * (p3 + 256 * 0)))) / 256 + (p0 + 256 * (p1 + 256 * (p2 + 256 * (p3 + 256 * 0))))))) % 128 = p0 + p1 + p2 + p3 ∧
    ((((p0 + 256 * (p1 + 256 * (p2 + 256 * (p3 + 256 * 0)))) / 256 + (p0 + 256 * (p1 + 256 * (p2 + 256 * (p3 + 256 * 0))))) / 65536 + ((p0 + 256 * (p1 + 256 * (p2 + 256 * (p3 + 256 * 0)))) / 256 + (p0 + 256 * (p1 + 256 * (p2 + 256 * (p3 + 256 * 0)))))) / 4294967296 +
      (((p0 + 256 * (p1 + 256 * (p2 + 256 * (p3 + 256 * 0)))) / 256 + (p0 + 256 * (p1 + 256 * (p2 + 256 * (p3 + 256 * 0))))) / 65536 + ((p0 + 256 * (p1 + 256 * (p2 + 256 * (p3 + 256 * 0)))) / 256 + (p0 + 256 * (p1 + 256 * (p2 + 256 * (p3 + 256 * 0))))))) % 128 ≤ 32 := by
  have e1 : (p0 + 256 * (p1 + 256 * (p2 + 256 * (p3 + 256 * 0)))) / 256 = p1 + 256 * p2 + 65536 * p3 := by omega
  rw [e1]
  have e2 : (p1 + 256 * p2 + 65536 * p3 + (p0 + 256 * (p1 + 256 * (p2 + 256 * (p3 + 256 * 0))))) / 65536 = p2 + p3 + 256 * p3 := by omega
  rw [e2]
  have e3 : (p2 + p3 + 256 * p3 + (p1 + 256 * p2 + 65536 * p3 + (p0 + 256 * (p1 + 256 * (p2 + 256 * (p3 + 256 * 0)))))) / 4294967296 = 0 := by omega
  rw [e3]
  have e4 : 0 + (p2 + p3 + 256 * p3 + (p1 + 256 * p2 + 65536 * p3 + (p0 + 256 * (p1 + 256 * (p2 + 256 * (p3 + 256 * 0)))))) = (p0 + p1 + p2 + p3) + 128 * (2 * p1 + 514 * p2 + 131586 * p3) := by omega
  rw [e4, Nat.add_mul_mod_self_left, Nat.mod_eq_of_lt (by omega)]
  omega
theorem onesN_eq (x : Nat) (hx : x < 4294967296) : onesN x = cnt8 (x % 256) + cnt8 (x / 256 % 256) + cnt8 (x / 65536 % 256) + cnt8 (x / 16777216 % 256) ∧ onesN x ≤ 32 := by
  obtain ⟨a, ha⟩ : ∃ a, a = x % 256 := ⟨_, rfl⟩
  obtain ⟨b, hb⟩ : ∃ b, b = x / 256 % 256 := ⟨_, rfl⟩
  obtain ⟨c, hc⟩ : ∃ c, c = x / 65536 % 256 := ⟨_, rfl⟩
  obtain ⟨d, hd⟩ : ∃ d, d = x / 16777216 % 256 := ⟨_, rfl⟩
  have e : x = a + 256 * (b + 256 * (c + 256 * (d + 256 * 0))) := by omega
  rw [← ha, ← hb, ← hc, ← hd]
  have ha' : a < 256 := by omega
  have hb' : b < 256 := by omega
  have hc' : c < 256 := by omega
  have hd' : d < 256 := by omega
  clear ha hb hc hd
  obtain ⟨a1, a2, a3, a4, a5, a6⟩ := g_all a ha'
  obtain ⟨b1, b2, b3, b4, b5, b6⟩ := g_all b hb'
  obtain ⟨c1, c2, c3, c4, c5, c6⟩ := g_all c hc'
  obtain ⟨d1, d2, d3, d4, d5, d6⟩ := g_all d hd'
  unfold onesN
  simp only
  rw [e, parts1 a b c d ha' hb' hc' hd', parts2 _ _ _ _ a1 b1 c1 d1, parts3 _ _ _ _ a2 a3 b2 b3 c2 c3 d2 d3, ← a6, ← b6, ← c6, ← d6, a4, b4, c4, d4]
  exact fold_up _ _ _ _ a5 b5 c5 d5

theorem hasZ_bit (s : Int) (i : Nat) (hi : i ≤ 30) : hasZ s (i : Int) = decide (s.toNat / 2 ^ i % 2 = 1) := by
  unfold hasZ
  rw [show inR (i : Int) 0 30 = true from inR_iff.2 (by omega), Nat.testBit_eq_decide_div_mod_eq]
  simp
theorem listFrom_cons (s : Int) (i d : Nat) (hi : i ≤ 30) : (listFrom s i (d + 1)).length = s.toNat / 2 ^ i % 2 + (listFrom s (i + 1) d).length := by
  have e : listFrom s i (d + 1) = if hasZ s (i : Int) then (i : Int) :: listFrom s (i + 1) d else listFrom s (i + 1) d := rfl
  rw [e, hasZ_bit s i hi]
  by_cases h : s.toNat / 2 ^ i % 2 = 1
  · rw [if_pos (by simpa using h), h, List.length_cons]; omega
  · rw [if_neg (by simpa using h)]; omega
theorem byte_bit (y : Nat) : y % 256 % 2 = y % 2 ∧ y % 256 / 2 % 2 = y / 2 % 2 ∧ y % 256 / 4 % 2 = y / 4 % 2 ∧ y % 256 / 8 % 2 = y / 8 % 2 ∧ y % 256 / 16 % 2 = y / 16 % 2 ∧ y % 256 / 32 % 2 = y / 32 % 2 ∧ y % 256 / 64 % 2 = y / 64 % 2 ∧ y % 256 / 128 % 2 = y / 128 % 2 := by
  refine ⟨by omega, by omega, by omega, by omega, by omega, by omega, by omega, by omega⟩
theorem div_pow_add (x j t : Nat) : x / 2 ^ (j + t) = x / 2 ^ j / 2 ^ t := by rw [Nat.pow_add, Nat.div_div_eq_div_mul]
theorem listFrom_seven (s : Int) (j d : Nat) (hj : j + 6 ≤ 30) : (listFrom s j (d + 7)).length = s.toNat / 2 ^ j % 2 + s.toNat / 2 ^ j / 2 % 2 + s.toNat / 2 ^ j / 4 % 2 + s.toNat / 2 ^ j / 8 % 2 + s.toNat / 2 ^ j / 16 % 2 + s.toNat / 2 ^ j / 32 % 2 + s.toNat / 2 ^ j / 64 % 2 + (listFrom s (j + 7) d).length := by
  rw [listFrom_cons _ _ _ (by omega), listFrom_cons _ _ _ (by omega), listFrom_cons _ _ _ (by omega), listFrom_cons _ _ _ (by omega), listFrom_cons _ _ _ (by omega), listFrom_cons _ _ _ (by omega), listFrom_cons _ _ _ (by omega)]
  simp only [Nat.add_assoc, Nat.reduceAdd]
  rw [div_pow_add _ j 1, div_pow_add _ j 2, div_pow_add _ j 3, div_pow_add _ j 4, div_pow_add _ j 5, div_pow_add _ j 6]
theorem listFrom_eight (s : Int) (j d : Nat) (hj : j + 7 ≤ 30) : (listFrom s j (d + 8)).length = cnt8 (s.toNat / 2 ^ j % 256) + (listFrom s (j + 8) d).length := by
  rw [show d + 8 = (d + 1) + 7 from rfl, listFrom_seven s j (d + 1) (by omega), listFrom_cons _ _ _ (by omega), div_pow_add _ j 7]
  obtain ⟨h0, h1, h2, h3, h4, h5, h6, h7⟩ := byte_bit (s.toNat / 2 ^ j)
  unfold cnt8
  rw [h0, h1, h2, h3, h4, h5, h6, h7]
  simp only [Nat.reducePow]
  rw [show j + 7 + 1 = j + 8 from rfl]
  omega
theorem listOf_count (s : Int) (h : okB s = true) : (listOf s).length = onesN s.toNat := by
  have hs := inR_iff.1 h
  rw [(onesN_eq s.toNat (by omega)).1]
  unfold listOf
  rw [if_pos h, listFrom_eight s 0 23 (by omega), listFrom_eight s 8 15 (by omega), listFrom_eight s 16 7 (by omega), listFrom_seven s 24 0 (by omega)]
  obtain ⟨h0, h1, h2, h3, h4, h5, h6, h7⟩ := byte_bit (s.toNat / 16777216)
  simp only [Nat.reducePow, Nat.div_one, listFrom, List.length_nil]
  rw [show cnt8 (s.toNat / 16777216 % 256) = _ from rfl]
  unfold cnt8
  rw [h0, h1, h2, h3, h4, h5, h6, h7]
  have : s.toNat / 16777216 / 128 = 0 := by omega
  rw [this]
  omega
theorem u64W (n : Nat) (h : n < 18446744073709551616) : IntKind.u64.wrap (n : Int) = (n : Int) := by rw [wrap_u64]; omega
theorem u64A (a b : Nat) (ha : a < 18446744073709551616) (hb : b < 18446744073709551616) : Go.bits .and .u64 (a : Int) (b : Int) = ((a &&& b : Nat) : Int) := u64_and_nat a b ha hb
/-- Where no wrap is needed. -/
theorem ones_wraps (x : Nat) (hx : x < 4294967296) :
    let x1 := (x / 2 &&& 6148914691236517205) + (x &&& 6148914691236517205)
    let x2 := (x1 / 4 &&& 3689348814741910323) + (x1 &&& 3689348814741910323)
    let x3 := (x2 / 16 + x2) &&& 1085102592571150095
    let x4 := x3 / 256 + x3
    let x5 := x4 / 65536 + x4
    x1 < 8589934592 ∧ x2 < 17179869184 ∧ x3 < 34359738368 ∧ x4 < 68719476736 ∧ x5 < 137438953472 ∧ x5 / 4294967296 + x5 < 274877906944 := by
  intro x1 x2 x3 x4 x5
  have a1 : x / 2 &&& 6148914691236517205 ≤ x / 2 := Nat.and_le_left
  have a2 : x &&& 6148914691236517205 ≤ x := Nat.and_le_left
  have h1 : x1 < 8589934592 := by omega
  have a3 : x1 / 4 &&& 3689348814741910323 ≤ x1 / 4 := Nat.and_le_left
  have a4 : x1 &&& 3689348814741910323 ≤ x1 := Nat.and_le_left
  have h2 : x2 < 17179869184 := by omega
  have a5 : (x2 / 16 + x2) &&& 1085102592571150095 ≤ x2 / 16 + x2 := Nat.and_le_left
  have h3 : x3 < 34359738368 := by omega
  omega
/-- The library's formula, as it is printed. -/
def onesZ (x : Int) : Int :=
  let x1 := IntKind.u64.wrap (Go.bits .and .u64 (x / 2) 6148914691236517205 + Go.bits .and .u64 x 6148914691236517205)
  let x2 := IntKind.u64.wrap (Go.bits .and .u64 (x1 / 4) 3689348814741910323 + Go.bits .and .u64 x1 3689348814741910323)
  let x3 := Go.bits .and .u64 (IntKind.u64.wrap (x2 / 16 + x2)) 1085102592571150095
  let x4 := IntKind.u64.wrap (x3 + x3 / 256)
  let x5 := IntKind.u64.wrap (x4 + x4 / 65536)
  Go.bits .and .i64 (wrap64 (IntKind.u64.wrap (x5 + x5 / 4294967296))) 127
theorem ones_formula (x : Nat) (hx : x < 4294967296) : onesZ (x : Int) = ((onesN x : Nat) : Int) := by
  obtain ⟨h1, h2, h3, h4, h5, h6⟩ := ones_wraps x hx
  unfold onesZ onesN
  simp only at h1 h2 h3 h4 h5 h6 ⊢
  have c1 : Go.bits .and .u64 ((x : Int) / 2) 6148914691236517205 + Go.bits .and .u64 (x : Int) 6148914691236517205 = (((x / 2 &&& 6148914691236517205) + (x &&& 6148914691236517205) : Nat) : Int) := by
    rw [show ((x : Int) / 2) = ((x / 2 : Nat) : Int) from by omega, show (6148914691236517205 : Int) = ((6148914691236517205 : Nat) : Int) from rfl, u64A _ _ (by omega) (by omega), u64A _ _ (by omega) (by omega)]
    omega
  rw [c1, u64W _ (by omega)]
  generalize (x / 2 &&& 6148914691236517205) + (x &&& 6148914691236517205) = x1 at *
  have c2 : Go.bits .and .u64 ((x1 : Int) / 4) 3689348814741910323 + Go.bits .and .u64 (x1 : Int) 3689348814741910323 = (((x1 / 4 &&& 3689348814741910323) + (x1 &&& 3689348814741910323) : Nat) : Int) := by
    rw [show ((x1 : Int) / 4) = ((x1 / 4 : Nat) : Int) from by omega, show (3689348814741910323 : Int) = ((3689348814741910323 : Nat) : Int) from rfl, u64A _ _ (by omega) (by omega), u64A _ _ (by omega) (by omega)]
    omega
  rw [c2, u64W _ (by omega)]
  generalize (x1 / 4 &&& 3689348814741910323) + (x1 &&& 3689348814741910323) = x2 at *
  rw [show ((x2 : Int) / 16 + (x2 : Int)) = ((x2 / 16 + x2 : Nat) : Int) from by omega, u64W _ (by omega), show (1085102592571150095 : Int) = ((1085102592571150095 : Nat) : Int) from rfl, u64A _ _ (by omega) (by omega)]
  generalize (x2 / 16 + x2) &&& 1085102592571150095 = x3 at *
  rw [show ((x3 : Int) + (x3 : Int) / 256) = ((x3 / 256 + x3 : Nat) : Int) from by omega, u64W _ (by omega)]
  generalize x3 / 256 + x3 = x4 at *
  rw [show ((x4 : Int) + (x4 : Int) / 65536) = ((x4 / 65536 + x4 : Nat) : Int) from by omega, u64W _ (by omega)]
  generalize x4 / 65536 + x4 = x5 at *
  rw [show ((x5 : Int) + (x5 : Int) / 4294967296) = ((x5 / 4294967296 + x5 : Nat) : Int) from by omega, u64W _ (by omega), wrap64_id (by omega) (by omega)]
  rw [show (127 : Int) = ((127 : Nat) : Int) from rfl, i64_and _ _ (by omega) (by omega)]
  rw [show (127 : Nat) = 2 ^ 7 - 1 from rfl, Nat.and_two_pow_sub_one_eq_mod]
end Go.Proofs.YtgnjacjinhadaaaDoor.Base
