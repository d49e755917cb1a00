/- Drawn numbers: what the cursor's arithmetic stays within. Plain numbers; nothing of the program is in sight. -/
import Derived.Test.YtbdcchbhelehcaaBaseL
namespace Go.Proofs.Ytbdcchbhelehcaa.Base
open Go Go.RowKit Go.Proofs.YtbdcchbhelehcaaW.PrintWords

theorem and_mask_range (x : Int) (y : Nat) (hy : y < 9223372036854775808) : 0 ≤ Go.bits .and .i64 x (y : Int) ∧ Go.bits .and .i64 x (y : Int) ≤ y := by
  have e : Go.bits .and .i64 x (y : Int) = IntKind.i64.wrap (((BitVec.ofInt 64 x &&& BitVec.ofInt 64 (y : Int)).toNat : Nat) : Int) := rfl
  have h1 : (BitVec.ofInt 64 x &&& BitVec.ofInt 64 (y : Int)).toNat ≤ y := by
    rw [BitVec.toNat_and]
    refine Nat.le_trans Nat.and_le_right ?_
    rw [BitVec.ofInt_natCast, BitVec.toNat_ofNat]
    exact Nat.mod_le _ _
  rw [e, wrapsI64 _ (by omega) (by omega)]
  omega
theorem and255_range (x : Int) : 0 ≤ Go.bits .and .i64 x 255 ∧ Go.bits .and .i64 x 255 ≤ 255 := and_mask_range x 255 (by omega)
/-- The cursor's place in its bytes. -/
def CurOk (b : List Int) (i : Int) : Prop := 0 ≤ i ∧ i ≤ b.length
theorem tmod_range {a n : Int} (h0 : 0 ≤ a) (hn : 0 < n) : 0 ≤ Int.tmod a n ∧ Int.tmod a n < n := by
  rw [Int.tmod_eq_emod_of_nonneg h0]
  exact ⟨Int.emod_nonneg _ (by omega), Int.emod_lt_of_pos _ hn⟩
end Go.Proofs.Ytbdcchbhelehcaa.Base
