import Derived.Test.YtkpeajafgldpbaaGreatWMore
import Derived.Laws.BitsLemmas
import Derived.Laws.BitsAllLaws
namespace Go.Proofs.YtkpeajafgldpbaaGreat.Base
open Go Go.RowKit Go.Proofs.YtkpeajafgldpbaaGreatW.PrintWords
theorem wrap_i64_id {n:Int} (h0:-9223372036854775808≤n) (h1:n≤9223372036854775807):IntKind.i64.wrap n=n:=by
  rw[IntKind.wrap_i64];omega
theorem wrap_u64 (n:Int):IntKind.u64.wrap n=n % 18446744073709551616:=by simp[IntKind.wrap,IntKind.bits,IntKind.signed]
theorem wrap_u64_id {n:Int} (h0:0≤n) (h1:n≤9223372036854775807):IntKind.u64.wrap n=n:=by
  rw[wrap_u64];omega
theorem nat63:(2:Nat) ^ 63=9223372036854775808:=by decide +kernel
theorem wrapsI64 (n:Int) (h0:0≤n) (h1:n<2 ^ 63):IntKind.i64.wrap n=n:=wrap_i64_id (by omega) (by omega)
theorem i64_and (a b:Nat) (ha:a<2 ^ 63) (hb:b<2 ^ 63):Go.bits .and .i64 (a:Int) (b:Int)=((a &&& b:Nat):Int):=
  (bits_nat .i64 63 (by decide) wrapsI64 a b ha hb).1
theorem i64_or (a b:Nat) (ha:a<2 ^ 63) (hb:b<2 ^ 63):Go.bits .or .i64 (a:Int) (b:Int)=((a ||| b:Nat):Int):=
  (bits_nat .i64 63 (by decide) wrapsI64 a b ha hb).2
theorem pow_le_31 {n:Nat} (h:n≤31):2 ^ n≤2147483648:=by
  have:=Nat.pow_le_pow_right (n:=2) (by decide) h
  omega
theorem pow_le_62 {n:Nat} (h:n≤62):2 ^ n≤4611686018427387904:=by
  have:=Nat.pow_le_pow_right (n:=2) (by decide) h
  omega
def bitZ (i:Int):Int:=((2 ^ i.toNat:Nat):Int)
theorem bitZ_nat (n:Nat):bitZ (n:Int)=((2 ^ n:Nat):Int):=by simp[bitZ]
theorem bitZ_pos (i:Int):0<bitZ i:=by unfold bitZ;have:=Nat.two_pow_pos i.toNat;omega
theorem bitZ_le31 {i:Int} (h:i≤31):bitZ i≤2147483648:=by unfold bitZ;have:=pow_le_31 (n:=i.toNat) (by omega);omega
theorem shl_pow (a n:Nat) (ha:a * 2 ^ n<2 ^ 63) (hn:n≤63):shl .i64 (a:Int) (n:Int)=((a * 2 ^ n:Nat):Int):=by
  unfold shl
  have:(min (n:Int).toNat IntKind.i64.bits)=n:=by simp[IntKind.bits];omega
  rw[this]
  have e:((a:Int) * 2 ^ n)=((a * 2 ^ n:Nat):Int):=by simp
  rw[e]
  exact wrapsI64 _ (by omega) (by exact_mod_cast ha)
theorem shl_one (n:Nat) (hn:n≤62):shl .i64 1 (n:Int)=bitZ n:=by
  have:=shl_pow 1 n (by have:=pow_le_62 hn;omega) (by omega)
  simpa [bitZ] using this
theorem shr_nat (a n:Nat) (hn:n≤63):shr .i64 (a:Int) (n:Int)=((a / 2 ^ n:Nat):Int):=by
  unfold shr
  have:(min (n:Int).toNat IntKind.i64.bits)=n:=by simp[IntKind.bits];omega
  rw[this]
  simp
theorem and31 (n:Nat) (h:n≤31):Go.bits .and .i64 (n:Int) 31=n:=by
  have:=i64_and n 31 (by omega) (by omega)
  rw[nat_mask5,Nat.mod_eq_of_lt (by omega)]at this
  exact this
theorem and_bit (a n:Nat):a &&& 2 ^ n=if a.testBit n then 2 ^ n else 0:=by
  rw[nat_bit,Nat.testBit_eq_decide_div_mod_eq]
  by_cases h:a / 2 ^ n % 2=1
  · simp[h]
  have:a / 2 ^ n % 2=0:=by omega
  simp[this]
def inR (a lo hi:Int):Bool:=decide (lo≤a∧a≤hi)
theorem inR_iff {a lo hi:Int}:inR a lo hi=true↔lo≤a∧a≤hi:=by simp[inR]
theorem inR_false {a lo hi:Int}:inR a lo hi=false↔¬ (lo≤a∧a≤hi):=by rw[← inR_iff];simp
def okB (s:Int):Bool:=inR s 0 2147483647
def hasZ (s i:Int):Bool:=inR i 0 30 && s.toNat.testBit i.toNat
def putZ (s i:Int):Int:=((s.toNat ||| 2 ^ i.toNat:Nat):Int)
theorem and_bitZ (s i:Int) (h0:0≤s) (h1:s<9223372036854775808) (hi0:0≤i) (hi:i≤31):Go.bits .and .i64 s (bitZ i)=if s.toNat.testBit i.toNat then bitZ i else 0:=by
  obtain ⟨a,rfl⟩:=Int.eq_ofNat_of_zero_le h0
  obtain ⟨n,rfl⟩:=Int.eq_ofNat_of_zero_le hi0
  have:=pow_le_31 (n:=n) (by omega)
  rw[bitZ_nat,i64_and _ _ (by omega) (by omega),and_bit]
  simp only[Int.toNat_natCast]
  split <;> simp
theorem or_bitZ (s i:Int) (h0:0≤s) (h1:s<9223372036854775808) (hi0:0≤i) (hi:i≤31):Go.bits .or .i64 s (bitZ i)=putZ s i:=by
  obtain ⟨a,rfl⟩:=Int.eq_ofNat_of_zero_le h0
  obtain ⟨n,rfl⟩:=Int.eq_ofNat_of_zero_le hi0
  have:=pow_le_31 (n:=n) (by omega)
  rw[bitZ_nat,i64_or _ _ (by omega) (by omega)]
  simp[putZ]
theorem shr_and_one (s i:Int) (h0:0≤s) (h1:s<9223372036854775808) (hi0:0≤i) (hi:i≤63):(Go.bits .and .i64 (shr .i64 s i) 1 == 1)=s.toNat.testBit i.toNat:=by
  obtain ⟨a,rfl⟩:=Int.eq_ofNat_of_zero_le h0
  obtain ⟨n,rfl⟩:=Int.eq_ofNat_of_zero_le hi0
  have hle:a / 2 ^ n≤a:=Nat.div_le_self _ _
  rw[shr_nat _ _ (by omega)]
  have:=i64_and (a / 2 ^ n) 1 (by omega) (by omega)
  rw[nat_mask1]at this
  rw[show (1:Int)=((1:Nat):Int) from rfl,this,Nat.testBit_eq_decide_div_mod_eq]
  simp only[Int.toNat_natCast]
  rw[Bool.eq_iff_iff]
  simp only[beq_iff_eq,decide_eq_true_eq]
  omega
theorem putZ_range (s i:Int) (h0:0≤s) (h1:s≤2147483647) (hi:i≤30):0≤putZ s i∧putZ s i≤2147483647:=by
  unfold putZ
  have h2:s.toNat<2 ^ 31:=by omega
  have h3:2 ^ i.toNat<2 ^ 31:=Nat.pow_lt_pow_right (by decide) (by omega)
  have:=Nat.or_lt_two_pow h2 h3
  omega
end Go.Proofs.YtkpeajafgldpbaaGreat.Base
