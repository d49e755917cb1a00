import Derived.Test.YtkpeajafgldpbaaGreatBaseA
namespace Go.Proofs.YtkpeajafgldpbaaGreat.Base
open Go Go.RowKit Go.Proofs.YtkpeajafgldpbaaGreatW.PrintWords
theorem or_shl (s t a b:Int) (hs:0≤s) (hs1:s<bitZ a) (ht:0≤t) (ht1:t<bitZ b) (ha:0≤a) (hb:0≤b) (hab:a+b≤31) :
    0≤Go.bits .or .i64 s (shl .i64 t a)∧Go.bits .or .i64 s (shl .i64 t a)<bitZ (a+b):=by
  obtain ⟨m,rfl⟩:=Int.eq_ofNat_of_zero_le ha
  obtain ⟨n,rfl⟩:=Int.eq_ofNat_of_zero_le hb
  obtain ⟨x,rfl⟩:=Int.eq_ofNat_of_zero_le hs
  obtain ⟨y,rfl⟩:=Int.eq_ofNat_of_zero_le ht
  rw[bitZ_nat]at hs1 ht1
  have h31:=pow_le_31 (n:=m+n) (by omega)
  have hx:x<2 ^ m:=by omega
  have hy:y<2 ^ n:=by omega
  have hm:2 ^ m≤2 ^ (m+n):=Nat.pow_le_pow_right (by decide) (by omega)
  have hy2:y * 2 ^ m<2 ^ (m+n):=by
    rw[Nat.pow_add,Nat.mul_comm (2 ^ m)]
    exact Nat.mul_lt_mul_of_pos_right hy (Nat.two_pow_pos m)
  have hn63:=nat63
  rw[shl_pow y m (by omega) (by omega),i64_or _ _ (by omega) (by omega),show (m:Int)+n=((m+n:Nat):Int) by omega,bitZ_nat]
  have:=Nat.or_lt_two_pow (x:=x) (y:=y * 2 ^ m) (n:=m+n) (by omega) hy2
  omega
end Go.Proofs.YtkpeajafgldpbaaGreat.Base
