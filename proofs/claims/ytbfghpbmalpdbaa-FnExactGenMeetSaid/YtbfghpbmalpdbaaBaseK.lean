import Derived.Test.YtbfghpbmalpdbaaBaseS
import Derived.Test.YtbfghpbmalpdbaaBaseR
namespace Go.Proofs.Ytbfghpbmalpdbaa.Base
open Go Go.RowKit Go.Proofs.YtbfghpbmalpdbaaW.PrintWords
theorem listFrom_split (s:Int) (d:Nat) (i:Nat):∀ j,listFrom s j (i+d)=listFrom s j i ++ listFrom s (j+i) d:=by
  induction i with
  | zero=>intro j;rw[Nat.zero_add];rfl
  | succ i ih=>
    intro j
    rw[show i+1+d=(i+d)+1 by omega,show j+(i+1)=j+1+i by omega]
    rw[show listFrom s j (i+d+1)=if hasZ s (j:Int) then (j:Int) :: listFrom s (j+1) (i+d) else listFrom s (j+1) (i+d) from rfl,show listFrom s j (i+1)=if hasZ s (j:Int) then (j:Int) :: listFrom s (j+1) i else listFrom s (j+1) i from rfl,ih (j+1)]
    split <;> rfl
def rankZ (s:Int) (i:Nat):Int:=((listFrom s 0 i).length:Int)
theorem rankZ_range (s:Int) (i:Nat):0≤rankZ s i∧rankZ s i≤i:=by
  have:=listFrom_length s i 0
  unfold rankZ
  omega
theorem listFrom_one (s:Int) (i:Nat):listFrom s 0 (i+1)=listFrom s 0 i ++ if hasZ s (i:Int) then [(i:Int)] else []:=by
  rw[listFrom_split,Nat.zero_add]
  unfold listFrom
  rfl
theorem rankZ_has {s:Int} {i:Nat} (h:hasZ s (i:Int)=true):rankZ s (i+1)=rankZ s i+1:=by
  unfold rankZ
  rw[listFrom_one,if_pos h,List.length_append];rfl
theorem rankZ_not {s:Int} {i:Nat} (h:¬ hasZ s (i:Int)=true):rankZ s (i+1)=rankZ s i:=by
  unfold rankZ
  rw[listFrom_one,if_neg h,List.append_nil]
theorem listFrom_rank {s:Int} {i n:Nat} (hi:i<n) (h:hasZ s (i:Int)=true):rankZ s i<((listFrom s 0 n).length:Int)∧(listFrom s 0 n).getD (rankZ s i).toNat 0=i:=by
  have e:=listFrom_split s (n - i) i 0
  rw[show i+(n - i)=n by omega,Nat.zero_add,show n - i=(n - i - 1)+1 by omega,show listFrom s i (n - i - 1+1)=if hasZ s (i:Int) then (i:Int) :: listFrom s (i+1) (n - i - 1) else listFrom s (i+1) (n - i - 1) from rfl,if_pos h]at e
  rw[e]
  unfold rankZ
  constructor
  · rw[List.length_append,List.length_cons];omega
  rw[Int.toNat_natCast,List.getD_eq_getElem?_getD,List.getElem?_append_right (Nat.le_refl _),Nat.sub_self];rfl
def startF (s t:Int):Nat→Nat→Int→Int
  | 0,_,a=>a
  | d+1,i,a=>startF s t d (i+1) (if hasZ s (i:Int) then (if hasZ t (i:Int) then Go.bits .or .i64 a (bitZ (rankZ s i)) else a) else a)
theorem listFrom_mask (s st:Int) (h0:0≤s) (h2:0≤st) (d:Nat):∀ i,listFrom (s % bitZ st) i d=listFrom s i (min d (st.toNat - i)):=by
  induction d with
  | zero=>intro i;rw[Nat.zero_min];rfl
  | succ d ih=>
    intro i
    have hb:hasZ (s % bitZ st) (i:Int)=(hasZ s (i:Int) && decide (i<st.toNat)):=by
      obtain ⟨m,rfl⟩:=Int.eq_ofNat_of_zero_le h0
      obtain ⟨n,rfl⟩:=Int.eq_ofNat_of_zero_le h2
      unfold hasZ
      rw[bitZ_nat,show ((m:Int) % ((2 ^ n:Nat):Int))=((m % 2 ^ n:Nat):Int) by omega,Int.toNat_natCast,Int.toNat_natCast,Int.toNat_natCast,Int.toNat_natCast,Nat.testBit_mod_two_pow]
      cases inR (i:Int) 0 30 <;> simp[Bool.and_comm]
    rw[show listFrom (s % bitZ st) i (d+1)=if hasZ (s % bitZ st) (i:Int) then (i:Int) :: listFrom (s % bitZ st) (i+1) d else listFrom (s % bitZ st) (i+1) d from rfl,hb,ih]
    by_cases h:i<st.toNat
    · rw[show min (d+1) (st.toNat - i)=min d (st.toNat - (i+1))+1 by omega,decide_eq_true h,Bool.and_true]
      rfl
    rw[show min (d+1) (st.toNat - i)=0 by omega,show min d (st.toNat - (i+1))=0 by omega,decide_eq_false h,Bool.and_false]
    rfl
end Go.Proofs.Ytbfghpbmalpdbaa.Base
