import Derived.Test.YtkpeajafgldpbaaGreatBaseA
import Derived.Test.YtkpeajafgldpbaaGreatBaseK
namespace Go.Proofs.YtkpeajafgldpbaaGreat.Base
open Go Go.RowKit Go.Proofs.YtkpeajafgldpbaaGreatW.PrintWords
theorem hasZ_range {s i:Int} (h:hasZ s i=true):0≤i∧i≤30:=by
  unfold hasZ at h
  rw[Bool.and_eq_true]at h
  exact inR_iff.1 h.1
theorem hasZ_below {s st:Int} (h0:0≤s) (h1:s<bitZ st) (hst:0≤st):∀ i,hasZ s i=true→i<st:=by
  intro i h
  have hr:=hasZ_range h
  unfold hasZ at h
  rw[Bool.and_eq_true]at h
  obtain ⟨m,rfl⟩:=Int.eq_ofNat_of_zero_le h0
  obtain ⟨n,rfl⟩:=Int.eq_ofNat_of_zero_le hst
  obtain ⟨j,rfl⟩:=Int.eq_ofNat_of_zero_le hr.1
  rw[bitZ_nat]at h1
  have h2:m.testBit j=true:=by simpa using h.2
  by_cases hj:j<n
  · omega
  have:m.testBit j=false:=Nat.testBit_lt_two_pow (Nat.lt_of_lt_of_le (show m<2 ^ n by omega) (Nat.pow_le_pow_right (by decide) (by omega)))
  rw[this]at h2;cases h2
theorem listFrom_none (s:Int) (d:Nat):∀ j,(∀ i:Nat,j≤i→hasZ s (i:Int)=false)→listFrom s j d=[]:=by
  induction d with
  | zero=>intro j _;rfl
  | succ d ih=>
    intro j h
    unfold listFrom
    rw[h j (Nat.le_refl _),ih (j+1) (fun i hi=>h i (by omega))]
    simp
theorem listFrom_all {s:Int} {n:Nat} (hn:n≤31) (h:∀ i,hasZ s i=true→i<n):listFrom s 0 31=listFrom s 0 n:=by
  have:=listFrom_split s (31 - n) n 0
  rw[show n+(31 - n)=31 by omega]at this
  rw[this,listFrom_none s (31 - n) (0+n) (fun i hi=>by
    cases hb:hasZ s (i:Int)
    · rfl
    have:=h _ hb;omega),List.append_nil]
theorem lessK_trans {a b c:Key} (h1:lessK a b=true) (h2:lessK b c=true):lessK a c=true:=by
  rw[lessK_iff]at h1 h2 ⊢
  omega
theorem edgesB_less {E:Type} {key:E→Key} {more:E→Bool} {n st:Int} {l:List E}:∀ {q:E},edgesB key more n st (some q) l=true→∀ e∈l,lessK (key q) (key e)=true:=by
  induction l with
  | nil=>intro q _ e he;simp at he
  | cons x l ih=>
    intro q h e he
    simp only[edgesB,Bool.and_eq_true]at h
    obtain ⟨h1,h2,h3,h4⟩:=h
    rcases List.mem_cons.1 he with rfl|he
    · exact h3
    exact lessK_trans h3 (ih h4 e he)
end Go.Proofs.YtkpeajafgldpbaaGreat.Base
