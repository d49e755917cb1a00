import Derived.Test.YtbfghpbmalpdbaaBaseA
import Derived.Test.YtbfghpbmalpdbaaBaseK
namespace Go.Proofs.Ytbfghpbmalpdbaa.Base
open Go Go.RowKit Go.Proofs.YtbfghpbmalpdbaaW.PrintWords
theorem passZ_closed {E:Type} (f t:E→Int) (l:List E):(∀ e∈l,0≤t e∧t e≤30)→∀ s,SetZ s→passZ f t s l=s→∀ e∈l,hasZ s (f e)=true→hasZ s (t e)=true:=by
  induction l with
  | nil=>intro _ s _ _ e he;simp at he
  | cons x l ih=>
    intro hl s hs hp e he hf
    have hx:=hl x List.mem_cons_self
    have hl':=fun y hy=>hl y (List.mem_cons_of_mem _ hy)
    have hp':passZ f t (if hasZ s (f x) then putZ s (t x) else s) l=s:=hp
    have key:hasZ s (f x)=true→hasZ s (t x)=true:=by
      intro h
      rw[if_pos h]at hp'
      have:=passZ_mono f t l hl' (putZ s (t x)) (t x) (by rw[hasZ_put hx.1 hx.2];simp)
      rwa [hp']at this
    rcases List.mem_cons.1 he with rfl|he
    · exact key hf
    refine ih hl' s hs ?_ e he hf
    by_cases h:hasZ s (f x)=true
    · rw[if_pos h,putZ_has hs.1 (key h)]at hp';exact hp'
    rw[if_neg h]at hp';exact hp'
def subZ (a b:Int):Prop:=∀ i:Int,hasZ a i=true→hasZ b i=true
theorem and_subZ {a b:Int} (ha:SetZ a) (hb:SetZ b) (h:subZ a b):Go.bits .and .i64 a b=a:=by
  obtain ⟨m,rfl⟩:=Int.eq_ofNat_of_zero_le ha.1
  obtain ⟨n,rfl⟩:=Int.eq_ofNat_of_zero_le hb.1
  have hm:=ha.2
  have hn:=hb.2
  have h63:=nat63
  rw[i64_and m n (by omega) (by omega)]
  congr 1
  apply Nat.eq_of_testBit_eq
  intro j
  rw[Nat.testBit_and]
  by_cases hj:j≤30
  · cases hc:m.testBit j
    · rfl
    have h1:hasZ (m:Int) (j:Int)=true:=by
      unfold hasZ
      rw[inR_iff.2 ⟨by omega,by omega⟩]
      simpa using hc
    have h2:=h _ h1
    unfold hasZ at h2
    rw[Bool.and_eq_true]at h2
    simpa using h2.2
  have:m.testBit j=false:=Nat.testBit_lt_two_pow (Nat.lt_of_lt_of_le (show m<2 ^ 31 by omega) (Nat.pow_le_pow_right (by decide) (by omega)))
  rw[this];rfl
theorem hasZ_range {s i:Int} (h:hasZ s i=true):0≤i∧i≤30:=by
  unfold hasZ at h
  rw[Bool.and_eq_true]at h
  exact inR_iff.1 h.1
theorem hasZ_below {s st:Int} (h0:0≤s) (h1:s<bitZ st) (hst:0≤st):∀ i,hasZ s i=true→i<st:=by
  intro i h
  have hr:=hasZ_range h
  unfold hasZ at h
  rw[Bool.and_eq_true]at h
  obtain ⟨m,rfl⟩:=Int.eq_ofNat_of_zero_le h0
  obtain ⟨n,rfl⟩:=Int.eq_ofNat_of_zero_le hst
  obtain ⟨j,rfl⟩:=Int.eq_ofNat_of_zero_le hr.1
  rw[bitZ_nat]at h1
  have h2:m.testBit j=true:=by simpa using h.2
  by_cases hj:j<n
  · omega
  have:m.testBit j=false:=Nat.testBit_lt_two_pow (Nat.lt_of_lt_of_le (show m<2 ^ n by omega) (Nat.pow_le_pow_right (by decide) (by omega)))
  rw[this]at h2;cases h2
theorem passZ_below {E:Type} (f t:E→Int) (st:Int) (l:List E) (hl:∀ e∈l,0≤t e∧t e≤30∧t e<st):∀ s,(∀ i,hasZ s i=true→i<st)→∀ i,hasZ (passZ f t s l) i=true→i<st:=by
  induction l with
  | nil=>intro s h;exact h
  | cons e l ih=>
    intro s h
    unfold passZ
    have he:=hl e List.mem_cons_self
    refine ih (fun x hx=>hl x (List.mem_cons_of_mem _ hx)) _ ?_
    split
    · intro i hi
      rw[hasZ_put he.1 he.2.1,Bool.or_eq_true]at hi
      rcases hi with hi|hi
      · exact h i hi
      rw[decide_eq_true_eq]at hi;omega
    exact h
theorem iterZ_below {E:Type} (f t:E→Int) (st:Int) (l:List E) (hl:∀ e∈l,0≤t e∧t e≤30∧t e<st):∀ n s,(∀ i,hasZ s i=true→i<st)→∀ i,hasZ (iterZ f t l n s) i=true→i<st:=by
  intro n
  induction n with
  | zero=>intro s h;exact h
  | succ n ih=>intro s h;exact ih _ (passZ_below f t st l hl s h)
theorem listFrom_none (s:Int) (d:Nat):∀ j,(∀ i:Nat,j≤i→hasZ s (i:Int)=false)→listFrom s j d=[]:=by
  induction d with
  | zero=>intro j _;rfl
  | succ d ih=>
    intro j h
    unfold listFrom
    rw[h j (Nat.le_refl _),ih (j+1) (fun i hi=>h i (by omega))]
    simp
theorem listFrom_all {s:Int} {n:Nat} (hn:n≤31) (h:∀ i,hasZ s i=true→i<n):listFrom s 0 31=listFrom s 0 n:=by
  have:=listFrom_split s (31 - n) n 0
  rw[show n+(31 - n)=31 by omega]at this
  rw[this,listFrom_none s (31 - n) (0+n) (fun i hi=>by
    cases hb:hasZ s (i:Int)
    · rfl
    have:=h _ hb;omega),List.append_nil]
theorem rankZ_mono (s:Int) (i d:Nat):rankZ s i≤rankZ s (i+d):=by
  unfold rankZ
  rw[listFrom_split,List.length_append]
  omega
theorem rankZ_less {s:Int} {a b:Nat} (ha:hasZ s (a:Int)=true) (h:a<b):rankZ s a<rankZ s b:=by
  have h1:=rankZ_mono s (a+1) (b - (a+1))
  rw[show a+1+(b - (a+1))=b by omega,rankZ_has ha]at h1
  omega
theorem startF_range (s t:Int) (d:Nat):∀ (i:Nat) (a:Int),i+d≤31→0≤a→a<bitZ (rankZ s i)→0≤startF s t d i a∧startF s t d i a<bitZ (rankZ s (i+d)):=by
  induction d with
  | zero=>intro i a _ h0 h1;exact ⟨h0,h1⟩
  | succ d ih=>
    intro i a hi h0 h1
    have hr:=rankZ_range s i
    rw[show i+(d+1)=i+1+d by omega]
    rw[show startF s t (d+1) i a=startF s t d (i+1) (if hasZ s (i:Int) then (if hasZ t (i:Int) then Go.bits .or .i64 a (bitZ (rankZ s i)) else a) else a) from rfl]
    have hb:=bitZ_le31 (i:=rankZ s i) (by omega)
    by_cases h:hasZ s (i:Int)=true
    · rw[if_pos h]
      have hd:bitZ (rankZ s (i+1))=2 * bitZ (rankZ s i):=by
        rw[rankZ_has h]
        obtain ⟨m,hm⟩:=Int.eq_ofNat_of_zero_le hr.1
        rw[hm,show (m:Int)+1=((m+1:Nat):Int) by omega,bitZ_nat,bitZ_nat,Nat.pow_succ]
        omega
      have hp:=bitZ_pos (rankZ s i)
      by_cases h2:hasZ t (i:Int)=true
      · rw[if_pos h2,or_bitZ a _ h0 (by omega) hr.1 (by omega)]
        refine ih (i+1) _ (by omega) (by unfold putZ;omega) ?_
        rw[rankZ_has h]
        obtain ⟨m,hm⟩:=Int.eq_ofNat_of_zero_le hr.1
        obtain ⟨y,rfl⟩:=Int.eq_ofNat_of_zero_le h0
        rw[hm]at h1 ⊢
        rw[show (m:Int)+1=((m+1:Nat):Int) by omega,bitZ_nat]
        rw[bitZ_nat]at h1
        unfold putZ
        have h3:2 ^ m<2 ^ (m+1):=Nat.pow_lt_pow_right (by decide) (by omega)
        have:=Nat.or_lt_two_pow (x:=y) (y:=2 ^ m) (n:=m+1) (by omega) h3
        simp only[Int.toNat_natCast]
        omega
      rw[if_neg h2]
      exact ih (i+1) a (by omega) h0 (by omega)
    rw[if_neg h]
    exact ih (i+1) a (by omega) h0 (by rw[rankZ_not h];exact h1)
theorem lessK_trans {a b c:Key} (h1:lessK a b=true) (h2:lessK b c=true):lessK a c=true:=by
  rw[lessK_iff]at h1 h2 ⊢
  omega
theorem edgesB_less {E:Type} {key:E→Key} {more:E→Bool} {n st:Int} {l:List E}:∀ {q:E},edgesB key more n st (some q) l=true→∀ e∈l,lessK (key q) (key e)=true:=by
  induction l with
  | nil=>intro q _ e he;simp at he
  | cons x l ih=>
    intro q h e he
    simp only[edgesB,Bool.and_eq_true]at h
    obtain ⟨h1,h2,h3,h4⟩:=h
    rcases List.mem_cons.1 he with rfl|he
    · exact h3
    exact lessK_trans h3 (ih h4 e he)
end Go.Proofs.Ytbfghpbmalpdbaa.Base
