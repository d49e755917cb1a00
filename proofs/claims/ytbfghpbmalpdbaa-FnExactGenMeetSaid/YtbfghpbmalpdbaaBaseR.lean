import Derived.Test.YtbfghpbmalpdbaaBaseL
namespace Go.Proofs.Ytbfghpbmalpdbaa.Base
open Go Go.RowKit Go.Proofs.YtbfghpbmalpdbaaW.PrintWords
theorem putZ_nat (s t:Int):(putZ s t).toNat=s.toNat ||| 2 ^ t.toNat:=by simp[putZ]
theorem hasZ_put {s t i:Int} (ht0:0≤t) (ht:t≤30):hasZ (putZ s t) i=(hasZ s i || decide (i=t)):=by
  unfold hasZ
  rw[putZ_nat,Nat.testBit_or,Nat.testBit_two_pow]
  by_cases h:inR i 0 30=true
  · have h':=inR_iff.1 h
    rw[h]
    simp only[Bool.true_and]
    congr 1
    rw[decide_eq_decide]
    omega
  have h':¬ (0≤i∧i≤30):=fun e=>h (inR_iff.2 e)
  simp at h
  rw[h,decide_eq_false (show ¬ i=t by omega)]
  rfl
theorem putZ_has {s t:Int} (h0:0≤s) (h:hasZ s t=true):putZ s t=s:=by
  simp only[hasZ,Bool.and_eq_true]at h
  unfold putZ
  have e:s.toNat ||| 2 ^ t.toNat=s.toNat:=by
    apply Nat.eq_of_testBit_eq
    intro j
    rw[Nat.testBit_or,Nat.testBit_two_pow]
    by_cases hj:t.toNat=j
    · subst hj;rw[h.2];rfl
    rw[decide_eq_false hj];simp
  rw[e];omega
def SetZ (s:Int):Prop:=0≤s∧s≤2147483647
theorem SetZ_put {s t:Int} (h:SetZ s) (ht:t≤30):SetZ (putZ s t):=putZ_range s t h.1 h.2 ht
def passZ {E:Type} (f t:E→Int):Int→List E→Int
  | s,[]=>s
  | s,e :: l=>passZ f t (if hasZ s (f e) then putZ s (t e) else s) l
theorem passZ_set {E:Type} (f t:E→Int) (l:List E) (hl:∀ e∈l,0≤t e∧t e≤30):∀ s,SetZ s→SetZ (passZ f t s l):=by
  induction l with
  | nil=>intro s h;exact h
  | cons e l ih=>
    intro s h
    unfold passZ
    refine ih (fun x hx=>hl x (List.mem_cons_of_mem _ hx)) _ ?_
    split
    · exact SetZ_put h (hl e List.mem_cons_self).2
    exact h
theorem passZ_mono {E:Type} (f t:E→Int) (l:List E) (hl:∀ e∈l,0≤t e∧t e≤30):∀ s i,hasZ s i=true→hasZ (passZ f t s l) i=true:=by
  induction l with
  | nil=>intro s i h;exact h
  | cons e l ih=>
    intro s i h
    unfold passZ
    have he:=hl e List.mem_cons_self
    refine ih (fun x hx=>hl x (List.mem_cons_of_mem _ hx)) _ _ ?_
    split
    · rw[hasZ_put he.1 he.2,h];rfl
    exact h
def lackZ (s:Int):Nat→Nat
  | 0=>0
  | n+1=>lackZ s n+(if hasZ s (n:Int) then 0 else 1)
theorem lackZ_le (s:Int) (n:Nat):lackZ s n≤n:=by
  induction n with
  | zero=>exact Nat.le_refl _
  | succ n ih=>unfold lackZ;split <;> omega
theorem lackZ_put {s t:Int} (ht0:0≤t) (ht:t≤30) (hs:hasZ s t=false) (n:Nat):lackZ (putZ s t) n+(if t<n then 1 else 0)=lackZ s n:=by
  induction n with
  | zero=>rw[if_neg (show ¬ t<((0:Nat):Int) by omega)];rfl
  | succ n ih=>
    unfold lackZ
    rw[hasZ_put ht0 ht]
    by_cases h:(n:Int)=t
    · rw[if_neg (show ¬ t<(n:Int) by omega)]at ih
      rw[if_pos (show t<((n+1:Nat):Int) by omega),h,hs]
      simp
      omega
    rw[decide_eq_false h,Bool.or_false]
    by_cases h':t<(n:Int)
    · rw[if_pos h']at ih
      rw[if_pos (show t<((n+1:Nat):Int) by omega)]
      omega
    rw[if_neg h']at ih
    rw[if_neg (show ¬ t<((n+1:Nat):Int) by omega)]
    omega
theorem passZ_lack {E:Type} (f t:E→Int) (n:Nat) (hn:n≤31) (l:List E) (hl:∀ e∈l,0≤t e∧t e<n):∀ s,SetZ s→passZ f t s l=s∨lackZ (passZ f t s l) n<lackZ s n:=by
  induction l with
  | nil=>intro s _;exact .inl rfl
  | cons e l ih=>
    intro s h
    have he:=hl e List.mem_cons_self
    have ih':=ih (fun x hx=>hl x (List.mem_cons_of_mem _ hx))
    unfold passZ
    by_cases hf:hasZ s (f e)=true
    · rw[if_pos hf]
      by_cases ht:hasZ s (t e)=true
      · rw[putZ_has h.1 ht];exact ih' s h
      simp at ht
      have:=lackZ_put (s:=s) (t:=t e) he.1 (by omega) ht n
      rw[if_pos he.2]at this
      rcases ih' _ (SetZ_put (t:=t e) h (by omega)) with e1|e1
      · right;rw[e1];omega
      right;omega
    rw[if_neg hf];exact ih' s h
def iterZ {E:Type} (f t:E→Int) (l:List E):Nat→Int→Int
  | 0,s=>s
  | n+1,s=>iterZ f t l n (passZ f t s l)
theorem iterZ_fix {E:Type} {f t:E→Int} {l:List E} {s:Int} (h:passZ f t s l=s) (n:Nat):iterZ f t l n s=s:=by
  induction n with
  | zero=>rfl
  | succ n ih=>unfold iterZ;rw[h,ih]
theorem iterZ_set {E:Type} (f t:E→Int) (l:List E) (hl:∀ e∈l,0≤t e∧t e≤30):∀ n s,SetZ s→SetZ (iterZ f t l n s):=by
  intro n
  induction n with
  | zero=>intro s h;exact h
  | succ n ih=>intro s h;exact ih _ (passZ_set f t l hl s h)
theorem iterZ_mono {E:Type} (f t:E→Int) (l:List E) (hl:∀ e∈l,0≤t e∧t e≤30):∀ n s i,hasZ s i=true→hasZ (iterZ f t l n s) i=true:=by
  intro n
  induction n with
  | zero=>intro s i h;exact h
  | succ n ih=>intro s i h;exact ih _ _ (passZ_mono f t l hl s i h)
theorem iterZ_rest {E:Type} (f t:E→Int) (l:List E) (n:Nat) (hn:n≤31) (hl:∀ e∈l,0≤t e∧t e<n):∀ d s,SetZ s→lackZ s n≤d→∀ m,d≤m→passZ f t (iterZ f t l m s) l=iterZ f t l m s∧iterZ f t l m s=iterZ f t l d s:=by
  intro d
  induction d with
  | zero=>
    intro s h hd m hm
    rcases passZ_lack f t n hn l hl s h with e|e
    · rw[iterZ_fix e,iterZ_fix e];exact ⟨e,rfl⟩
    omega
  | succ d ih=>
    intro s h hd m hm
    rcases passZ_lack f t n hn l hl s h with e|e
    · rw[iterZ_fix e,iterZ_fix e];exact ⟨e,rfl⟩
    obtain ⟨m,rfl⟩:∃ m',m=m'+1:=⟨m - 1,by omega⟩
    exact ih _ (passZ_set f t l (fun x hx=>by have:=hl x hx;omega) s h) (by omega) m (by omega)
def reachZ {E:Type} (f t:E→Int) (l:List E) (n:Nat) (s:Int):Int:=iterZ f t l (n+1) s
theorem reachZ_rest {E:Type} (f t:E→Int) (l:List E) (n:Nat) (hn:n≤31) (hl:∀ e∈l,0≤t e∧t e<n) (s:Int) (h:SetZ s):passZ f t (reachZ f t l n s) l=reachZ f t l n s:=
  (iterZ_rest f t l n hn hl n s h (lackZ_le s n) (n+1) (by omega)).1
end Go.Proofs.Ytbfghpbmalpdbaa.Base
