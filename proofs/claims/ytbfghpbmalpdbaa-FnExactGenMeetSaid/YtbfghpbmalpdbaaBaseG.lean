import Derived.Test.YtbfghpbmalpdbaaBaseV
namespace Go.Proofs.Ytbfghpbmalpdbaa.Base
open Go Go.RowKit Go.Proofs.YtbfghpbmalpdbaaW.PrintWords
theorem setZ_ext {a b:Int} (ha:SetZ a) (hb:SetZ b) (h:∀ i,hasZ a i=hasZ b i):a=b:=by
  have h1:=and_subZ ha hb (fun i hi=>by rw[← h i];exact hi)
  have h2:=and_subZ hb ha (fun i hi=>by rw[h i];exact hi)
  obtain ⟨m,rfl⟩:=Int.eq_ofNat_of_zero_le ha.1
  obtain ⟨n,rfl⟩:=Int.eq_ofNat_of_zero_le hb.1
  have hm:=ha.2
  have hn:=hb.2
  have h63:=nat63
  rw[i64_and m n (by omega) (by omega)]at h1
  rw[i64_and n m (by omega) (by omega),Nat.and_comm]at h2
  omega
theorem setOfL_of (l:List Int):∀ a s,SetZ a→setOfL a l=(s,true)→SetZ s∧(∀ x∈l,0≤x∧x≤30)∧∀ i,hasZ s i=(hasZ a i || decide (i∈l)):=by
  induction l with
  | nil=>
    intro a s ha h
    obtain rfl:a=s:=congrArg Prod.fst h
    exact ⟨ha,fun x hx=>by simp at hx,fun i=>by simp⟩
  | cons x l ih=>
    intro a s ha h
    unfold setOfL at h
    by_cases hx:inR x 0 30=true
    · rw[if_pos hx]at h
      have hx':=inR_iff.1 hx
      obtain ⟨h1,h2,h3⟩:=ih _ s (SetZ_put ha hx'.2) h
      refine ⟨h1,fun y hy=>?_,fun i=>?_⟩
      · rcases List.mem_cons.1 hy with rfl|hy
        · exact hx'
        exact h2 y hy
      rw[h3 i,hasZ_put hx'.1 hx'.2]
      by_cases e:i=x
      · simp[e]
      simp[e]
    rw[if_neg hx]at h
    cases h
theorem setOfL_all (l:List Int):(∀ x∈l,0≤x∧x≤30)→∀ a,∃ s,setOfL a l=(s,true):=by
  induction l with
  | nil=>intro _ a;exact ⟨a,rfl⟩
  | cons x l ih=>
    intro h a
    unfold setOfL
    rw[if_pos (inR_iff.2 (h x List.mem_cons_self))]
    exact ih (fun y hy=>h y (List.mem_cons_of_mem _ hy)) _
theorem setOfL_bad (l:List Int):∀ a s,setOfL a l=(s,false)→s=0:=by
  induction l with
  | nil=>intro a s h;cases h
  | cons x l ih=>
    intro a s h
    unfold setOfL at h
    by_cases hx:inR x 0 30=true
    · rw[if_pos hx]at h;exact ih _ s h
    rw[if_neg hx]at h;exact (congrArg Prod.fst h).symm
theorem mem_listFrom {s:Int} (d:Nat):∀ (j:Nat) (i:Int),i∈listFrom s j d↔hasZ s i=true∧(j:Int)≤i∧i<(j:Int)+d:=by
  induction d with
  | zero=>intro j i;simp[listFrom]
  | succ d ih=>
    intro j i
    unfold listFrom
    by_cases h:hasZ s (j:Int)=true
    · rw[if_pos h,List.mem_cons,ih (j+1) i]
      constructor
      · rintro (rfl|⟨h1,h2,h3⟩)
        · exact ⟨h,by omega,by omega⟩
        exact ⟨h1,by omega,by omega⟩
      rintro ⟨h1,h2,h3⟩
      by_cases e:i=(j:Int)
      · exact .inl e
      exact .inr ⟨h1,by omega,by omega⟩
    rw[if_neg h,ih (j+1) i]
    constructor
    · rintro ⟨h1,h2,h3⟩
      exact ⟨h1,by omega,by omega⟩
    rintro ⟨h1,h2,h3⟩
    by_cases e:i=(j:Int)
    · rw[e]at h1;exact absurd h1 h
    exact ⟨h1,by omega,by omega⟩
theorem mem_listOf {s:Int} (h:SetZ s) (i:Int):i∈listOf s↔hasZ s i=true:=by
  unfold listOf
  rw[if_pos (show okB s=true from inR_iff.2 h),mem_listFrom]
  constructor
  · exact fun h=>h.1
  intro h1
  have:=hasZ_range h1
  exact ⟨h1,by omega,by omega⟩
theorem setOfL_listOf {s:Int} (h:SetZ s):setOfL 0 (listOf s)=(s,true):=by
  obtain ⟨s',e⟩:=setOfL_all (listOf s) (fun x hx=>hasZ_range ((mem_listOf h x).1 hx)) 0
  obtain ⟨h1,_,h3⟩:=setOfL_of (listOf s) 0 s' ⟨by omega,by omega⟩ e
  rw[e]
  congr 1
  refine setZ_ext h1 h (fun i=>?_)
  rw[h3 i]
  have h0:hasZ 0 i=false:=by unfold hasZ;simp
  rw[h0,Bool.false_or]
  cases hb:hasZ s i
  · exact decide_eq_false (fun hm=>by rw[(mem_listOf h i).1 hm]at hb;cases hb)
  exact decide_eq_true ((mem_listOf h i).2 hb)
theorem count_put {s t:Int} (h0:0≤t) (h1:t≤30) (d:Nat):∀ j:Nat,(listFrom (putZ s t) j d).length≤(listFrom s j d).length+(if (j:Int)≤t∧t<(j:Int)+d then 1 else 0):=by
  induction d with
  | zero=>intro j;simp[listFrom]
  | succ d ih=>
    intro j
    have h:=ih (j+1)
    unfold listFrom
    rw[hasZ_put h0 h1]
    by_cases e:(j:Int)=t
    · rw[if_neg (by omega)]at h
      rw[if_pos (show (j:Int)≤t∧t<(j:Int)+((d+1:Nat):Int) by omega)]
      split <;> (try split) <;> (try simp only[List.length_cons]) <;> omega
    rw[decide_eq_false e,Bool.or_false]
    by_cases e2:(j:Int)≤t∧t<(j:Int)+((d+1:Nat):Int)
    · rw[if_pos (by omega)]at h
      rw[if_pos e2]
      split <;> (try simp only[List.length_cons]) <;> omega
    rw[if_neg (by omega)]at h
    rw[if_neg e2]
    split <;> (try simp only[List.length_cons]) <;> omega
theorem setOfL_count (l:List Int):∀ a s,setOfL a l=(s,true)→(listFrom s 0 31).length≤(listFrom a 0 31).length+l.length:=by
  induction l with
  | nil=>
    intro a s h
    obtain rfl:a=s:=congrArg Prod.fst h
    simp
  | cons x l ih=>
    intro a s h
    unfold setOfL at h
    by_cases hx:inR x 0 30=true
    · rw[if_pos hx]at h
      have hx':=inR_iff.1 hx
      have h1:=ih _ s h
      have h2:=count_put (s:=a) hx'.1 hx'.2 31 0
      rw[if_pos (by omega)]at h2
      rw[List.length_cons]
      omega
    rw[if_neg hx]at h
    cases h
theorem less_bit {s i:Int} (hs:SetZ s) (hi:hasZ s i=true):SetZ (s - bitZ i)∧∀ j,hasZ (s - bitZ i) j=(hasZ s j && decide (j≠i)):=by
  have hr:=hasZ_range hi
  obtain ⟨m,rfl⟩:=Int.eq_ofNat_of_zero_le hs.1
  obtain ⟨n,rfl⟩:=Int.eq_ofNat_of_zero_le hr.1
  have hm:=hs.2
  have hb:m.testBit n=true:=by
    unfold hasZ at hi
    rw[Bool.and_eq_true]at hi
    simpa using hi.2
  have hand:=and_bit m n
  rw[if_pos hb]at hand
  have hle:2 ^ n≤m:=by rw[← hand];exact Nat.and_le_left
  have h63:=nat63
  have e:=andNot_toNat m (2 ^ n) (by omega) (by omega)
  rw[hand]at e
  have e2:(m:Int) - bitZ (n:Int)=((m - 2 ^ n:Nat):Int):=by rw[bitZ_nat];omega
  rw[e2]
  have hp:=Nat.two_pow_pos n
  refine ⟨⟨by omega,by omega⟩,fun j=>?_⟩
  unfold hasZ
  by_cases hj:inR j 0 30=true
  · have hj':=inR_iff.1 hj
    rw[hj,Bool.true_and,Bool.true_and,Int.toNat_natCast,Int.toNat_natCast,← e,BitVec.testBit_toNat,BitVec.getLsbD_and,BitVec.getLsbD_not,BitVec.getLsbD_ofNat,BitVec.getLsbD_ofNat,Nat.testBit_two_pow,decide_eq_true (show j.toNat<64 by omega),Bool.true_and,Bool.true_and,Bool.true_and]
    congr 1
    rw[← decide_not,decide_eq_decide]
    omega
  simp at hj
  rw[hj]
  rfl
end Go.Proofs.Ytbfghpbmalpdbaa.Base
