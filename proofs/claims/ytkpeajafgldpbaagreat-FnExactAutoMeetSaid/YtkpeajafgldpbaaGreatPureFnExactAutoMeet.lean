import Derived.Test.YtkpeajafgldpbaaGreatMFnExactAutoMeetx19
import Derived.Test.YtkpeajafgldpbaaGreatBase
import Derived.Test.YtkpeajafgldpbaaGreatBaseA
import Derived.Test.YtkpeajafgldpbaaGreatBaseA2
import Derived.Test.YtkpeajafgldpbaaGreatBaseG
import Derived.Test.YtkpeajafgldpbaaGreatBaseL
import Derived.Test.YtkpeajafgldpbaaGreatBaseS
import Derived.Test.YtkpeajafgldpbaaGreatBaseV
import Derived.Test.YtkpeajafgldpbaaGreatBaseW
namespace Go.Proofs.YtkpeajafgldpbaaGreat.Pure
open Go.RowKit Go.Proofs.YtkpeajafgldpbaaGreat.MFnExactAutoMeet Go.Proofs.YtkpeajafgldpbaaGreatW.PrintWords Go.Proofs.YtkpeajafgldpbaaGreatW.PrintLast Go.Proofs.YtkpeajafgldpbaaGreat.Base
namespace hFnExactAutoMeet
theorem spec_l1In_eq (a b c:Int):spec_l1In.f a b c=some (inR a b c):=by
  unfold spec_l1In.f inR
  by_cases h:a ≥ b
  · rw[if_pos h];simp[show b≤a from h]
  rw[if_neg h];simp;omega
theorem impl_inRange_eq (a b c:Int):impl_inRange.f a b c=some (inR a b c):=by
  unfold impl_inRange.f inR
  by_cases h:a ≥ b
  · rw[if_pos h];simp[show b≤a from h]
  rw[if_neg h];simp;omega
theorem spec_SetOk_eq (s:Int):spec_SetOk.f s=some (okB s):=by
  simp only[spec_SetOk.f,spec_l1In_eq,Option.bind_some,okB]
theorem impl_SetOk_eq (s:Int):impl_SetOk.f s=some (okB s):=by
  simp only[impl_SetOk.f,impl_inRange_eq,Option.bind_some,okB]
theorem spec_l1Bit_eq (i:Int) (h0:0≤i) (h1:i≤31):spec_l1Bit.f i=some (bitZ i):=by
  obtain ⟨n,rfl⟩:=Int.eq_ofNat_of_zero_le h0
  unfold spec_l1Bit.f
  rw[and31 n (by omega),if_pos h0,shl_one n (by omega)]
theorem impl_only_eq (i:Int) (h0:0≤i) (h1:i≤62):impl_only.f i=some (bitZ i):=by
  obtain ⟨n,rfl⟩:=Int.eq_ofNat_of_zero_le h0
  unfold impl_only.f
  rw[wrap_u64_id h0 (by omega),if_pos h0,shl_one n (by omega)]
theorem spec_l1Has_eq (s i:Int) (h0:0≤s) (h1:s<9223372036854775808):spec_l1Has.f s i=some (hasZ s i):=by
  unfold spec_l1Has.f hasZ
  rw[spec_l1In_eq]
  simp only[Option.bind_some]
  by_cases h:inR i 0 30=true
  · have hi:=inR_iff.1 h
    have hp:=bitZ_pos i
    rw[if_pos h,spec_l1Bit_eq i hi.1 (by omega),h]
    simp only[Option.bind_some,Bool.true_and]
    rw[and_bitZ s i h0 h1 hi.1 (by omega)]
    congr 1
    by_cases hb:s.toNat.testBit i.toNat=true
    · rw[if_pos hb,hb];rw[bne_iff_ne];omega
    rw[if_neg hb];simp at hb;rw[hb];rfl
  rw[if_neg h];simp at h;rw[h];rfl
theorem impl_has_eq (s i:Int) (h0:0≤s) (h1:s<9223372036854775808) (hi0:0≤i) (hi:i≤62):impl_has.f s i=some (s.toNat.testBit i.toNat):=by
  unfold impl_has.f
  rw[wrap_u64_id hi0 (by omega),if_pos hi0,shr_and_one s i h0 h1 hi0 (by omega)]
theorem spec_SetIn_eq (a b:Int):spec_SetIn.f a b=some (okB a && okB b && (Go.bits .and .i64 a b == a)):=by
  unfold spec_SetIn.f
  rw[spec_SetOk_eq,spec_SetOk_eq]
  simp only[Option.bind_some]
  cases okB a <;> cases okB b <;> simp
theorem impl_SetList_l0 (s:Int) (h0:0≤s) (h1:s≤2147483647) (d:Nat):∀ (k i:Nat) (out:List Int),i+d=31→d<k→out.length≤i→impl_SetList.l0 k s out (i:Int)=some (out ++ listFrom s i d):=by
  induction d with
  | zero=>
    intro k i out hi hk ho
    obtain ⟨k,rfl⟩:=succ_of hk
    simp only[impl_SetList.l0]
    rw[if_neg (by omega)]
    simp[listFrom]
  | succ d ih=>
    intro k i out hi hk ho
    obtain ⟨k,rfl⟩:=succ_of hk
    simp only[impl_SetList.l0]
    rw[if_pos (by omega),impl_has_eq s _ h0 (by omega) (by omega) (by omega)]
    simp only[Option.bind_some]
    rw[wrap64_succ (by omega)]
    unfold listFrom
    have e:hasZ s (i:Int)=s.toNat.testBit (i:Int).toNat:=by
      unfold hasZ
      rw[show inR (i:Int) 0 30=true from inR_iff.2 (by omega)]
      rfl
    rw[e]
    by_cases hb:s.toNat.testBit (i:Int).toNat=true
    · rw[if_pos hb,if_pos (by omega),ih k (i+1) _ (by omega) (by omega) (by simp;omega),if_pos hb]
      simp
    rw[if_neg hb,ih k (i+1) _ (by omega) (by omega) (by omega),if_neg hb]
theorem impl_SetList_eq (s:Int) (k:Nat) (hk:70≤k):impl_SetList.f k s=some (listOf s):=by
  unfold impl_SetList.f listOf
  rw[impl_SetOk_eq]
  simp only[Option.bind_some]
  by_cases h:okB s=true
  · have hs:=inR_iff.1 h
    rw[if_pos h,if_pos h]
    have:=impl_SetList_l0 s hs.1 hs.2 31 k 0 [] (by omega) (by omega) (by simp)
    simpa using this
  rw[if_neg h,if_neg h]
theorem impl_isLetters_eq (n:Int):impl_isLetters.f n=some (inR n 1 8):=by
  unfold impl_isLetters.f
  rw[impl_inRange_eq];rfl
deriving instance DecidableEq for S50
theorem rdE_at {l:List S50} {i:Nat} (h:i<l.length):rd_T50 l (i:Int)=l[i]:=by
  simp[rd_T50,List.getD_eq_getElem?_getD,List.getElem?_eq_getElem h]
theorem rdE_set {l:List S50} {i:Nat} (h:i<l.length) (v:S50):rd_T50 (l.set i v) (i:Int)=v:=by
  rw[rdE_at (by rw[List.length_set];exact h),List.getElem_set_self]
theorem eqEdge_eq (a:S50):laws_eqEdge.f a.f0 a.f1 a.f2 a.f3 a.f0 a.f1 a.f2 a.f3=some true:=by
  unfold laws_eqEdge.f
  simp
theorem eqEdgeS_l0 (a:List S50) (hl:a.length≤1099511627776) (d:Nat):∀ (k i:Nat),i+d=a.length→d<k→laws_eqEdgeS.l0 k a a (i:Int)=some true:=by
  induction d with
  | zero=>
    intro k i hi hk
    obtain ⟨k,rfl⟩:=succ_of hk
    simp only[laws_eqEdgeS.l0]
    rw[if_neg (by omega)]
  | succ d ih=>
    intro k i hi hk
    obtain ⟨k,rfl⟩:=succ_of hk
    simp only[laws_eqEdgeS.l0]
    rw[if_pos (by omega),if_pos (by omega),if_pos (by omega),rdE_at (by omega),wrap64_succ (by omega),eqEdge_eq,Option.bind_some,if_pos rfl,ih k (i+1) (by omega) (by omega)]
theorem eqEdgeS_eq (a:List S50) (hl:a.length≤1099511627776) (k:Nat) (hk:a.length<k):laws_eqEdgeS.f k a a=some true:=by
  unfold laws_eqEdgeS.f
  rw[if_pos rfl]
  exact eqEdgeS_l0 a hl a.length k 0 (by omega) hk
theorem eqAuto_eq (a b c:Int) (l:List S50) (hl:l.length≤1099511627776) (k:Nat) (hk:l.length<k):laws_eqAuto.f k a b c l a b c l=some true:=by
  unfold laws_eqAuto.f
  rw[if_pos rfl,if_pos rfl,if_pos rfl,eqEdgeS_eq l hl k hk,Option.bind_some,if_pos rfl]
def seqE:Int→Nat→List S50
  | _,0=>[]
  | a,n+1=>⟨a,a+1,a+2,((Int.tmod (a+3) 3) == 0)⟩ :: seqE (a+4) n
theorem seqE_length (a:Int) (n:Nat):(seqE a n).length=n:=by
  induction n generalizing a with
  | zero=>rfl
  | succ n ih=>simp[seqE,ih]
theorem seqE_at (a:Int) (n i:Nat) (h:i<n):(seqE a n)[i]'(by rw[seqE_length];exact h)=⟨a+4 * i,a+4 * i+1,a+4 * i+2,((Int.tmod (a+4 * i+3) 3) == 0)⟩:=by
  induction n generalizing a i with
  | zero=>omega
  | succ n ih=>
    cases i with
    | zero=>simp[seqE]
    | succ i=>
      simp only[seqE,List.getElem_cons_succ]
      rw[ih (a+4) i (by omega)]
      have e:a+4+4 * (i:Int)=a+4 * ((i+1:Nat):Int):=by omega
      rw[e]
theorem markEdgeS_l0 (d:Nat):∀ (k i:Nat) (x:List S50) (a:Int),i+d=x.length→d<k→0≤a→a+4 * d≤4611686018427387904→x.length≤1099511627776→
    laws_markEdgeS.l0 k x a (i:Int)=some (a+4 * d,x.take i ++ seqE a d):=by
  induction d with
  | zero=>
    intro k i x a hi hk h0 h1 h2
    obtain ⟨k,rfl⟩:=succ_of hk
    simp only[laws_markEdgeS.l0]
    rw[if_neg (by omega),List.take_of_length_le (by omega)]
    simp[seqE]
  | succ d ih=>
    intro k i x a hi hk h0 h1 h2
    obtain ⟨k,rfl⟩:=succ_of hk
    simp only[laws_markEdgeS.l0]
    rw[if_pos (by omega),if_pos (by omega)]
    simp only[Option.bind_some]
    rw[wrap64_succ (by omega),wrap64_id (n:=a+1) (by omega) (by omega),wrap64_id (n:=a+1+1) (by omega) (by omega),wrap64_id (n:=a+1+1+1) (by omega) (by omega),wrap64_id (n:=a+1+1+1+1) (by omega) (by omega)]
    rw[show ((i:Int)).toNat=i from rfl]
    simp only[rdE_set (l:=x) (i:=i) (by omega),List.set_set]
    rw[ih k (i+1) _ (a+1+1+1+1) (by rw[List.length_set];omega) (by omega) (by omega) (by omega) (by rw[List.length_set];omega)]
    rw[take_set_self (by omega)]
    simp only[seqE,List.append_assoc,List.singleton_append]
    rw[show a+1+1+1+1=a+4 by omega,show a+1+1+1=a+3 by omega,show a+1+1=a+2 by omega]
    congr 2
    omega
theorem markEdgeS_eq (x:List S50) (a:Int) (h0:0≤a) (h1:a≤1099511627776) (h2:x.length≤1099511627776) (k:Nat) (hk:x.length<k):laws_markEdgeS.f k x a=some (a+4 * x.length,seqE a x.length):=by
  unfold laws_markEdgeS.f
  have:=markEdgeS_l0 x.length k 0 x a (by omega) hk h0 (by omega) h2
  simpa using this
theorem markAuto_eq (p q r:Int) (x:List S50) (a:Int) (h0:0≤a) (h1:a≤1099511627776) (h2:x.length≤1099511627776) (k:Nat) (hk:x.length<k):laws_markAuto.f k p q r x a=some (a+4 * x.length,seqE a x.length):=by
  unfold laws_markAuto.f
  rw[markEdgeS_eq x a h0 h1 h2 k hk]
  rfl
theorem heldEdgeS_l0 (n:Nat) (b:Int) (hn:n≤1099511627776) (hb0:0≤b) (hb:b≤1099511627776) (d:Nat):∀ (k i:Nat),i+d=n→d<k→laws_heldEdgeS.l0 k (seqE b n) (b+4 * i) (i:Int)=some (b+4 * n):=by
  induction d with
  | zero=>
    intro k i hi hk
    obtain ⟨k,rfl⟩:=succ_of hk
    simp only[laws_heldEdgeS.l0]
    rw[if_neg (by rw[seqE_length];omega)]
    congr 1;omega
  | succ d ih=>
    intro k i hi hk
    obtain ⟨k,rfl⟩:=succ_of hk
    simp only[laws_heldEdgeS.l0]
    rw[if_pos (by rw[seqE_length];omega),if_pos (by omega),rdE_at (by rw[seqE_length];omega),seqE_at b n i (by omega)]
    have a1:wrap64 (b+4 * (i:Int)+1)=b+4 * (i:Int)+1:=wrap64_id (by omega) (by omega)
    have a2:wrap64 (b+4 * (i:Int)+1+1)=b+4 * (i:Int)+2:=by rw[wrap64_id (by omega) (by omega)];omega
    have a3:wrap64 (b+4 * (i:Int)+2+1)=b+4 * (i:Int)+3:=by rw[wrap64_id (by omega) (by omega)];omega
    have a4:wrap64 (b+4 * (i:Int)+3+1)=b+4 * ((i+1:Nat):Int):=by rw[wrap64_id (by omega) (by omega)];omega
    rw[if_pos rfl,a1,if_pos rfl,a2,if_pos rfl,a3,if_neg (by simp),a4,wrap64_succ (by omega)]
    exact ih k (i+1) (by omega) (by omega)
theorem heldEdgeS_eq (n:Nat) (b:Int) (hn:n≤1099511627776) (hb0:0≤b) (hb:b≤1099511627776) (k:Nat) (hk:n<k):laws_heldEdgeS.f k (seqE b n) b=some (b+4 * n):=by
  unfold laws_heldEdgeS.f
  have:=heldEdgeS_l0 n b hn hb0 hb n k 0 (by omega) hk
  simpa using this
theorem heldAuto_eq (p q r:Int) (n:Nat) (b:Int) (hn:n≤1099511627776) (hb0:0≤b) (hb:b≤1099511627776) (k:Nat) (hk:n<k):laws_heldAuto.f k p q r (seqE b n) b=some (b+4 * n):=by
  unfold laws_heldAuto.f
  rw[heldEdgeS_eq n b hn hb0 hb k hk]
  simp only[Option.bind_some]
  rw[if_neg (by omega)]
theorem szEdgeS_eq (l:List S63) (a:Int) (h0:0≤a) (h1:a≤1048576) (hl:l.length≤9223372036854775807):laws_szEdgeS.f l a=some (if a<l.length then -1 else a - l.length):=by
  unfold laws_szEdgeS.f
  rw[wrap64_id (by omega) (by omega)]
  by_cases h:a<(l.length:Int)
  · rw[if_pos (by omega),if_pos h]
  rw[if_neg (by omega),if_neg h]
theorem szAuto_eq (p q s:Int) (l:List S63) (a:Int) (h0:0≤a) (h1:a≤1048576) (hl:l.length≤9223372036854775807):laws_szAuto.f p q s l a=some (if a<l.length then -1 else a - l.length):=by
  unfold laws_szAuto.f
  rw[szEdgeS_eq l a h0 h1 hl]
  simp only[Option.bind_some]
  by_cases h:a<(l.length:Int)
  · rw[if_pos h,if_pos (by omega)]
  rw[if_neg h,if_neg (by omega)]
def convE (e:S63):S50:=⟨e.f0,e.f1,e.f2,e.f3⟩
theorem rdP_at {l:List S63} {i:Nat} (h:i<l.length):rd_T63 l (i:Int)=l[i]:=by
  simp[rd_T63,List.getD_eq_getElem?_getD,List.getElem?_eq_getElem h]
theorem toEdgeS_l0 (l:List S63) (hl:l.length≤1099511627776) (d:Nat):∀ (k i:Nat) (rest:List S50),i+d=l.length→rest.length=d→d<k→laws_toEdgeS.l0 k l ((l.map convE).take i ++ rest) (i:Int)=some (l.map convE):=by
  induction d with
  | zero=>
    intro k i rest hi hr hk
    obtain ⟨k,rfl⟩:=succ_of hk
    simp only[laws_toEdgeS.l0]
    rw[if_neg (by omega),List.eq_nil_of_length_eq_zero hr,List.append_nil,List.take_of_length_le (by rw[List.length_map];omega)]
  | succ d ih=>
    intro k i rest hi hr hk
    obtain ⟨k,rfl⟩:=succ_of hk
    simp only[laws_toEdgeS.l0]
    have hll:((l.map convE).take i ++ rest).length=l.length:=by rw[List.length_append,List.length_take,List.length_map];omega
    have hm:(l.map convE).length=l.length:=List.length_map _
    rw[if_pos (by omega),if_pos (by omega),rdP_at (by omega),wrap64_succ (by omega)]
    simp only[laws_toEdge.f,Option.bind_some]
    rw[if_pos (by omega)]
    have e:(⟨l[i].f0,l[i].f1,l[i].f2,l[i].f3⟩:S50)=(l.map convE)[i]:=by rw[List.getElem_map];rfl
    rw[show ((i:Int)).toNat=i from rfl,e,take_set_drop (by omega) (by omega)]
    exact ih k (i+1) rest.tail (by omega) (by rw[List.length_tail];omega) (by omega)
theorem toEdgeS_eq (l:List S63) (hl:l.length≤1099511627776) (k:Nat) (hk:l.length<k):laws_toEdgeS.f k l=some (l.map convE):=by
  unfold laws_toEdgeS.f
  rw[if_pos (by omega),if_pos (by simp;omega)]
  exact toEdgeS_l0 l hl l.length k 0 _ (by omega) (by simp) hk
theorem toAuto_eq (p q s:Int) (l:List S63) (hl:l.length≤1099511627776) (k:Nat) (hk:l.length<k):laws_toAuto.f k p q s l=some (p,q,s,l.map convE):=by
  unfold laws_toAuto.f
  rw[toEdgeS_eq l hl k hk];rfl
theorem spec_l4State_eq (x n:Int) (h0:-1000≤n) (h1:n≤1000):spec_l4State.f x n=some (inR x 0 (n - 1)):=by
  unfold spec_l4State.f
  rw[wrap64_id (by omega) (by omega),spec_l1In_eq];rfl
theorem spec_l4Less_eq (a b c:Int) (g:Bool) (a' b' c':Int) (g':Bool):spec_l4Less.f a b c g a' b' c' g'=some (lessK (a,b,c) (a',b',c')):=by
  unfold spec_l4Less.f lessK
  by_cases h:a=a'
  · rw[if_pos h,if_pos h]
    by_cases h':b=b'
    · rw[if_pos h',if_pos h']
    rw[if_neg h',if_neg h']
  rw[if_neg h,if_neg h]
theorem spec_l5Less_eq (a b c g a' b' c' g':Int):spec_l5Less.f a b c g a' b' c' g'=some (lessK (a,b,c) (a',b',c')):=by
  unfold spec_l5Less.f
  rw[spec_l4Less_eq];rfl
theorem cmp_Compare_eq (a b:Int):cmp_Compare_int.f a b=some (cmpZ a b):=by
  unfold cmp_Compare_int.f cmp_isNaN_int.f cmpZ
  simp only[Option.bind_some,bne_self_eq_false,Bool.false_eq_true,if_false]
  by_cases h:a<b
  · rw[if_pos h,if_pos h]
  rw[if_neg h,if_neg h]
  by_cases h':a>b
  · rw[if_pos h',if_pos h']
  rw[if_neg h',if_neg h']
theorem cmp_Or_eq (a b c:Int) (k:Nat) (hk:3<k):cmp_Or_int.f k [a,b,c]=some (orZ a b c):=by
  unfold cmp_Or_int.f orZ
  obtain ⟨k,rfl⟩:∃ m,k=m+4:=⟨k - 4,by omega⟩
  have e0:rd [a,b,c] 0=a:=rfl
  have e1:rd [a,b,c] 1=b:=rfl
  have e2:rd [a,b,c] 2=c:=rfl
  have w0:wrap64 (0+1)=1:=by rw[wrap64_id (by omega) (by omega)];rfl
  have w1:wrap64 (1+1)=2:=by rw[wrap64_id (by omega) (by omega)];rfl
  have w2:wrap64 (2+1)=3:=by rw[wrap64_id (by omega) (by omega)];rfl
  have l3:(([a,b,c].length:Nat):Int)=3:=rfl
  rw[l3]
  simp only[cmp_Or_int.l0,e0,e1,e2,w0,w1,w2,l3]
  by_cases ha:a=0
  · by_cases hb:b=0
    · by_cases hc:c=0
      · simp[ha,hb,hc]
      simp[ha,hb,hc]
    simp[ha,hb]
  simp[ha]
theorem impl_compareEdges_eq (a b c:Int) (g:Bool) (a' b' c':Int) (g':Bool) (k:Nat) (hk:3<k):impl_compareEdges.f k a b c g a' b' c' g'=some (cmpK (a,b,c) (a',b',c')):=by
  unfold impl_compareEdges.f
  simp only[cmp_Compare_eq,Option.bind_some,cmp_Or_eq _ _ _ k hk]
  rfl
theorem impl_compareGEdges_eq (a b c g a' b' c' g':Int) (k:Nat) (hk:3<k):impl_compareGEdges.f k a b c g a' b' c' g'=some (cmpK (a,b,c) (a',b',c')):=by
  unfold impl_compareGEdges.f
  simp only[cmp_Compare_eq,Option.bind_some,cmp_Or_eq _ _ _ k hk]
  rfl
theorem impl_headOk_eq (n st s:Int):impl_headOk.f n st s=some (headB n st s):=by
  unfold impl_headOk.f headB
  rw[impl_isLetters_eq,impl_inRange_eq,impl_SetOk_eq]
  simp only[Option.bind_some]
  by_cases h1:inR n 1 8=true
  · rw[if_pos h1,h1]
    by_cases h2:inR st 0 31=true
    · have h2':=inR_iff.1 h2
      have hb:=bitZ_le31 h2'.2
      rw[if_pos h2,h2,impl_only_eq st h2'.1 (by omega)]
      simp only[Option.bind_some,Bool.true_and]
      by_cases h3:okB s=true
      · have h3':=inR_iff.1 h3
        rw[if_pos h3]
        congr 1
        rw[Bool.eq_iff_iff]
        simp only[decide_eq_true_eq,inR_iff]
        omega
      rw[if_neg h3]
      congr 1
      simp only[okB,inR_iff]at h3
      symm
      rw[inR_false]
      omega
    rw[if_neg h2];simp at h2;rw[h2];rfl
  rw[if_neg h1];simp at h1;rw[h1];rfl
def keyE (e:S50):Key:=(e.f0,e.f1,e.f2)
def anyE (_:S50):Bool:=true
def autoOkB (n st s:Int) (l:List S50):Bool:=headB n st s && (decide (l.length≤2000) && edgesB keyE anyE n st none l)
theorem autoOk_of {n st s:Int} {l:List S50} (h:autoOkB n st s l=true):headB n st s=true∧l.length≤2000∧edgesB keyE anyE n st none l=true:=by
  simpa only [autoOkB,Bool.and_eq_true,decide_eq_true_eq] using h
theorem spec_AutoOk_l0 (n st s:Int) (l:List S50) (h0:0≤n) (h1:n≤8) (h2:0≤st) (h3:st≤31) (hl:l.length≤1099511627776) (d:Nat):∀ (k i:Nat),i+d=l.length→d<k→spec_AutoOk.l0 k (i:Int) n st s l=some (edgesB keyE anyE n st (prevOf l i) (l.drop i)):=by
  induction d with
  | zero=>
    intro k i hi hk
    obtain ⟨k,rfl⟩:=succ_of hk
    simp only[spec_AutoOk.l0]
    rw[if_neg (by omega),List.drop_eq_nil_of_le (by omega)]
    rfl
  | succ d ih=>
    intro k i hi hk
    obtain ⟨k,rfl⟩:=succ_of hk
    simp only[spec_AutoOk.l0]
    rw[if_pos (by omega),if_pos (by omega),rdE_at (by omega),spec_l4State_eq _ _ (by omega) (by omega),spec_l4State_eq _ _ (by omega) (by omega),spec_l1In_eq,wrap64_id (n:=n - 1) (by omega) (by omega),wrap64_succ (by omega),drop_cons (l:=l) (i:=i) (by omega)]
    simp only[Option.bind_some,edgesB,stOk,keyE,anyE]
    have ih':=ih k (i+1) (by omega) (by omega)
    rw[prevOf_succ l i (by omega)]at ih'
    cases e1:inR l[i].f0 0 (st - 1)
    · simp
    cases e2:inR l[i].f2 0 (st - 1)
    · simp
    cases e3:inR l[i].f1 0 (n - 1)
    · simp
    simp only[if_true,Bool.true_and]
    cases i with
    | zero=>rw[if_neg (by omega),ih'];simp only[prevOf,aheadK,Bool.true_and]
    | succ j=>
      have ej:wrap64 (((j+1:Nat):Int) - 1)=(j:Int):=by rw[wrap64_id (by omega) (by omega)];omega
      rw[if_pos (by omega),ej,if_pos (by omega),if_pos (by omega),rdE_at (by omega),spec_l4Less_eq,prevOf_succ l j (by omega)]
      simp only[Option.bind_some,aheadK,keyE]
      cases e4:lessK (l[j].f0,l[j].f1,l[j].f2) (l[j+1].f0,l[j+1].f1,l[j+1].f2)
      · simp
      simp only[if_true,Bool.true_and];exact ih'
theorem spec_AutoOk_eq (n st s:Int) (l:List S50) (hl:l.length≤1099511627776) (k:Nat) (hk:l.length+1<k):spec_AutoOk.f k n st s l=some (autoOkB n st s l):=by
  unfold spec_AutoOk.f autoOkB headB
  obtain ⟨k,rfl⟩:=succ_of hk
  rw[spec_l1In_eq,spec_l1In_eq]
  simp only[Option.bind_some,spec_AutoOk.j0,if_true]
  cases e1:inR n 1 8
  · simp
  have h1:=inR_iff.1 e1
  cases e2:inR st 0 31
  · simp
  have h2:=inR_iff.1 e2
  have hb:=bitZ_le31 h2.2
  have hp:=bitZ_pos st
  obtain ⟨m,rfl⟩:=Int.eq_ofNat_of_zero_le h2.1
  simp only[if_true,Bool.true_and]
  rw[if_pos h2.1,shl_one m (by omega),wrap64_id (by omega) (by omega),spec_SetIn_eq,in_mask s m h2.1 h2.2]
  simp only[Option.bind_some]
  cases e3:inR s 0 (bitZ m - 1)
  · simp
  simp only[if_true,Bool.true_and]
  by_cases h4:(l.length:Int)>2000
  · rw[decide_eq_true h4,if_pos rfl,decide_eq_false (by omega)];rfl
  rw[decide_eq_false h4,if_neg (by simp),decide_eq_true (by omega)]
  exact spec_AutoOk_l0 n m s l (by omega) (by omega) h2.1 h2.2 hl l.length k 0 (by omega) (by omega)
theorem impl_AutoOk_l0 (n st s:Int) (l:List S50) (h0:0≤n) (h1:n≤8) (h2:0≤st) (h3:st≤31) (hl:l.length≤1099511627776) (d:Nat):∀ (k i:Nat),i+d=l.length→2 * d+10<k→impl_AutoOk.l0 k l (l.length:Int) (i:Int) n st s l=some (edgesB keyE anyE n st (prevOf l i) (l.drop i)):=by
  induction d with
  | zero=>
    intro k i hi hk
    obtain ⟨k,rfl⟩:=succ_of hk
    simp only[impl_AutoOk.l0]
    rw[if_neg (by omega),List.drop_eq_nil_of_le (by omega)]
    rfl
  | succ d ih=>
    intro k i hi hk
    obtain ⟨k,rfl⟩:∃ m,k=m+1+1:=⟨k - 2,by omega⟩
    simp only[impl_AutoOk.l0]
    rw[if_pos (by omega),if_pos (by omega),if_pos (by omega),rdE_at (by omega),impl_inRange_eq,impl_inRange_eq,impl_inRange_eq,wrap64_id (n:=st - 1) (by omega) (by omega),wrap64_id (n:=n - 1) (by omega) (by omega),drop_cons (l:=l) (i:=i) (by omega)]
    simp only[Option.bind_some,edgesB,stOk,keyE,anyE,impl_AutoOk.j2,if_true]
    have ih':=ih k (i+1) (by omega) (by omega)
    rw[prevOf_succ l i (by omega)]at ih'
    cases e1:inR l[i].f0 0 (st - 1)
    · simp
    cases e2:inR l[i].f2 0 (st - 1)
    · simp
    cases e3:inR l[i].f1 0 (n - 1)
    · simp
    simp only[if_true,Bool.true_and,Bool.not_true,Bool.false_eq_true,if_false]
    rw[wrap64_succ (by omega)]
    cases i with
    | zero=>rw[if_neg (by omega),ih'];simp only[prevOf,aheadK,Bool.true_and]
    | succ j=>
      have ej:wrap64 (((j+1:Nat):Int) - 1)=(j:Int):=by rw[wrap64_id (by omega) (by omega)];omega
      rw[if_pos (by omega),ej,if_pos (by omega),if_pos (by omega),rdE_at (by omega),impl_compareEdges_eq _ _ _ _ _ _ _ _ k (by omega),prevOf_succ l j (by omega)]
      simp only[Option.bind_some,aheadK,keyE]
      by_cases e4:lessK (l[j].f0,l[j].f1,l[j].f2) (l[j+1].f0,l[j+1].f1,l[j+1].f2)=true
      · rw[if_neg (fun h=>(cmpK_neg _ _).1 h e4),e4]
        simp only[Bool.true_and];exact ih'
      rw[if_pos ((cmpK_neg _ _).2 e4)]
      simp at e4;rw[e4];rfl
theorem impl_AutoOk_eq (n st s:Int) (l:List S50) (hl:l.length≤1099511627776) (k:Nat) (hk:2 * l.length+20<k):impl_AutoOk.f k n st s l=some (autoOkB n st s l):=by
  unfold impl_AutoOk.f autoOkB
  obtain ⟨k,rfl⟩:=succ_of hk
  rw[impl_headOk_eq]
  simp only[Option.bind_some,impl_AutoOk.j0,if_true]
  cases e1:headB n st s
  · simp
  have h:=head_of e1
  simp only[if_true,Bool.true_and]
  by_cases h4:(l.length:Int)>2000
  · rw[decide_eq_true h4,if_pos rfl,decide_eq_false (by omega)];rfl
  rw[decide_eq_false h4,if_neg (by simp),decide_eq_true (by omega)]
  exact impl_AutoOk_l0 n st s l (by omega) (by omega) h.2.1.1 h.2.1.2 hl l.length k 0 (by omega) (by omega)
theorem impl_rightAuto_eq (n st s:Int) (l:List S50) (hl:l.length≤1099511627776) (k:Nat) (hk:2 * l.length+20<k):impl_rightAuto.f k n st s l=some (if autoOkB n st s l then (n,st,s,l,true) else (0,0,0,[],false)):=by
  unfold impl_rightAuto.f
  rw[impl_AutoOk_eq n st s l hl k hk]
  simp only[Option.bind_some]
  by_cases h:autoOkB n st s l=true
  · rw[if_pos h,if_pos h]
  rw[if_neg h,if_neg h]
deriving instance DecidableEq for S58
theorem rdG_at {l:List S58} {i:Nat} (h:i<l.length):rd_T58 l (i:Int)=l[i]:=by
  simp[rd_T58,List.getD_eq_getElem?_getD,List.getElem?_eq_getElem h]
def keyG (e:S58):Key:=(e.f0,e.f1,e.f2)
def marksOk (c:Int) (e:S58):Bool:=inR e.f3 0 (bitZ c - 1)
def genOkB (n st s c:Int) (l:List S58):Bool:=headB n st s && (inR c 0 4 && (decide (l.length≤2000) && edgesB keyG (marksOk c) n st none l))
theorem genOk_of {n st s c:Int} {l:List S58} (h:genOkB n st s c l=true):headB n st s=true∧inR c 0 4=true∧l.length≤2000∧edgesB keyG (marksOk c) n st none l=true:=by
  simpa only [genOkB,Bool.and_eq_true,decide_eq_true_eq] using h
theorem spec_GenOk_l0 (n st s c:Int) (l:List S58) (h0:0≤n) (h1:n≤8) (h2:0≤st) (h3:st≤31) (hc0:0≤c) (hc1:c≤4) (hl:l.length≤1099511627776) (d:Nat):∀ (k i:Nat),i+d=l.length→d<k→edgesB keyG (marksOk c) n st (prevOf l i) (l.drop i)=true→spec_GenOk.l0 k (i:Int) n st s c l=some true:=by
  induction d with
  | zero=>
    intro k i hi hk _
    obtain ⟨k,rfl⟩:=succ_of hk
    simp only[spec_GenOk.l0]
    rw[if_neg (by omega)]
  | succ d ih=>
    intro k i hi hk hE
    obtain ⟨k,rfl⟩:=succ_of hk
    simp only[spec_GenOk.l0]
    have hb:=bitZ_le31 (i:=c) (by omega)
    have hp:=bitZ_pos c
    have hsh:shl .i64 1 c=bitZ c:=by
      obtain ⟨m,rfl⟩:=Int.eq_ofNat_of_zero_le hc0
      exact shl_one m (by omega)
    rw[drop_cons (l:=l) (i:=i) (by omega)]at hE
    simp only[edgesB,stOk,keyG,marksOk,Bool.and_eq_true]at hE
    obtain ⟨⟨e1,e2,e3⟩,e5,e4,eR⟩:=hE
    have ih':=ih k (i+1) (by omega) (by omega)
    rw[prevOf_succ l i (by omega)]at ih'
    have ih2:=ih' eR
    rw[if_pos (by omega),if_pos (by omega),rdG_at (by omega),spec_l4State_eq _ _ (by omega) (by omega),spec_l4State_eq _ _ (by omega) (by omega),spec_l1In_eq,wrap64_id (n:=n - 1) (by omega) (by omega),wrap64_succ (by omega),if_pos hc0,hsh,wrap64_id (n:=bitZ c - 1) (by omega) (by omega),spec_SetIn_eq,in_mask _ c hc0 (by omega)]
    rw[Option.bind_some,if_pos e1,Option.bind_some,if_pos e2,Option.bind_some,if_pos e3,Option.bind_some,if_pos e5]
    cases i with
    | zero=>rw[if_neg (by omega),ih2]
    | succ j=>
      have ej:wrap64 (((j+1:Nat):Int) - 1)=(j:Int):=by rw[wrap64_id (by omega) (by omega)];omega
      rw[prevOf_succ l j (by omega)]at e4
      have e4:lessK (l[j].f0,l[j].f1,l[j].f2) (l[j+1].f0,l[j+1].f1,l[j+1].f2)=true:=e4
      rw[if_pos (by omega),ej,if_pos (by omega),if_pos (by omega),rdG_at (by omega),spec_l5Less_eq,Option.bind_some,if_pos e4,ih2]
theorem spec_GenOk_eq (n st s c:Int) (l:List S58) (hg:genOkB n st s c l=true) (k:Nat) (hk:l.length+1<k):spec_GenOk.f k n st s c l=some true:=by
  obtain ⟨g1,g2,g3,g4⟩:=genOk_of hg
  have hc:=inR_iff.1 g2
  simp only[headB,Bool.and_eq_true]at g1
  obtain ⟨e1,e2,e3⟩:=g1
  have h1:=inR_iff.1 e1
  have h2:=inR_iff.1 e2
  have hb:=bitZ_le31 h2.2
  have hp:=bitZ_pos st
  unfold spec_GenOk.f
  obtain ⟨m,rfl⟩:=Int.eq_ofNat_of_zero_le h2.1
  rw[spec_l1In_eq,spec_l1In_eq,spec_l1In_eq,Option.bind_some,if_pos e1,Option.bind_some,if_pos e2,if_pos h2.1,shl_one m (by omega),wrap64_id (by omega) (by omega),spec_SetIn_eq,in_mask s m h2.1 h2.2,Option.bind_some,if_pos e3,Option.bind_some,if_pos g2,if_neg (by omega)]
  exact spec_GenOk_l0 n m s c l (by omega) (by omega) h2.1 h2.2 hc.1 hc.2 (by omega) l.length k 0 (by omega) (by omega) g4
theorem impl_GenOk_l0 (n st s c:Int) (l:List S58) (h0:0≤n) (h1:n≤8) (h2:0≤st) (h3:st≤31) (hc0:0≤c) (hc1:c≤4) (hl:l.length≤1099511627776) (d:Nat):∀ (k i:Nat),i+d=l.length→d+10<k→edgesB keyG (marksOk c) n st (prevOf l i) (l.drop i)=true→impl_GenOk.l0 k l (l.length:Int) (i:Int) n st s c l=some true:=by
  induction d with
  | zero=>
    intro k i hi hk _
    obtain ⟨k,rfl⟩:=succ_of hk
    simp only[impl_GenOk.l0]
    rw[if_neg (by omega)]
  | succ d ih=>
    intro k i hi hk hE
    obtain ⟨k,rfl⟩:=succ_of (show 0<k by omega)
    have hb:=bitZ_le31 (i:=c) (by omega)
    have hp:=bitZ_pos c
    rw[drop_cons (l:=l) (i:=i) (by omega)]at hE
    simp only[edgesB,stOk,keyG,marksOk,Bool.and_eq_true]at hE
    obtain ⟨⟨e1,e2,e3⟩,e5,e4,eR⟩:=hE
    have ih':=ih k (i+1) (by omega) (by omega)
    rw[prevOf_succ l i (by omega)]at ih'
    have ih2:=ih' eR
    simp only[impl_GenOk.l0]
    rw[if_pos (by omega),if_pos (by omega),if_pos (by omega),rdG_at (by omega),impl_inRange_eq,impl_inRange_eq,impl_inRange_eq,wrap64_id (n:=st - 1) (by omega) (by omega),wrap64_id (n:=n - 1) (by omega) (by omega),Option.bind_some,if_pos e1,Option.bind_some,if_pos e2,Option.bind_some,if_pos e3,impl_only_eq c hc0 (by omega),Option.bind_some,impl_inRange_eq,wrap64_id (n:=bitZ c - 1) (by omega) (by omega),Option.bind_some,if_pos e5,wrap64_succ (by omega)]
    cases i with
    | zero=>rw[if_neg (by omega),ih2]
    | succ j=>
      have ej:wrap64 (((j+1:Nat):Int) - 1)=(j:Int):=by rw[wrap64_id (by omega) (by omega)];omega
      rw[prevOf_succ l j (by omega)]at e4
      have e4:lessK (l[j].f0,l[j].f1,l[j].f2) (l[j+1].f0,l[j+1].f1,l[j+1].f2)=true:=e4
      rw[if_pos (by omega),ej,if_pos (by omega),if_pos (by omega),rdG_at (by omega),impl_compareGEdges_eq _ _ _ _ _ _ _ _ k (by omega),Option.bind_some,if_neg (fun h=>(cmpK_neg _ _).1 h e4),ih2]
theorem impl_GenOk_eq (n st s c:Int) (l:List S58) (hg:genOkB n st s c l=true) (k:Nat) (hk:l.length+20<k):impl_GenOk.f k n st s c l=some true:=by
  obtain ⟨g1,g2,g3,g4⟩:=genOk_of hg
  have hc:=inR_iff.1 g2
  have h:=head_of g1
  unfold impl_GenOk.f
  rw[impl_headOk_eq,impl_inRange_eq,Option.bind_some,if_pos g1,Option.bind_some,if_pos g2,if_neg (by omega)]
  exact impl_GenOk_l0 n st s c l (by omega) (by omega) h.2.1.1 h.2.1.2 hc.1 hc.2 (by omega) l.length k 0 (by omega) (by omega) g4
theorem impl_GenOk_many (n st s c:Int) (l:List S58) (g1:headB n st s=true) (g2:inR c 0 4=true) (hl:2000<l.length) (k:Nat):impl_GenOk.f k n st s c l=some false:=by
  unfold impl_GenOk.f
  rw[impl_headOk_eq,impl_inRange_eq,Option.bind_some,if_pos g1,Option.bind_some,if_pos g2,if_pos (by omega)]
def gOfE (e:S50):S58:=⟨e.f0,e.f1,e.f2,if e.f3=true then 1 else 0⟩
def genOfA (n st s:Int) (l:List S50):Int × Int × Int × Int × List S58:=if autoOkB n st s l then (n,st,s,1,l.map gOfE) else (0,0,0,0,[])
theorem spec_GenOf_l0 (n st s p q r u:Int) (l:List S50) (hl:l.length≤1099511627776) (d:Nat):∀ (k i:Nat) (acc:List S58),i+d=l.length→acc.length=i→d<k→spec_GenOf.l0 k (i:Int) n st s l p q r u acc=some (p,q,r,u,acc ++ (l.drop i).map gOfE):=by
  induction d with
  | zero=>
    intro k i acc hi ha hk
    obtain ⟨k,rfl⟩:=succ_of hk
    simp only[spec_GenOf.l0]
    rw[if_neg (by omega),List.drop_eq_nil_of_le (by omega)]
    simp
  | succ d ih=>
    intro k i acc hi ha hk
    obtain ⟨k,rfl⟩:=succ_of hk
    simp only[spec_GenOf.l0]
    rw[if_pos (by omega),if_pos (by omega),rdE_at (by omega),wrap64_succ (by omega),drop_cons (l:=l) (i:=i) (by omega)]
    have ih':=fun acc ha=>ih k (i+1) acc (by omega) ha (by omega)
    by_cases h:l[i].f3=true
    · rw[if_pos h,if_pos (by omega),ih' _ (by rw[List.length_append,ha];rfl),List.map_cons,List.append_assoc,List.singleton_append]
      simp only[gOfE,if_pos h]
    rw[if_neg h,if_pos (by omega),ih' _ (by rw[List.length_append,ha];rfl),List.map_cons,List.append_assoc,List.singleton_append]
    simp only[gOfE,if_neg h]
theorem spec_GenOf_eq (n st s:Int) (l:List S50) (hl:l.length≤1099511627776) (k:Nat) (hk:l.length+1<k):spec_GenOf.f k n st s l=some (genOfA n st s l):=by
  unfold spec_GenOf.f genOfA
  rw[spec_AutoOk_eq n st s l hl k hk]
  simp only[Option.bind_some]
  by_cases h:autoOkB n st s l=true
  · rw[if_pos h,if_pos h]
    exact spec_GenOf_l0 n st s n st s 1 l hl l.length k 0 [] (by omega) rfl (by omega)
  rw[if_neg h,if_neg h]
theorem impl_genOf_l0 (p q r u:Int) (l:List S50) (hl:l.length≤1099511627776) (d:Nat):∀ (k i:Nat) (acc:List S58),i+d=l.length→acc.length=i→d<k→impl_genOf.l0 k l (l.length:Int) (i:Int) p q r u acc=some (p,q,r,u,acc ++ (l.drop i).map gOfE):=by
  induction d with
  | zero=>
    intro k i acc hi ha hk
    obtain ⟨k,rfl⟩:=succ_of hk
    simp only[impl_genOf.l0]
    rw[if_neg (by omega),List.drop_eq_nil_of_le (by omega)]
    simp
  | succ d ih=>
    intro k i acc hi ha hk
    obtain ⟨k,rfl⟩:=succ_of hk
    simp only[impl_genOf.l0]
    rw[if_pos (by omega),if_pos (by omega),if_pos (by omega),rdE_at (by omega),wrap64_succ (by omega),drop_cons (l:=l) (i:=i) (by omega)]
    have ih':=fun acc ha=>ih k (i+1) acc (by omega) ha (by omega)
    by_cases h:l[i].f3=true
    · rw[if_pos h,if_pos (by omega),ih' _ (by rw[List.length_append,ha];rfl),List.map_cons,List.append_assoc,List.singleton_append]
      simp only[gOfE,if_pos h]
    rw[if_neg h,if_pos (by omega),ih' _ (by rw[List.length_append,ha];rfl),List.map_cons,List.append_assoc,List.singleton_append]
    simp only[gOfE,if_neg h]
theorem impl_genOf_eq (n st s:Int) (l:List S50) (hl:l.length≤1099511627776) (k:Nat) (hk:l.length+1<k):impl_genOf.f k n st s l=some (n,st,s,1,l.map gOfE):=by
  unfold impl_genOf.f
  exact impl_genOf_l0 n st s 1 l hl l.length k 0 [] (by omega) rfl (by omega)
theorem ex_cons {α:Type} {x:α} {l:List α} {P:α→Prop}:(∃ e,e∈x :: l∧P e)↔P x∨∃ e,e∈l∧P e:=by simp[List.mem_cons,or_and_right,exists_or]
def mcons (e:S50):List S50→List S50
  | []=>[e]
  | q :: r=>if keyE q=keyE e then ⟨e.f0,e.f1,e.f2,e.f3 || q.f3⟩ :: r else e :: q :: r
def mergeR:List S50→List S50
  | []=>[]
  | e :: l=>mcons e (mergeR l)
theorem mcons_head (e:S50) (T:List S50):∃ p r,mcons e T=p :: r∧keyE p=keyE e:=by
  cases T with
  | nil=>exact ⟨e,[],rfl,rfl⟩
  | cons q r=>
    simp only[mcons]
    by_cases h:keyE q=keyE e
    · rw[if_pos h];exact ⟨_,_,rfl,rfl⟩
    rw[if_neg h];exact ⟨_,_,rfl,rfl⟩
theorem mcons_join (q e:S50) (T:List S50) (h:keyE q=keyE e):mcons q (mcons e T)=mcons ⟨q.f0,q.f1,q.f2,q.f3 || e.f3⟩ T:=by
  have hk:keyE (⟨q.f0,q.f1,q.f2,q.f3 || e.f3⟩:S50)=keyE q:=rfl
  cases T with
  | nil=>simp only[mcons];rw[if_pos h.symm]
  | cons p r=>
    by_cases hp:keyE p=keyE e
    · have hp2:keyE p=keyE q:=hp.trans h.symm
      have hk2:keyE (⟨e.f0,e.f1,e.f2,e.f3 || p.f3⟩:S50)=keyE q:=h.symm
      simp only[mcons]
      rw[if_pos hp,hk,if_pos hp2]
      dsimp only
      rw[if_pos hk2,Bool.or_assoc]
    have hp2:¬ keyE p=keyE q:=fun e2=>hp (e2.trans h)
    simp only[mcons]
    rw[if_neg hp,hk,if_neg hp2]
    dsimp only
    rw[if_pos h.symm]
theorem mcons_ne {q e:S50} {T:List S50} (h:¬ keyE q=keyE e):mcons q (mcons e T)=q :: mcons e T:=by
  obtain ⟨p,r,e1,e2⟩:=mcons_head e T
  rw[e1]
  simp only[mcons]
  rw[if_neg (fun e3=>h (e3.symm.trans e2))]
theorem mergeR_length (l:List S50):(mergeR l).length≤l.length:=by
  induction l with
  | nil=>exact Nat.le_refl _
  | cons e l ih=>
    have:(mcons e (mergeR l)).length≤(mergeR l).length+1:=by
      cases mergeR l with
      | nil=>exact Nat.le_refl _
      | cons q r=>
        simp only[mcons]
        split <;> simp
    simp only[mergeR,List.length_cons]
    omega
theorem orderedStep (k:Nat) (hk:3<k) (S:List S50) (hS:S.length≤1099511627776) (i:Nat) (hi:i<S.length) (out:List S50) (q:S50) (ho:out.length≤i) :
    impl_ordered.l0 (k+1) (out ++ [q]) S (S.length:Int) (i:Int)=if keyE q=keyE S[i] then impl_ordered.l0 k (out ++ [⟨q.f0,q.f1,q.f2,q.f3 || S[i].f3⟩]) S (S.length:Int) ((i+1:Nat):Int) else impl_ordered.l0 k ((out ++ [q]) ++ [S[i]]) S (S.length:Int) ((i+1:Nat):Int):=by
  have hl:(out ++ [q]).length=out.length+1:=by simp
  have hrd:rd_T50 S (i:Int)=S[i]:=by simp[rd_T50,List.getD_eq_getElem?_getD,List.getElem?_eq_getElem hi]
  have hw:wrap64 (((out ++ [q]).length:Int) - 1)=(out.length:Int):=by rw[hl,wrap64_id (by omega) (by omega)];omega
  have hrq:rd_T50 (out ++ [q]) (out.length:Int)=q:=by simp[rd_T50,List.getD_eq_getElem?_getD]
  have hset:∀ v:S50,(out ++ [q]).set out.length v=out ++ [v]:=fun v=>by simp
  simp only[impl_ordered.l0]
  rw[if_pos (by omega),if_pos (by omega),if_pos (by omega),hw,if_pos (by omega),if_pos (by omega),if_pos (by rw[hl];omega),hrq,hrd,impl_compareEdges_eq _ _ _ _ _ _ _ _ k hk,Option.bind_some,wrap64_succ (by omega),Int.toNat_natCast,hset,hset,hl,if_pos (show out.length+1<4398046511104 by omega)]
  have hz:=cmpK_zero (keyE q) (keyE S[i])
  by_cases h:keyE q=keyE S[i]
  · rw[if_pos h,if_pos (show cmpK (q.f0,q.f1,q.f2) (S[i].f0,S[i].f1,S[i].f2)=0 from hz.2 h)]
    cases hq:q.f3
    · rw[if_neg (by simp),Bool.false_or]
    rw[if_pos rfl,Bool.true_or]
  rw[if_neg h,if_neg (show ¬ cmpK (q.f0,q.f1,q.f2) (S[i].f0,S[i].f1,S[i].f2)=0 from fun e=>h (hz.1 e))]
theorem ordered_l0 (S:List S50) (hS:S.length≤1099511627776) (d:Nat):∀ (k i:Nat) (out:List S50) (q:S50),i+d=S.length→d+10<k→out.length<i→
    impl_ordered.l0 k (out ++ [q]) S (S.length:Int) (i:Int)=some (out ++ mergeR (q :: S.drop i)):=by
  induction d with
  | zero=>
    intro k i out q hi hk ho
    obtain ⟨k,rfl⟩:=succ_of (show 0<k by omega)
    simp only[impl_ordered.l0]
    rw[if_neg (by omega),List.drop_eq_nil_of_le (by omega)]
    rfl
  | succ d ih=>
    intro k i out q hi hk ho
    obtain ⟨k,rfl⟩:=succ_of (show 0<k by omega)
    rw[orderedStep k (by omega) S hS i (by omega) out q (by omega),drop_cons (l:=S) (i:=i) (by omega)]
    by_cases h:keyE q=keyE S[i]
    · rw[if_pos h,ih k (i+1) out _ (by omega) (by omega) (by omega)]
      simp only[mergeR]
      rw[mcons_join _ _ _ h]
    rw[if_neg h,ih k (i+1) (out ++ [q]) _ (by omega) (by omega) (by simp;omega)]
    simp only[mergeR]
    rw[mcons_ne h,List.append_assoc];rfl
theorem ordered_run (S:List S50) (hS:S.length≤1099511627776) (k:Nat) (hk:S.length+20<k):impl_ordered.l0 k [] S (S.length:Int) 0=some (mergeR S):=by
  obtain ⟨k,rfl⟩:=succ_of (show 0<k by omega)
  cases S with
  | nil=>rfl
  | cons e l=>
    have h:=ordered_l0 (e :: l) hS l.length k 1 [] e (by simp;omega) (by simp at hk;omega) (by simp)
    have hw:wrap64 ((([]:List S50).length:Int) - 1)=-1:=by rw[List.length_nil,wrap64_id (by omega) (by omega)];rfl
    have hrd:rd_T50 (e :: l) 0=e:=rfl
    simp only[impl_ordered.l0]
    rw[if_pos (by simp),if_pos (by omega),if_pos (by simp),hw,if_neg (by omega),if_pos (by simp),hrd,show wrap64 (0+1)=((1:Nat):Int) from wrap64_succ (i:=0) (by omega)]
    exact h
def srtE (l:List S50):List S50:=(Sort.pdq (Go.Proofs.ltOf impl_Edge_61.cf) l.toArray 0 l.toArray.size (Lib.bitLen l.toArray.size) true true).toList
theorem srtE_sorts (l:List S50):(srtE l).Perm l∧(srtE l).Pairwise (fun x y=>lessK (keyE y) (keyE x)=false):=by
  have h:=Sort.pdq_sorts (Go.Proofs.ltOf impl_Edge_61.cf) impl_Edge_61.swo l.toArray 0 l.toArray.size (Lib.bitLen l.toArray.size) true true (Nat.zero_le _) (Nat.le_refl _) (Or.inl rfl)
  obtain ⟨⟨h1,_,h2⟩,h3⟩:=h
  unfold srtE
  generalize Sort.pdq (Go.Proofs.ltOf impl_Edge_61.cf) l.toArray 0 l.toArray.size (Lib.bitLen l.toArray.size) true true=d at h1 h2 h3 ⊢
  refine ⟨?_,?_⟩
  · have e1:d.extract 0 l.toArray.size=d:=by rw[← h1];exact Array.extract_size
    rw[e1,Array.extract_size]at h2
    exact h2
  rw[List.pairwise_iff_getElem]
  intro i j hi hj hij
  have h4:=h3 i j (Nat.zero_le _) hij (by rw[← h1];simpa using hj)
  rw[getElem!_pos d j (by simpa using hj),getElem!_pos d i (by simpa using hi),impl_Edge_61.lt_eq]at h4
  rw[Array.getElem_toList,Array.getElem_toList]
  rw[← Bool.not_eq_true,lessK_iff]
  unfold impl_Edge_61.lt at h4
  rw[decide_eq_false_iff_not]at h4
  exact h4
theorem srtE_length (l:List S50):(srtE l).length=l.length:=(srtE_sorts l).1.length_eq
theorem impl_ordered_eq (l:List S50) (hl:l.length≤1000000) (k:Nat) (hk:l.length+20<k):impl_ordered.f k l=some (mergeR (srtE l)):=by
  have hs:=srtE_length l
  unfold impl_ordered.f
  have e1:impl_Edge_60.f l=some l:=by unfold impl_Edge_60.f;rw[if_pos (by omega)]
  have e2:impl_Edge_61.f l=some (srtE l):=by unfold impl_Edge_61.f;rw[if_pos (by omega)];rfl
  rw[e1,Option.bind_some,e2,Option.bind_some,← hs]
  exact ordered_run _ (by omega) k (by omega)
def Asc (l:List S50):Prop:=l.Pairwise fun x y=>lessK (keyE x) (keyE y)=true
theorem key_lt_of_ne {a b:Key} (h1:lessK b a=false) (h2:a≠b):lessK a b=true:=by
  obtain ⟨a0,a1,a2⟩:=a
  obtain ⟨b0,b1,b2⟩:=b
  rw[← Bool.not_eq_true,lessK_iff]at h1;rw[lessK_iff]
  simp only[ne_eq,Prod.mk.injEq]at h1 h2 ⊢
  omega
theorem key_irrefl (a:Key):lessK a a=false:=by
  rw[← Bool.not_eq_true,lessK_iff];omega
theorem key_lt_trans {a b c:Key} (h1:lessK a b=true) (h2:lessK b c=true):lessK a c=true:=by
  rw[lessK_iff]at *;omega
theorem mergeR_spec (l:List S50) (h:l.Pairwise (fun x y=>lessK (keyE y) (keyE x)=false)):Asc (mergeR l)∧∀ e:S50,e∈mergeR l↔(∃ x∈l,keyE x=keyE e)∧(e.f3=true↔∃ x∈l,keyE x=keyE e∧x.f3=true):=by
  induction l with
  | nil=>exact ⟨List.Pairwise.nil,fun e=>by simp[mergeR]⟩
  | cons x l ih=>
    obtain ⟨hx,hl⟩:=List.pairwise_cons.1 h
    obtain ⟨ih1,ih2⟩:=ih hl
    simp only[mergeR]
    have hge:∀ e∈mergeR l,lessK (keyE e) (keyE x)=false:=fun e he=>by
      obtain ⟨y,hy,hk⟩:=((ih2 e).1 he).1
      rw[← hk];exact hx y hy
    by_cases hex:∃ y∈l,keyE y=keyE x
    ·
      obtain ⟨y,hy,hyk⟩:=hex
      cases hT:mergeR l with
      | nil=>
        cases l with
        | nil=>simp at hy
        | cons z l2=>
          obtain ⟨p,r,e1,_⟩:=mcons_head z (mergeR l2)
          rw[show mergeR (z :: l2)=mcons z (mergeR l2) from rfl,e1]at hT
          cases hT
      | cons q r=>
        rw[hT]at ih1 ih2 hge
        obtain ⟨hq1,hq2⟩:=List.pairwise_cons.1 ih1
        have hqk:keyE q=keyE x:=by
          have hz:=(ih2 ⟨x.f0,x.f1,x.f2,true⟩)
          by_cases hg:∃ y∈l,keyE y=keyE x∧y.f3=true
          · have hm:(⟨x.f0,x.f1,x.f2,true⟩:S50)∈q :: r:=hz.2 ⟨⟨y,hy,hyk⟩,⟨fun _=>hg,fun _=>rfl⟩⟩
            rcases List.mem_cons.1 hm with e1|hm
            · rw[← e1];rfl
            have h1:=hq1 _ hm
            have h2:=hge q List.mem_cons_self
            have h3:lessK (keyE q) (keyE x)=true:=h1
            rw[h2]at h3;cases h3
          have hz:=(ih2 ⟨x.f0,x.f1,x.f2,false⟩)
          have hm:(⟨x.f0,x.f1,x.f2,false⟩:S50)∈q :: r:=hz.2 ⟨⟨y,hy,hyk⟩,⟨fun h=>absurd h Bool.false_ne_true,fun h=>absurd h hg⟩⟩
          rcases List.mem_cons.1 hm with e1|hm
          · rw[← e1];rfl
          have h1:=hq1 _ hm
          have h2:=hge q List.mem_cons_self
          have h3:lessK (keyE q) (keyE x)=true:=h1
          rw[h2]at h3;cases h3
        simp only[mcons]
        rw[if_pos hqk]
        have hqg:=((ih2 q).1 List.mem_cons_self).2
        refine ⟨List.pairwise_cons.2 ⟨fun e he=>?_,hq2⟩,fun e=>?_⟩
        · have:=hq1 e he
          rw[hqk]at this
          exact this
        by_cases hek:keyE e=keyE x
        · constructor
          · intro he
            rcases List.mem_cons.1 he with e1|he
            · refine ⟨⟨x,List.mem_cons_self,hek.symm⟩,?_⟩
              rw[e1]
              constructor
              · intro hb
                rcases Bool.or_eq_true_iff.1 hb with hb|hb
                · exact ⟨x,List.mem_cons_self,rfl,hb⟩
                obtain ⟨z,hz,hzk,hzg⟩:=hqg.1 hb
                exact ⟨z,List.mem_cons_of_mem _ hz,hzk.trans hqk,hzg⟩
              rintro ⟨z,hz,hzk,hzg⟩
              apply Bool.or_eq_true_iff.2
              rcases List.mem_cons.1 hz with rfl|hz
              · exact Or.inl hzg
              exact Or.inr (hqg.2 ⟨z,hz,(show keyE z=keyE x from hzk).trans hqk.symm,hzg⟩)
            have h1:=hq1 e he
            rw[hqk,← hek,key_irrefl]at h1
            cases h1
          rintro ⟨_,hg⟩
          apply List.mem_cons.2
          left
          obtain ⟨e0,e1,e2,e3⟩:=e
          have hk:e0=x.f0∧e1=x.f1∧e2=x.f2:=by
            have:=hek
            unfold keyE at this
            simpa using this
          obtain ⟨rfl,rfl,rfl⟩:=hk
          have:e3=(x.f3 || q.f3):=by
            rw[Bool.eq_iff_iff,Bool.or_eq_true_iff]
            refine hg.trans ⟨?_,?_⟩
            · rintro ⟨z,hz,hzk,hzg⟩
              rcases List.mem_cons.1 hz with rfl|hz
              · exact Or.inl hzg
              exact Or.inr (hqg.2 ⟨z,hz,(show keyE z=keyE x from hzk).trans hqk.symm,hzg⟩)
            rintro (hb|hb)
            · exact ⟨x,List.mem_cons_self,rfl,hb⟩
            obtain ⟨z,hz,hzk,hzg⟩:=hqg.1 hb
            exact ⟨z,List.mem_cons_of_mem _ hz,hzk.trans hqk,hzg⟩
          rw[this]
        have hne:∀ z,keyE z=keyE e→z≠x:=fun z hz he=>hek (by rw[← hz,he])
        have A:(∃ z∈x :: l,keyE z=keyE e)↔∃ z∈l,keyE z=keyE e:=⟨fun ⟨z,hz,hzk⟩=>⟨z,(List.mem_cons.1 hz).resolve_left (hne z hzk),hzk⟩,fun ⟨z,hz,hzk⟩=>⟨z,List.mem_cons_of_mem _ hz,hzk⟩⟩
        have B:(∃ z∈x :: l,keyE z=keyE e∧z.f3=true)↔∃ z∈l,keyE z=keyE e∧z.f3=true:=⟨fun ⟨z,hz,hzk,hzg⟩=>⟨z,(List.mem_cons.1 hz).resolve_left (hne z hzk),hzk,hzg⟩,fun ⟨z,hz,hzk,hzg⟩=>⟨z,List.mem_cons_of_mem _ hz,hzk,hzg⟩⟩
        rw[A,B,← ih2 e,List.mem_cons,List.mem_cons]
        exact or_congr ⟨fun e1=>absurd (by rw[e1];rfl) hek,fun e1=>absurd (by rw[e1];exact hqk) hek⟩ Iff.rfl
    have hlt:∀ e∈mergeR l,lessK (keyE x) (keyE e)=true:=fun e he=>by
      obtain ⟨y,hy,hk⟩:=((ih2 e).1 he).1
      rw[← hk]
      exact key_lt_of_ne (hx y hy) (fun e1=>hex ⟨y,hy,e1.symm⟩)
    have hmc:mcons x (mergeR l)=x :: mergeR l:=by
      cases hT:mergeR l with
      | nil=>rfl
      | cons q r=>
        have hq:=hlt q (by rw[hT];exact List.mem_cons_self)
        simp only[mcons]
        rw[if_neg (fun e1=>by rw[e1,key_irrefl]at hq;cases hq)]
    rw[hmc]
    refine ⟨List.pairwise_cons.2 ⟨hlt,ih1⟩,fun e=>?_⟩
    by_cases hek:keyE e=keyE x
    · have hB:(∃ z∈x :: l,keyE z=keyE e∧z.f3=true)↔x.f3=true:=by
        refine ⟨?_,fun hb=>⟨x,List.mem_cons_self,hek.symm,hb⟩⟩
        rintro ⟨z,hz,hzk,hzg⟩
        rcases List.mem_cons.1 hz with rfl|hz
        · exact hzg
        exact absurd ⟨z,hz,hzk.trans hek⟩ hex
      rw[hB,List.mem_cons]
      constructor
      · rintro (rfl|he)
        · exact ⟨⟨_,List.mem_cons_self,rfl⟩,Iff.rfl⟩
        have:=hlt e he
        rw[hek,key_irrefl]at this
        cases this
      rintro ⟨_,hg⟩
      left
      obtain ⟨e0,e1,e2,e3⟩:=e
      have hk:e0=x.f0∧e1=x.f1∧e2=x.f2:=by
        have:=hek
        unfold keyE at this
        simpa using this
      obtain ⟨rfl,rfl,rfl⟩:=hk
      have:e3=x.f3:=by rw[Bool.eq_iff_iff];exact hg
      rw[this]
    have hne:∀ z,keyE z=keyE e→z≠x:=fun z hz he=>hek (by rw[← hz,he])
    have A:(∃ z∈x :: l,keyE z=keyE e)↔∃ z∈l,keyE z=keyE e:=⟨fun ⟨z,hz,hzk⟩=>⟨z,(List.mem_cons.1 hz).resolve_left (hne z hzk),hzk⟩,fun ⟨z,hz,hzk⟩=>⟨z,List.mem_cons_of_mem _ hz,hzk⟩⟩
    have B:(∃ z∈x :: l,keyE z=keyE e∧z.f3=true)↔∃ z∈l,keyE z=keyE e∧z.f3=true:=⟨fun ⟨z,hz,hzk,hzg⟩=>⟨z,(List.mem_cons.1 hz).resolve_left (hne z hzk),hzk,hzg⟩,fun ⟨z,hz,hzk,hzg⟩=>⟨z,List.mem_cons_of_mem _ hz,hzk,hzg⟩⟩
    rw[A,B,← ih2 e,List.mem_cons]
    exact ⟨fun h=>h.resolve_left (fun e1=>hek (by rw[e1])),Or.inr⟩
theorem asc_unique:∀ (a b:List S50),Asc a→Asc b→(∀ e,e∈a↔e∈b)→a=b
  | [],b,_,_,h=>by
    cases b with
    | nil=>rfl
    | cons y b=>exact absurd ((h y).2 List.mem_cons_self) (by simp)
  | x :: a,b,ha,hb,h=>by
    cases b with
    | nil=>exact absurd ((h x).1 List.mem_cons_self) (by simp)
    | cons y b=>
      obtain ⟨ha1,ha2⟩:=List.pairwise_cons.1 ha
      obtain ⟨hb1,hb2⟩:=List.pairwise_cons.1 hb
      have hxy:x=y:=by
        rcases List.mem_cons.1 ((h x).1 List.mem_cons_self) with e|hx
        · exact e
        rcases List.mem_cons.1 ((h y).2 List.mem_cons_self) with e|hy
        · exact e.symm
        have h1:=key_lt_trans (hb1 x hx) (ha1 y hy)
        rw[key_irrefl]at h1;cases h1
      subst hxy
      have hab:∀ e,e∈a↔e∈b:=by
        intro e
        refine ⟨fun he=>?_,fun he=>?_⟩
        · rcases List.mem_cons.1 ((h e).1 (List.mem_cons_of_mem _ he)) with e1|h2
          · have:=ha1 e he
            rw[e1,key_irrefl]at this;cases this
          exact h2
        rcases List.mem_cons.1 ((h e).2 (List.mem_cons_of_mem _ he)) with e1|h2
        · have:=hb1 e he
          rw[e1,key_irrefl]at this;cases this
        exact h2
      rw[asc_unique a b ha2 hb2 hab]
def madeE (l:List S50):List S50:=mergeR (srtE l)
theorem madeE_length (l:List S50):(madeE l).length≤l.length:=by
  have:=mergeR_length (srtE l)
  rw[srtE_length]at this
  exact this
theorem madeE_spec (l:List S50):Asc (madeE l)∧∀ e:S50,e∈madeE l↔(∃ x∈l,keyE x=keyE e)∧(e.f3=true↔∃ x∈l,keyE x=keyE e∧x.f3=true):=by
  obtain ⟨h1,h2⟩:=srtE_sorts l
  obtain ⟨h3,h4⟩:=mergeR_spec _ h2
  refine ⟨h3,fun e=>?_⟩
  have hm:∀ x,x∈srtE l↔x∈l:=fun x=>h1.mem_iff
  simp only[hm]at h4
  exact h4 e
theorem edges_asc (n st:Int) (l:List S50) (hl:Asc l):∀ p:Option S50,(∀ q,p=some q→∀ e∈l,lessK (keyE q) (keyE e)=true)→edgesB keyE anyE n st p l=l.all (fun e=>stOk n st (keyE e)):=by
  induction l with
  | nil=>intro p _;rfl
  | cons x l ih=>
    intro p hp
    obtain ⟨h1,h2⟩:=List.pairwise_cons.1 hl
    have ha:aheadK keyE p x=true:=by
      cases p with
      | none=>rfl
      | some q=>exact hp q rfl x List.mem_cons_self
    simp only[edgesB,List.all_cons]
    rw[ih h2 (some x) (fun q hq e he=>by cases hq;exact h1 e he),ha,show anyE x=true from rfl,Bool.true_and,Bool.true_and]
theorem madeE_ok (n st s:Int) (l:List S50) (hl:l.length≤2000):autoOkB n st s (madeE l)=(headB n st s && l.all (fun e=>stOk n st (keyE e))):=by
  obtain ⟨h1,h2⟩:=madeE_spec l
  have h3:=madeE_length l
  unfold autoOkB
  rw[decide_eq_true (show (madeE l).length≤2000 by omega),Bool.true_and,edges_asc n st _ h1 none (fun q hq=>by cases hq)]
  congr 1
  rw[Bool.eq_iff_iff,List.all_eq_true,List.all_eq_true]
  constructor
  · intro h x hx
    by_cases hg:∃ y∈l,keyE y=keyE x∧y.f3=true
    · exact h ⟨x.f0,x.f1,x.f2,true⟩ ((h2 _).2 ⟨⟨x,hx,rfl⟩,⟨fun _=>hg,fun _=>rfl⟩⟩)
    exact h ⟨x.f0,x.f1,x.f2,false⟩ ((h2 _).2 ⟨⟨x,hx,rfl⟩,⟨fun h=>absurd h Bool.false_ne_true,fun h=>absurd h hg⟩⟩)
  intro h e he
  obtain ⟨x,hx,hk⟩:=((h2 e).1 he).1
  rw[← hk];exact h x hx
def makeZ (n st s:Int) (l:List S50):Int × Int × Int × List S50 × Bool:=if l.length≤2000∧headB n st s=true∧l.all (fun e=>stOk n st (keyE e))=true then (n,st,s,madeE l,true) else (0,0,0,[],false)
theorem makeZ_length (n st s:Int) (l:List S50):(makeZ n st s l).2.2.2.1.length≤2000:=by
  have:=madeE_length l
  unfold makeZ
  split
  · simp only;omega
  simp
theorem spec_l1Max_eq (a b:Int):spec_l1Max.f a b=some (if a>b then a else b):=by
  unfold spec_l1Max.f
  by_cases h:a>b
  · rw[if_pos h,if_pos h]
  rw[if_neg h,if_neg h]
def atE (n st:Int) (e:S50):Int:=(e.f0 * n+e.f1) * st+e.f2
def mkE (e:S50):Int:=if e.f3=true then 2 else 1
def decE (n st:Int) (i:Nat) (g:Bool):S50:=⟨(i:Int) / st / n,(i:Int) / st % n,(i:Int) % st,g⟩
theorem div_mix (a b n:Int) (h0:0≤b) (h1:b<n):(a * n+b) / n=a∧(a * n+b) % n=b:=by
  refine ⟨?_,?_⟩
  · rw[Int.add_comm,Int.add_mul_ediv_right _ _ (by omega),Int.ediv_eq_zero_of_lt h0 h1];omega
  rw[Int.add_comm,Int.add_mul_emod_self_right,Int.emod_eq_of_lt h0 h1]
theorem atE_range {n st:Int} {e:S50} (h1:1≤n) (h2:n≤8) (h3:0≤st) (h4:st≤31) (h:stOk n st (keyE e)=true):(0≤e.f0 * n∧e.f0 * n≤240)∧(0≤e.f0 * n+e.f1∧e.f0 * n+e.f1<st * n)∧(0≤(e.f0 * n+e.f1) * st∧(e.f0 * n+e.f1) * st≤7688)∧0≤atE n st e∧atE n st e<st * n * st:=by
  obtain ⟨⟨a1,a2⟩,⟨a3,a4⟩,a5,a6⟩:=stOk_iff.1 h
  change 0≤e.f0 at a1;change e.f0≤st - 1 at a2;change 0≤e.f2 at a3;change e.f2≤st - 1 at a4;change 0≤e.f1 at a5;change e.f1≤n - 1 at a6
  have b1:0≤e.f0 * n:=Int.mul_nonneg a1 (by omega)
  have b2:e.f0 * n≤(st - 1) * n:=Int.mul_le_mul_of_nonneg_right a2 (by omega)
  have b3:(st - 1) * n=st * n - n:=by rw[Int.sub_mul,Int.one_mul]
  have b4:(st - 1) * n≤30 * n:=Int.mul_le_mul_of_nonneg_right (by omega) (by omega)
  have b5:(e.f0 * n+e.f1) * st≤(st * n - 1) * st:=Int.mul_le_mul_of_nonneg_right (by omega) h3
  have b6:(st * n - 1) * st=st * n * st - st:=by rw[Int.sub_mul,Int.one_mul]
  have b7:0≤(e.f0 * n+e.f1) * st:=Int.mul_nonneg (by omega) h3
  have b8:(e.f0 * n+e.f1) * st≤248 * st:=Int.mul_le_mul_of_nonneg_right (by omega) h3
  unfold atE
  exact ⟨⟨b1,by omega⟩,⟨by omega,by omega⟩,⟨b7,by omega⟩,by omega,by omega⟩
theorem all_size {n st:Int} (h1:1≤n) (h2:n≤8) (h3:0≤st) (h4:st≤31):0≤st * n∧st * n≤248∧0≤st * n * st∧st * n * st≤7688:=by
  have b1:0≤st * n:=Int.mul_nonneg h3 (by omega)
  have b2:st * n≤31 * n:=Int.mul_le_mul_of_nonneg_right h4 (by omega)
  have b3:0≤st * n * st:=Int.mul_nonneg b1 h3
  have b4:st * n * st≤248 * st:=Int.mul_le_mul_of_nonneg_right (by omega) h3
  exact ⟨b1,by omega,b3,by omega⟩
theorem dec_at {n st:Int} {e:S50} (h1:1≤n) (h2:n≤8) (h3:0≤st) (h4:st≤31) (h:stOk n st (keyE e)=true) (g:Bool):decE n st (atE n st e).toNat g=⟨e.f0,e.f1,e.f2,g⟩:=by
  have hr:=atE_range h1 h2 h3 h4 h
  obtain ⟨⟨a1,a2⟩,⟨a3,a4⟩,a5,a6⟩:=stOk_iff.1 h
  change 0≤e.f0 at a1;change e.f0≤st - 1 at a2;change 0≤e.f2 at a3;change e.f2≤st - 1 at a4;change 0≤e.f1 at a5;change e.f1≤n - 1 at a6
  unfold decE
  rw[Int.toNat_of_nonneg hr.2.2.2.1]
  unfold atE
  obtain ⟨c1,c2⟩:=div_mix (e.f0 * n+e.f1) e.f2 st a3 (by omega)
  obtain ⟨c3,c4⟩:=div_mix e.f0 e.f1 n a5 (by omega)
  rw[c1,c2,c3,c4]
theorem dec_lt {n st:Int} (h1:1≤n) (h3:1≤st) {i j:Nat} (h:i<j) (g g':Bool):lessK (keyE (decE n st i g)) (keyE (decE n st j g'))=true:=by
  rw[lessK_iff]
  show (i:Int) / st / n<(j:Int) / st / n∨((i:Int) / st / n=(j:Int) / st / n∧((i:Int) / st % n<(j:Int) / st % n∨((i:Int) / st % n=(j:Int) / st % n∧(i:Int) % st<(j:Int) % st)))
  have e1:(i:Int) / st≤(j:Int) / st:=Int.ediv_le_ediv (by omega) (by omega)
  have e2:(i:Int) / st / n≤(j:Int) / st / n:=Int.ediv_le_ediv (by omega) e1
  have d1:=Int.mul_ediv_add_emod (i:Int) st
  have d2:=Int.mul_ediv_add_emod (j:Int) st
  have d3:=Int.mul_ediv_add_emod ((i:Int) / st) n
  have d4:=Int.mul_ediv_add_emod ((j:Int) / st) n
  by_cases f1:(i:Int) / st / n=(j:Int) / st / n
  · rw[f1]at d3
    by_cases f2:(i:Int) / st=(j:Int) / st
    · rw[f2]at d1 d3 ⊢
      right;refine ⟨f1 ▸ rfl,?_⟩
      right;refine ⟨rfl,?_⟩;omega
    right;refine ⟨f1,?_⟩;left;omega
  left;omega
theorem at_inj {n st:Int} {x e:S50} (h1:1≤n) (h2:n≤8) (h3:0≤st) (h4:st≤31) (hx:stOk n st (keyE x)=true) (he:stOk n st (keyE e)=true):atE n st x=atE n st e↔keyE x=keyE e:=by
  constructor
  · intro h
    have a:=dec_at h1 h2 h3 h4 hx true
    have b:=dec_at h1 h2 h3 h4 he true
    rw[h,b]at a
    injection a with c1 c2 c3
    unfold keyE
    rw[c1,c2,c3]
  intro h
  unfold keyE at h
  simp only[Prod.mk.injEq]at h
  unfold atE
  rw[h.1,h.2.1,h.2.2]
def markStep (n st:Int) (m:List Int) (e:S50):List Int:=m.set (atE n st e).toNat (if rd m (atE n st e)>mkE e then rd m (atE n st e) else mkE e)
def marksE (n st:Int) (l:List S50) (m:List Int):List Int:=l.foldl (markStep n st) m
theorem marksE_spec (n st:Int) (h1:1≤n) (h2:n≤8) (h3:0≤st) (h4:st≤31) (l:List S50) (hl:l.all (fun e=>stOk n st (keyE e))=true):∀ m:List Int,(m.length:Int)=st * n * st→(∀ i:Nat,0≤rd m (i:Int)∧rd m (i:Int)≤2)→
    (∀ i:Nat,0≤rd (marksE n st l m) (i:Int)∧rd (marksE n st l m) (i:Int)≤2)∧∀ i:Nat,i<m.length→(rd (marksE n st l m) (i:Int)>0↔rd m (i:Int)>0∨∃ e∈l,atE n st e=i)∧(rd (marksE n st l m) (i:Int)=2↔rd m (i:Int)=2∨∃ e∈l,atE n st e=i∧e.f3=true):=by
  induction l with
  | nil=>intro m hm hv;exact ⟨hv,fun i _=>⟨by simp[marksE],by simp[marksE]⟩⟩
  | cons x l ih=>
    intro m hm hv
    simp only[List.all_cons,Bool.and_eq_true]at hl
    obtain ⟨hx,hl⟩:=hl
    have hr:=atE_range h1 h2 h3 h4 hx
    obtain ⟨p,hp⟩:∃ p:Nat,atE n st x=p:=⟨(atE n st x).toNat,by omega⟩
    have hpl:p<m.length:=by omega
    have hstep:∀ i:Nat,rd (markStep n st m x) (i:Int)=if i=p then (if rd m (i:Int)>mkE x then rd m (i:Int) else mkE x) else rd m (i:Int):=by
      intro i
      unfold markStep
      rw[hp,rd_nat,Int.toNat_natCast,List.getD_eq_getElem?_getD,List.getElem?_set]
      by_cases h:p=i
      · subst h;rw[if_pos rfl,if_pos hpl,if_pos rfl,Option.getD_some]
      rw[if_neg h,if_neg (fun e=>h e.symm),← List.getD_eq_getElem?_getD,← rd_nat]
    have hmk:(x.f3=true∧mkE x=2)∨(¬ x.f3=true∧mkE x=1):=by
      unfold mkE
      by_cases h:x.f3=true
      · rw[if_pos h];exact .inl ⟨h,rfl⟩
      rw[if_neg h];exact .inr ⟨h,rfl⟩
    have hv2:∀ i:Nat,0≤rd (markStep n st m x) (i:Int)∧rd (markStep n st m x) (i:Int)≤2:=by
      intro i
      rw[hstep]
      have:=hv i
      split
      · split <;> omega
      exact this
    have hlen:(markStep n st m x).length=m.length:=by unfold markStep;rw[List.length_set]
    obtain ⟨i1,i2⟩:=ih hl (markStep n st m x) (by rw[hlen];exact hm) hv2
    refine ⟨i1,fun i hi=>?_⟩
    obtain ⟨i3,i4⟩:=i2 i (by rw[hlen];exact hi)
    have hvi:=hv i
    refine ⟨i3.trans ?_,i4.trans ?_⟩ <;> clear i1 i2 i3 i4 ih
    · rw[hstep,ex_cons,← or_assoc]
      refine or_congr ?_ Iff.rfl
      by_cases h:i=p
      · rw[if_pos h,hp]
        constructor
        · intro _;right;rw[h]
        intro _;split <;> omega
      rw[if_neg h,hp]
      exact ⟨Or.inl,fun h'=>h'.resolve_right (by omega)⟩
    rw[hstep,ex_cons,← or_assoc]
    refine or_congr ?_ Iff.rfl
    by_cases h:i=p
    · rw[if_pos h,hp]
      rcases hmk with ⟨g,hk⟩|⟨g,hk⟩
      · constructor
        · intro _;right;exact ⟨by rw[h],g⟩
        intro _;split <;> omega
      constructor
      · intro hh;left;split at hh <;> omega
      intro hh
      have h5:=hh.resolve_right (fun h'=>g h'.2)
      rw[if_pos (by omega)];exact h5
    rw[if_neg h,hp]
    exact ⟨Or.inl,fun h'=>h'.resolve_right (fun h''=>h (by omega))⟩
def outE (n st:Int) (m:List Int):Nat→Nat→List S50
  | _,0=>[]
  | i,d+1=>if rd m (i:Int)>0 then decE n st i (rd m (i:Int) == 2) :: outE n st m (i+1) d else outE n st m (i+1) d
theorem mem_outE (n st:Int) (m:List Int) (d:Nat) (e:S50):∀ i,e∈outE n st m i d↔∃ j:Nat,i≤j∧j<i+d∧rd m (j:Int)>0∧e=decE n st j (rd m (j:Int) == 2):=by
  induction d with
  | zero=>
    intro i
    simp only[outE]
    constructor
    · intro h;cases h
    rintro ⟨j,h1,h2,_⟩;omega
  | succ d ih=>
    intro i
    have hi:=ih (i+1)
    have split1:(∃ j:Nat,i≤j∧j<i+(d+1)∧rd m (j:Int)>0∧e=decE n st j (rd m (j:Int) == 2))↔(rd m (i:Int)>0∧e=decE n st i (rd m (i:Int) == 2))∨∃ j:Nat,i+1≤j∧j<i+1+d∧rd m (j:Int)>0∧e=decE n st j (rd m (j:Int) == 2):=by
      constructor
      · rintro ⟨j,a,b,c⟩
        by_cases hj:j=i
        · subst hj;exact .inl c
        exact .inr ⟨j,by omega,by omega,c⟩
      rintro (c|⟨j,a,b,c⟩)
      · exact ⟨i,by omega,by omega,c⟩
      exact ⟨j,by omega,by omega,c⟩
    rw[split1,← hi]
    simp only[outE]
    by_cases h:rd m (i:Int)>0
    · rw[if_pos h,List.mem_cons]
      exact or_congr ⟨fun h'=>⟨h,h'⟩,fun h'=>h'.2⟩ Iff.rfl
    rw[if_neg h]
    exact ⟨Or.inr,fun h'=>h'.resolve_left (fun h''=>h h''.1)⟩
theorem outE_asc {n st:Int} (h1:1≤n) (h3:1≤st) (m:List Int) (d:Nat):∀ i,Asc (outE n st m i d):=by
  induction d with
  | zero=>intro i;exact List.Pairwise.nil
  | succ d ih=>
    intro i
    simp only[outE]
    by_cases h:rd m (i:Int)>0
    · rw[if_pos h]
      refine List.pairwise_cons.2 ⟨fun e he=>?_,ih (i+1)⟩
      obtain ⟨j,a,b,_,rfl⟩:=(mem_outE n st m d e (i+1)).1 he
      exact dec_lt h1 h3 (by omega) _ _
    rw[if_neg h];exact ih (i+1)
theorem outE_made {n st:Int} (h1:1≤n) (h2:n≤8) (h3:0≤st) (h4:st≤31) (l:List S50) (hl:l.all (fun e=>stOk n st (keyE e))=true):outE n st (marksE n st l (List.replicate (st * n * st).toNat 0)) 0 (st * n * st).toNat=madeE l:=by
  obtain ⟨s1,s2,s3,s4⟩:=all_size h1 h2 h3 h4
  have hrep:∀ i:Nat,rd (List.replicate (st * n * st).toNat 0) (i:Int)=0:=fun i=>by
    rw[rd_nat,List.getD_eq_getElem?_getD,List.getElem?_replicate];split <;> rfl
  have hlen:(List.replicate (st * n * st).toNat (0:Int)).length=(st * n * st).toNat:=List.length_replicate
  obtain ⟨_,hm⟩:=marksE_spec n st h1 h2 h3 h4 l hl (List.replicate (st * n * st).toNat 0) (by rw[hlen];omega) (fun i=>by rw[hrep];omega)
  obtain ⟨c1,c2⟩:=madeE_spec l
  by_cases hst:st=0
  · subst hst
    have:l=[]:=by
      cases l with
      | nil=>rfl
      | cons x l=>
        simp only[List.all_cons,Bool.and_eq_true]at hl
        have:=stOk_iff.1 hl.1
        omega
    subst this
    have:(0 * n * 0:Int).toNat=0:=by simp
    rw[this]
    cases hh:madeE [] with
    | nil=>rfl
    | cons y r=>
      have:=(c2 y).1 (by rw[hh];exact List.mem_cons_self)
      obtain ⟨⟨x,hx,_⟩,_⟩:=this
      cases hx
  refine asc_unique _ _ (outE_asc h1 (by omega) _ _ 0) c1 (fun e=>?_)
  rw[mem_outE,c2]
  have hall:=List.all_eq_true.1 hl
  constructor
  · rintro ⟨j,_,hj,hp,he⟩
    obtain ⟨m1,m2⟩:=hm j (by rw[hlen];omega)
    rw[hrep]at m1 m2
    obtain ⟨x,hx,hxj⟩:=(m1.1 hp).resolve_left (by omega)
    have hd:=dec_at h1 h2 h3 h4 (hall x hx) (rd (marksE n st l (List.replicate (st * n * st).toNat 0)) (j:Int) == 2)
    rw[hxj,Int.toNat_natCast]at hd
    have hk:keyE x=keyE e:=by rw[he,hd];rfl
    refine ⟨⟨x,hx,hk⟩,?_⟩
    have hf:e.f3=(rd (marksE n st l (List.replicate (st * n * st).toNat 0)) (j:Int) == 2):=by rw[he];rfl
    rw[hf,beq_iff_eq,m2]
    have hxe:stOk n st (keyE e)=true:=by rw[← hk];exact hall x hx
    constructor
    · intro h
      obtain ⟨y,hy,hyj,hyg⟩:=h.resolve_left (by omega)
      exact ⟨y,hy,(at_inj h1 h2 h3 h4 (hall y hy) hxe).1 (by rw[hyj,← hxj];exact (at_inj h1 h2 h3 h4 (hall x hx) hxe).2 hk),hyg⟩
    rintro ⟨y,hy,hyk,hyg⟩
    exact .inr ⟨y,hy,by rw[← hxj];exact (at_inj h1 h2 h3 h4 (hall y hy) (hall x hx)).2 (hyk.trans hk.symm),hyg⟩
  rintro ⟨⟨x,hx,hk⟩,hg⟩
  have hr:=atE_range h1 h2 h3 h4 (hall x hx)
  obtain ⟨p,hp⟩:∃ p:Nat,atE n st x=p:=⟨(atE n st x).toNat,by omega⟩
  obtain ⟨m1,m2⟩:=hm p (by rw[hlen];omega)
  rw[hrep]at m1 m2
  have hpl:p<(st * n * st).toNat:=by clear hm m1 m2 c2 hall hg;omega
  refine ⟨p,Nat.zero_le _,by rw[Nat.zero_add];exact hpl,m1.2 (.inr ⟨x,hx,hp⟩),?_⟩
  have hd:=dec_at h1 h2 h3 h4 (hall x hx) (rd (marksE n st l (List.replicate (st * n * st).toNat 0)) (p:Int) == 2)
  rw[hp,Int.toNat_natCast]at hd
  rw[hd]
  have hf:e.f3=(rd (marksE n st l (List.replicate (st * n * st).toNat 0)) (p:Int) == 2):=by
    rw[Bool.eq_iff_iff,hg,beq_iff_eq,m2]
    constructor
    · rintro ⟨y,hy,hyk,hyg⟩
      exact .inr ⟨y,hy,by rw[← hp];exact (at_inj h1 h2 h3 h4 (hall y hy) (hall x hx)).2 (hyk.trans hk.symm),hyg⟩
    intro h
    obtain ⟨y,hy,hyj,hyg⟩:=h.resolve_left (by omega)
    exact ⟨y,hy,((at_inj h1 h2 h3 h4 (hall y hy) (hall x hx)).1 (hyj.trans hp.symm)).trans hk,hyg⟩
  unfold keyE at hk
  simp only[Prod.mk.injEq]at hk
  rw[← hf,hk.1,hk.2.1,hk.2.2]
theorem spec_AutoMake_l1 (n st:Int) (h1:1≤n) (h2:n≤8) (h3:0≤st) (h4:st≤31) (p q r:Int) (m:List Int) (hm:(m.length:Int)=st * n * st) (d:Nat):∀ (k i:Nat) (acc:List S50),i+d=m.length→acc.length≤i→d<k→
    spec_AutoMake.l1 k n st m (i:Int) p q r acc=some (p,q,r,acc ++ outE n st m i d,true):=by
  obtain ⟨s1,s2,s3,s4⟩:=all_size h1 h2 h3 h4
  induction d with
  | zero=>
    intro k i acc hi ha hk
    obtain ⟨k,rfl⟩:=succ_of hk
    simp only[spec_AutoMake.l1]
    rw[if_neg (by omega)]
    simp[outE]
  | succ d ih=>
    intro k i acc hi ha hk
    obtain ⟨k,rfl⟩:=succ_of hk
    simp only[spec_AutoMake.l1,outE]
    rw[if_pos (by omega),if_pos (by omega),wrap64_succ (by omega)]
    by_cases h:rd m (i:Int)>0
    · have hst:st≠0:=by
        intro e
        rw[e]at hm
        simp at hm
        simp[hm]at hi
      have e0:Int.tdiv (i:Int) st=(i:Int) / st:=Int.tdiv_eq_ediv_of_nonneg (by omega)
      have e1:0≤(i:Int) / st:=Int.ediv_nonneg (by omega) h3
      have e2:(i:Int) / st≤(i:Int):=Int.ediv_le_self _ (by omega)
      have e3:Int.tdiv ((i:Int) / st) n=(i:Int) / st / n:=Int.tdiv_eq_ediv_of_nonneg e1
      have e4:0≤(i:Int) / st / n:=Int.ediv_nonneg e1 (by omega)
      have e5:(i:Int) / st / n≤(i:Int) / st:=Int.ediv_le_self _ e1
      rw[if_pos h,if_pos h,if_neg hst,if_neg (by omega),if_pos (by omega),e0,wrap64_id (n:=(i:Int) / st) (by omega) (by omega),e3,wrap64_id (n:=(i:Int) / st / n) (by omega) (by omega),Int.tmod_eq_emod_of_nonneg e1,Int.tmod_eq_emod_of_nonneg (by omega)]
      rw[ih k (i+1) _ (by omega) (by simp;omega) (by omega),List.append_assoc]
      rfl
    rw[if_neg h,if_neg h,ih k (i+1) _ (by omega) (by omega) (by omega)]
theorem spec_AutoMake_l0 (n st:Int) (h1:1≤n) (h2:n≤8) (h3:0≤st) (h4:st≤31) (p q r:Int) (l:List S50) (hl:l.length≤2000) (d:Nat):∀ (k i:Nat) (m:List Int),(m.length:Int)=st * n * st→i+d=l.length→2 * d+7800<k→
    spec_AutoMake.l0 k n st l m (i:Int) p q r=some (if (l.drop i).all (fun e=>stOk n st (keyE e))=true then (p,q,r,outE n st (marksE n st (l.drop i) m) 0 m.length,true) else (0,0,0,[],false)):=by
  obtain ⟨s1,s2,s3,s4⟩:=all_size h1 h2 h3 h4
  induction d with
  | zero=>
    intro k i m hm hi hk
    obtain ⟨k,rfl⟩:=succ_of (show 0<k by omega)
    simp only[spec_AutoMake.l0]
    rw[if_neg (by omega),List.drop_eq_nil_of_le (by omega),if_pos (show (([]:List S50).all fun e=>stOk n st (keyE e))=true from rfl)]
    have:=spec_AutoMake_l1 n st h1 h2 h3 h4 p q r m hm m.length k 0 [] (by omega) (by simp) (by omega)
    exact this
  | succ d ih=>
    intro k i m hm hi hk
    obtain ⟨k,rfl⟩:=succ_of (show 0<k by omega)
    obtain ⟨k,rfl⟩:=succ_of (show 0<k by omega)
    have hd:=drop_cons (l:=l) (i:=i) (by omega)
    have hnope:∀ (a b c:Int) (g:Bool),spec_AutoMake.j2 (k+1) n st l m (i:Int) true p q r a b c g=some (0,0,0,[],false):=fun a b c g=>by simp only[spec_AutoMake.j2];rw[if_pos trivial]
    simp only[spec_AutoMake.l0]
    rw[if_pos (by omega),if_pos (by omega),rdE_at (by omega),spec_l4State_eq _ _ (by omega) (by omega),spec_l4State_eq _ _ (by omega) (by omega),Option.bind_some,Option.bind_some,spec_l1In_eq,Option.bind_some]
    simp only[hnope]
    rw[wrap64_id (n:=n - 1) (by omega) (by omega),hd,List.all_cons]
    have hst:stOk n st (keyE l[i])=(inR l[i].f0 0 (st - 1) && (inR l[i].f2 0 (st - 1) && inR l[i].f1 0 (n - 1))):=rfl
    by_cases c0:inR l[i].f0 0 (st - 1)=true
    · rw[if_pos c0]
      by_cases c1:inR l[i].f2 0 (st - 1)=true
      · rw[if_pos c1]
        by_cases c2:inR l[i].f1 0 (n - 1)=true
        · have hok:stOk n st (keyE l[i])=true:=by rw[hst,c0,c1,c2];rfl
          have hr:=atE_range h1 h2 h3 h4 hok
          have hlt:atE n st l[i]<m.length:=by omega
          have hge:=hr.2.2.2.1
          have e0:wrap64 (l[i].f0 * n)=l[i].f0 * n:=wrap64_id (by omega) (by omega)
          have e1:wrap64 (l[i].f0 * n+l[i].f1)=l[i].f0 * n+l[i].f1:=wrap64_id (by omega) (by omega)
          have e2:wrap64 ((l[i].f0 * n+l[i].f1) * st)=(l[i].f0 * n+l[i].f1) * st:=wrap64_id (by omega) (by omega)
          have e3:wrap64 ((l[i].f0 * n+l[i].f1) * st+l[i].f2)=atE n st l[i]:=wrap64_id (by unfold atE at hge hlt;omega) (by unfold atE at hge hlt;omega)
          have hset:∀ v:Int,v=mkE l[i]→spec_AutoMake.l0 k n st l (m.set (atE n st l[i]).toNat (if rd m (atE n st l[i])>v then rd m (atE n st l[i]) else v)) ((i+1:Nat):Int) p q r=some (if (true && (l.drop (i+1)).all (fun e=>stOk n st (keyE e)))=true then (p,q,r,outE n st (marksE n st (l[i] :: l.drop (i+1)) m) 0 m.length,true) else (0,0,0,[],false)):=by
            rintro v rfl
            have hl2:(markStep n st m l[i]).length=m.length:=by unfold markStep;rw[List.length_set]
            have:=ih k (i+1) (markStep n st m l[i]) (by rw[hl2];exact hm) (by omega) (by omega)
            rw[hl2]at this
            rw[Bool.true_and]
            exact this
          rw[c2,hok]
          simp only[spec_AutoMake.j2,Bool.not_true,Bool.false_eq_true,if_false]
          rw[e0,e1,e2,e3,spec_l1Max_eq,spec_l1Max_eq,Option.bind_some,Option.bind_some,wrap64_succ (by omega)]
          cases hg:l[i].f3
          · rw[if_neg (by simp),if_pos hge,if_pos hlt]
            exact hset 1 (by unfold mkE;rw[hg];rfl)
          rw[if_pos rfl,if_pos hge,if_pos hlt]
          exact hset 2 (by unfold mkE;rw[hg];rfl)
        simp only[Bool.not_eq_true]at c2
        rw[c2,hst,c0,c1,c2]
        simp only[Bool.not_false,Bool.and_false,Bool.false_and,Bool.false_eq_true,if_false]
        exact hnope _ _ _ _
      rw[if_neg c1]
      simp only[Bool.not_eq_true]at c1
      rw[hst,c0,c1]
      simp
    rw[if_neg c0]
    simp only[Bool.not_eq_true]at c0
    rw[hst,c0]
    simp
theorem spec_AutoMake_eq (n st s:Int) (l:List S50) (hl:l.length≤1099511627776) (k:Nat) (hk:12000<k):spec_AutoMake.f k n st s l=some (makeZ n st s l):=by
  unfold spec_AutoMake.f makeZ
  rw[spec_AutoOk_eq n st s [] (by simp) k (by simp;omega),Option.bind_some]
  obtain ⟨k,rfl⟩:=succ_of (show 0<k by omega)
  have hh:autoOkB n st s ([]:List S50)=headB n st s:=by unfold autoOkB;simp[edgesB]
  rw[hh]
  by_cases h1:headB n st s=true
  · rw[if_pos h1]
    obtain ⟨a1,a2,a3⟩:=head_of h1
    obtain ⟨s1,s2,s3,s4⟩:=all_size a1.1 a1.2 a2.1 a2.2
    simp only[spec_AutoMake.j0]
    by_cases hl2:l.length≤2000
    · have e1:wrap64 (st * n)=st * n:=wrap64_id (by omega) (by omega)
      have e2:wrap64 (st * n * st)=st * n * st:=wrap64_id (by omega) (by omega)
      rw[decide_eq_false (show ¬ (l.length:Int)>2000 by omega),if_neg (by simp),e1,e2,if_pos s3,if_pos (by omega)]
      have h:=spec_AutoMake_l0 n st a1.1 a1.2 a2.1 a2.2 n st s l hl2 l.length k 0 (List.replicate (st * n * st).toNat 0) (by rw[List.length_replicate];omega) (by omega) (by omega)
      rw[show ((0:Nat):Int)=0 from rfl,List.drop_zero,List.length_replicate]at h
      rw[h]
      by_cases h2:l.all (fun e=>stOk n st (keyE e))=true
      · rw[if_pos h2,if_pos ⟨hl2,h1,h2⟩,outE_made a1.1 a1.2 a2.1 a2.2 l h2]
      rw[if_neg h2,if_neg (fun h=>h2 h.2.2)]
    rw[decide_eq_true (show (l.length:Int)>2000 by omega),if_pos rfl,if_neg (fun h=>hl2 h.1)]
  rw[if_neg h1,if_neg (fun h=>h1 h.2.1)]
  simp only[spec_AutoMake.j0]
  rw[if_pos trivial]
def waitZ (m:Int):Int→Nat→Int × Bool
  | _,0=>(0,true)
  | j,d+1=>if hasZ m j then waitZ m (j+1) d else (j,false)
theorem waitZ_range (m:Int) (d:Nat):∀ j:Int,0≤j→0≤(waitZ m j d).1∧(waitZ m j d).1<j+d+1:=by
  induction d with
  | zero=>intro j hj;simp only[waitZ];omega
  | succ d ih=>
    intro j hj
    simp only[waitZ]
    split
    · have:=ih (j+1) (by omega);omega
    simp only;omega
def degRow (n c:Int) (e:S58):Nat→Nat→List S50
  | _,0=>[]
  | j,d+1=>⟨e.f0 * n+j,e.f1,e.f2 * n+(waitZ e.f3 j (c.toNat - j)).1,(waitZ e.f3 j (c.toNat - j)).2⟩ :: degRow n c e (j+1) d
def degAll (n c:Int):List S58→List S50
  | []=>[]
  | e :: l=>degRow n c e 0 n.toNat ++ degAll n c l
theorem degRow_length (n c:Int) (e:S58) (d:Nat):∀ j,(degRow n c e j d).length=d:=by
  induction d with
  | zero=>intro j;rfl
  | succ d ih=>intro j;simp[degRow,ih]
def startD (n:Int):Int→List Int→Int
  | a,[]=>a
  | a,x :: l=>startD n (putZ a (x * n)) l
def sizeD (c:Int):Int:=if c>1 then c else 1
def degenZ (n st s c:Int) (l:List S58):Int × Int × Int × List S50 × Bool:=
  if genOkB n st s c l=true∧st * sizeD c≤31∧(l.length:Int) * sizeD c≤2000 then makeZ n (st * sizeD c) (startD (sizeD c) 0 (listFrom s 0 st.toNat)) (degAll (sizeD c) c l) else (0,0,0,[],false)
theorem degenZ_length (n st s c:Int) (l:List S58):(degenZ n st s c l).2.2.2.1.length≤2000:=by
  unfold degenZ
  split
  · exact makeZ_length _ _ _ _
  simp
theorem hasZ_small (m:Int) (i:Nat) (h:i≤30):hasZ m (i:Int)=m.toNat.testBit i:=by
  unfold hasZ
  rw[show inR (i:Int) 0 30=true from inR_iff.2 ⟨by omega,by omega⟩,Bool.true_and,Int.toNat_natCast]
theorem sizeD_range {c:Int} (h0:0≤c) (h1:c≤4):1≤sizeD c∧sizeD c≤4∧c≤sizeD c:=by
  unfold sizeD;split <;> omega
theorem spec_GenDegen_l3 (n c x5:Int) (acc:List S50) (i j:Nat) (p0 p1 p2:Int) (L:List S58) (e0 e1 e2 e3:Int) (hc0:0≤c) (hc:c≤4) (hn:1≤n) (hn4:n≤4) (hm0:0≤e3) (hm1:e3≤2147483647) (ha0:0≤e0) (ha1:e0≤100) (hb0:0≤e2) (hb1:e2≤100) (hacc:acc.length≤1000000) (hj:j≤4)
    (R:Int × Int × Int × List S50 × Bool) (k0:Nat) (g:S50) (hnext:∀ k,k0≤k→spec_GenDegen.l2 k n x5 (acc ++ [g]) (i:Int) ((j+1:Nat):Int) p0 p1 p2 c L e0 e1 e2 e3=some R) (d:Nat) :
    ∀ (k q:Nat),((q:Int)+d=c∨(d=0∧c≤(q:Int)))→q≤4→g=⟨e0 * n+j,e1,e2 * n+(waitZ e3 q d).1,(waitZ e3 q d).2⟩→k0+d+1≤k→spec_GenDegen.l3 k n x5 acc (i:Int) (j:Int) (q:Int) p0 p1 p2 c L e0 e1 e2 e3=some R:=by
  have m0:0≤e0 * n:=Int.mul_nonneg ha0 (by omega)
  have m1:e0 * n≤100 * n:=Int.mul_le_mul_of_nonneg_right ha1 (by omega)
  have m2:0≤e2 * n:=Int.mul_nonneg hb0 (by omega)
  have m3:e2 * n≤100 * n:=Int.mul_le_mul_of_nonneg_right hb1 (by omega)
  induction d with
  | zero=>
    intro k q hq hq4 hg hk
    obtain ⟨k,rfl⟩:=succ_of (show 0<k by omega)
    subst hg
    simp only[spec_GenDegen.l3]
    have:=hnext k (by omega)
    rw[if_neg (by omega),if_pos (by omega),if_pos (by omega),decide_eq_true (by omega),wrap64_id (n:=e0 * n) (by omega) (by omega),wrap64_id (n:=e0 * n+j) (by omega) (by omega),wrap64_id (n:=e2 * n) (by omega) (by omega),wrap64_id (n:=e2 * n+0) (by omega) (by omega),wrap64_succ (by omega)]
    exact this
  | succ d ih=>
    intro k q hq hq4 hg hk
    obtain ⟨k,rfl⟩:=succ_of (show 0<k by omega)
    have hqc:(q:Int)<c:=by omega
    simp only[spec_GenDegen.l3]
    rw[if_pos hqc,spec_l1Has_eq e3 q hm0 (by omega),Option.bind_some]
    by_cases h:hasZ e3 (q:Int)=true
    · rw[if_pos h,wrap64_succ (by omega)]
      refine ih k (q+1) (by omega) (by omega) ?_ (by omega)
      rw[hg];simp only[waitZ];rw[if_pos h];rfl
    have hw:waitZ e3 q (d+1)=((q:Int),false):=by simp only[waitZ];rw[if_neg h]
    rw[hw]at hg
    subst hg
    have:=hnext k (by omega)
    rw[if_neg h,if_neg (by omega),if_pos (by omega),decide_eq_false (by omega),wrap64_id (n:=e0 * n) (by omega) (by omega),wrap64_id (n:=e0 * n+j) (by omega) (by omega),wrap64_id (n:=e2 * n) (by omega) (by omega),wrap64_id (n:=e2 * n+q) (by omega) (by omega),wrap64_succ (by omega)]
    exact this
theorem spec_GenDegen_l2 (n c x5:Int) (i:Nat) (p0 p1 p2:Int) (L:List S58) (e:S58) (hc0:0≤c) (hc:c≤4) (hn:1≤n) (hn4:n≤4) (hm0:0≤e.f3) (hm1:e.f3≤2147483647) (ha0:0≤e.f0) (ha1:e.f0≤100) (hb0:0≤e.f2) (hb1:e.f2≤100)
    (R:Int × Int × Int × List S50 × Bool) (k0:Nat) (A:List S50) (hA:A.length≤900000) (hnext:∀ k,k0≤k→spec_GenDegen.l1 k n x5 A ((i:Int)+1) p0 p1 p2 c L=some R) (hi:i≤100000) (d:Nat) :
    ∀ (k j:Nat) (acc:List S50),(j:Int)+d=n→A=acc ++ degRow n c e j d→k0+8 * d+1≤k→spec_GenDegen.l2 k n x5 acc (i:Int) (j:Int) p0 p1 p2 c L e.f0 e.f1 e.f2 e.f3=some R:=by
  induction d with
  | zero=>
    intro k j acc hj hacc hk
    obtain ⟨k,rfl⟩:=succ_of (show 0<k by omega)
    simp only[spec_GenDegen.l2]
    simp only[degRow,List.append_nil]at hacc
    rw[if_neg (by omega),wrap64_id (by omega) (by omega),← hacc]
    exact hnext k (by omega)
  | succ d ih=>
    intro k j acc hj hacc hk
    obtain ⟨k,rfl⟩:=succ_of (show 0<k by omega)
    have hal:acc.length≤900000:=by
      have:=congrArg List.length hacc
      rw[List.length_append]at this;omega
    simp only[spec_GenDegen.l2]
    rw[if_pos (by omega)]
    refine spec_GenDegen_l3 n c x5 acc i j p0 p1 p2 L e.f0 e.f1 e.f2 e.f3 hc0 hc hn hn4 hm0 hm1 ha0 ha1 hb0 hb1 (by omega) (by omega) R (k0+8 * d+1) _ (fun k' hk'=>ih k' (j+1) _ (by omega) ?_ hk') (c.toNat - j) k j (by omega) (by omega) rfl (by omega)
    rw[hacc]
    simp only[degRow,List.append_assoc,List.singleton_append]
theorem spec_GenDegen_l1 (n c st s x5:Int) (nl:Int) (L:List S58) (h:genOkB nl st s c L=true) (hn:n=sizeD c) (hsz:st * n≤31) (d:Nat):∀ (k i:Nat) (acc:List S50),i+d=L.length→50 * d+13000<k→acc.length≤4 * i→
    spec_GenDegen.l1 k n x5 acc (i:Int) nl st s c L=some (makeZ nl (st * n) x5 (acc ++ degAll n c (L.drop i))):=by
  obtain ⟨g1,g2,g3,g4⟩:=genOk_of h
  have hh:=head_of g1
  have hc:=inR_iff.1 g2
  have hr:=sizeD_range hc.1 hc.2
  rw[← hn]at hr
  have hs0:0≤st * n:=Int.mul_nonneg hh.2.1.1 (by omega)
  induction d with
  | zero=>
    intro k i acc hi hk ha
    obtain ⟨k,rfl⟩:=succ_of (show 0<k by omega)
    simp only[spec_GenDegen.l1]
    rw[if_neg (by omega),List.drop_eq_nil_of_le (by omega),wrap64_id (n:=st * n) (by omega) (by omega),spec_AutoMake_eq nl (st * n) x5 acc (by omega) k (by omega),Option.bind_some]
    simp only[degAll,List.append_nil]
  | succ d ih=>
    intro k i acc hi hk ha
    obtain ⟨k,rfl⟩:=succ_of (show 0<k by omega)
    have hm:=edgesB_mem g4 (List.getElem_mem (show i<L.length by omega))
    obtain ⟨⟨a1,a2⟩,⟨a3,a4⟩,a5,a6⟩:=stOk_iff.1 hm.1
    have hmk:=inR_iff.1 hm.2
    have hb:=bitZ_le31 (i:=c) (by omega)
    change 0≤L[i].f0 at a1;change L[i].f0≤st - 1 at a2;change 0≤L[i].f2 at a3;change L[i].f2≤st - 1 at a4
    simp only[spec_GenDegen.l1]
    rw[if_pos (by omega),if_pos (by omega),rdG_at (by omega),drop_cons (l:=L) (i:=i) (by omega)]
    have hl:=degRow_length n c L[i] n.toNat 0
    refine spec_GenDegen_l2 n c x5 i nl st s L L[i] hc.1 hc.2 hr.1 hr.2.1 hmk.1 (by omega) a1 (by omega) a3 (by omega) _ (50 * d+13001) (acc ++ degRow n c L[i] 0 n.toNat) (by rw[List.length_append];omega) (fun k' hk'=>?_) (by omega) n.toNat k 0 acc (by omega) rfl (by omega)
    have:=ih k' (i+1) (acc ++ degRow n c L[i] 0 n.toNat) (by omega) (by omega) (by rw[List.length_append];omega)
    rw[List.append_assoc]at this
    exact this
theorem spec_GenDegen_l0 (n c st s:Int) (nl:Int) (L:List S58) (h:genOkB nl st s c L=true) (hn:n=sizeD c) (hsz:st * n≤31) (d:Nat):∀ (k i:Nat) (a:Int),(i:Int)+d=st→SetZ a→d+50 * L.length+14000<k→
    spec_GenDegen.l0 k n a (i:Int) nl st s c L=some (makeZ nl (st * n) (startD n a (listFrom s i d)) (degAll n c L)):=by
  obtain ⟨g1,g2,g3,g4⟩:=genOk_of h
  have hh:=head_of g1
  have hc:=inR_iff.1 g2
  have hr:=sizeD_range hc.1 hc.2
  rw[← hn]at hr
  induction d with
  | zero=>
    intro k i a hi ha hk
    obtain ⟨k,rfl⟩:=succ_of (show 0<k by omega)
    simp only[spec_GenDegen.l0]
    rw[if_neg (by omega)]
    have:=spec_GenDegen_l1 n c st s a nl L h hn hsz L.length k 0 [] (by omega) (by omega) (by simp)
    rw[List.drop_zero,List.nil_append]at this
    exact this
  | succ d ih=>
    intro k i a hi ha hk
    obtain ⟨k,rfl⟩:=succ_of (show 0<k by omega)
    have hm:((i:Int)+1) * n≤st * n:=Int.mul_le_mul_of_nonneg_right (by omega) (by omega)
    have hm2:((i:Int)+1) * n=(i:Int) * n+n:=by rw[Int.add_mul,Int.one_mul]
    have hm3:0≤(i:Int) * n:=Int.mul_nonneg (by omega) (by omega)
    simp only[spec_GenDegen.l0,listFrom]
    rw[if_pos (by omega),spec_l1Has_eq s i hh.2.2.1 (by omega),Option.bind_some,wrap64_succ (by omega),wrap64_id (n:=(i:Int) * n) (by omega) (by omega),spec_l1Bit_eq _ hm3 (by omega),Option.bind_some,or_bitZ a _ ha.1 (by have:=ha.2;omega) hm3 (by omega)]
    by_cases hz:hasZ s (i:Int)=true
    · rw[if_pos hz,if_pos hz,ih k (i+1) _ (by omega) (SetZ_put ha (by omega)) (by omega)]
      rfl
    rw[if_neg hz,if_neg hz,ih k (i+1) a (by omega) ha (by omega)]
theorem max_eq_size {c:Int}:(if c>1 then c else 1)=sizeD c:=rfl
theorem spec_GenDegen_eq (n st s c:Int) (l:List S58) (h:genOkB n st s c l=true) (k:Nat) (hk:204000<k):spec_GenDegen.f k n st s c l=some (degenZ n st s c l):=by
  unfold spec_GenDegen.f degenZ
  have hl:=(genOk_of h).2.2.1
  rw[spec_GenOk_eq n st s c l h k (by omega),Option.bind_some,spec_l1Max_eq,Option.bind_some,Option.bind_some,max_eq_size]
  obtain ⟨k,rfl⟩:=succ_of (show 0<k by omega)
  · obtain ⟨g1,g2,g3,g4⟩:=genOk_of h
    have hh:=head_of g1
    have hc:=inR_iff.1 g2
    have hr:=sizeD_range hc.1 hc.2
    have m0:0≤st * sizeD c:=Int.mul_nonneg hh.2.1.1 (by omega)
    have m1:st * sizeD c≤31 * sizeD c:=Int.mul_le_mul_of_nonneg_right hh.2.1.2 (by omega)
    have m2:0≤(l.length:Int) * sizeD c:=Int.mul_nonneg (by omega) (by omega)
    have m3:(l.length:Int) * sizeD c≤2000 * sizeD c:=Int.mul_le_mul_of_nonneg_right (by omega) (by omega)
    rw[if_pos rfl,wrap64_id (n:=st * sizeD c) (by omega) (by omega),wrap64_id (n:=(l.length:Int) * sizeD c) (by omega) (by omega)]
    by_cases h1:st * sizeD c≤31
    · rw[if_neg (by omega)]
      simp only[spec_GenDegen.j0]
      by_cases h2:(l.length:Int) * sizeD c≤2000
      · rw[decide_eq_false (show ¬ (l.length:Int) * sizeD c>2000 by omega),if_neg Bool.false_ne_true,spec_l1Max_eq,Option.bind_some,max_eq_size,if_pos ⟨h,h1,h2⟩]
        have:=spec_GenDegen_l0 (sizeD c) c st s n l h rfl h1 st.toNat k 0 0 (by omega) ⟨by omega,by omega⟩ (by omega)
        exact this
      rw[decide_eq_true (show (l.length:Int) * sizeD c>2000 by omega),if_pos rfl,if_neg (fun h'=>h2 h'.2.2)]
    rw[if_pos (by omega),if_neg (fun h'=>h1 h'.2.1)]
    simp only[spec_GenDegen.j0]
    rw[if_pos trivial]
theorem impl_waitFor_l0 (m c:Int) (hm0:0≤m) (hm1:m≤2147483647) (hc:c≤4) (d:Nat):∀ (k q:Nat),(q:Int)+d=c→d<k→impl_waitFor.l0 k m (q:Int) c=some (waitZ m q d):=by
  induction d with
  | zero=>
    intro k q hq hk
    obtain ⟨k,rfl⟩:=succ_of (show 0<k by omega)
    simp only[impl_waitFor.l0,waitZ]
    rw[if_neg (by omega),if_pos (by omega)]
  | succ d ih=>
    intro k q hq hk
    obtain ⟨k,rfl⟩:=succ_of (show 0<k by omega)
    simp only[impl_waitFor.l0,waitZ]
    rw[if_pos (by omega),impl_has_eq m q hm0 (by omega) (by omega) (by omega),Option.bind_some,Int.toNat_natCast,← hasZ_small m q (by omega),wrap64_succ (by omega)]
    by_cases h:hasZ m (q:Int)=true
    · rw[if_pos h,if_pos h,ih k (q+1) (by omega) (by omega)];rfl
    rw[if_neg h,if_neg h,if_neg (by omega)]
theorem impl_waitFor_eq (m c:Int) (hm0:0≤m) (hm1:m≤2147483647) (hc0:0≤c) (hc:c≤4) (q:Nat) (hq:(q:Int)<sizeD c) (k:Nat) (hk:10<k):impl_waitFor.f k m (q:Int) c=some (waitZ m q (c.toNat - q)):=by
  unfold impl_waitFor.f
  by_cases h:(q:Int)≤c
  · exact impl_waitFor_l0 m c hm0 hm1 hc (c.toNat - q) k q (by omega) (by omega)
  unfold sizeD at hq
  split at hq <;> omega
theorem impl_GenDegen_l2 (n c:Int) (L:List S58) (i:Nat) (p0 p1 p2 q0 q1 q2:Int) (e:S58) (hc0:0≤c) (hc:c≤4) (hn:n=sizeD c) (hm0:0≤e.f3) (hm1:e.f3≤2147483647) (ha0:0≤e.f0) (ha1:e.f0≤100) (hb0:0≤e.f2) (hb1:e.f2≤100)
    (R:Int × Int × Int × List S50 × Bool) (k0:Nat) (hk0:20<k0) (A:List S50) (hA:A.length≤900000) (hnext:∀ k,k0≤k→impl_GenDegen.l1 k n L (L.length:Int) ((i:Int)+1) p0 p1 p2 c L q0 q1 q2 A=some R) (hi:i≤100000) (d:Nat) :
    ∀ (k j:Nat) (acc:List S50),(j:Int)+d=n→A=acc ++ degRow n c e j d→k0+d+1≤k→impl_GenDegen.l2 k n L (L.length:Int) (i:Int) n (j:Int) p0 p1 p2 c L q0 q1 q2 acc e.f0 e.f1 e.f2 e.f3=some R:=by
  have hr:=sizeD_range hc0 hc
  rw[← hn]at hr
  have m0:0≤e.f0 * n:=Int.mul_nonneg ha0 (by omega)
  have m1:e.f0 * n≤100 * n:=Int.mul_le_mul_of_nonneg_right ha1 (by omega)
  have m2:0≤e.f2 * n:=Int.mul_nonneg hb0 (by omega)
  have m3:e.f2 * n≤100 * n:=Int.mul_le_mul_of_nonneg_right hb1 (by omega)
  induction d with
  | zero=>
    intro k j acc hj hacc hk
    obtain ⟨k,rfl⟩:=succ_of (show 0<k by omega)
    simp only[impl_GenDegen.l2]
    simp only[degRow,List.append_nil]at hacc
    rw[if_neg (by omega),wrap64_id (by omega) (by omega),← hacc]
    exact hnext k (by omega)
  | succ d ih=>
    intro k j acc hj hacc hk
    obtain ⟨k,rfl⟩:=succ_of (show 0<k by omega)
    have hal:acc.length≤900000:=by
      have:=congrArg List.length hacc
      rw[List.length_append]at this;omega
    have hw:=waitZ_range e.f3 (c.toNat - j) (j:Int) (by omega)
    simp only[impl_GenDegen.l2]
    rw[if_pos (by omega),impl_waitFor_eq e.f3 c hm0 hm1 hc0 hc j (by omega) k (by omega),Option.bind_some,if_pos (by omega),wrap64_id (n:=e.f0 * n) (by omega) (by omega),wrap64_id (n:=e.f0 * n+j) (by omega) (by omega),wrap64_id (n:=e.f2 * n) (by omega) (by omega),wrap64_id (n:=e.f2 * n+(waitZ e.f3 j (c.toNat - j)).1) (by omega) (by omega),wrap64_succ (by omega)]
    refine ih k (j+1) _ (by omega) ?_ (by omega)
    rw[hacc]
    simp only[degRow,List.append_assoc,List.singleton_append]
theorem impl_GenDegen_l1 (n c st s:Int) (q0 q1 q2:Int) (nl:Int) (L:List S58) (h:genOkB nl st s c L=true) (hn:n=sizeD c) (d:Nat):∀ (k i:Nat) (acc:List S50),i+d=L.length→20 * d+10000<k→acc.length+d * n.toNat≤2000→
    impl_GenDegen.l1 k n L (L.length:Int) (i:Int) nl st s c L q0 q1 q2 acc=some (makeZ q0 q1 q2 (acc ++ degAll n c (L.drop i))):=by
  obtain ⟨g1,g2,g3,g4⟩:=genOk_of h
  have hh:=head_of g1
  have hc:=inR_iff.1 g2
  have hr:=sizeD_range hc.1 hc.2
  rw[← hn]at hr
  induction d with
  | zero=>
    intro k i acc hi hk ha
    obtain ⟨k,rfl⟩:=succ_of (show 0<k by omega)
    have hml:=madeE_length acc
    have hmr:mergeR (srtE acc)=madeE acc:=rfl
    simp only[impl_GenDegen.l1]
    rw[if_neg (by omega),List.drop_eq_nil_of_le (by omega),impl_ordered_eq acc (by omega) k (by omega),Option.bind_some,hmr,impl_rightAuto_eq q0 q1 q2 _ (by omega) k (by omega),Option.bind_some]
    simp only[degAll,List.append_nil]
    rw[madeE_ok q0 q1 q2 acc (by omega)]
    unfold makeZ
    by_cases h1:headB q0 q1 q2=true
    · by_cases h2:acc.all (fun e=>stOk q0 q1 (keyE e))=true
      · rw[if_pos (show acc.length≤2000∧headB q0 q1 q2=true∧acc.all (fun e=>stOk q0 q1 (keyE e))=true from ⟨by omega,h1,h2⟩),h1,h2];rfl
      rw[if_neg (show ¬ (acc.length≤2000∧headB q0 q1 q2=true∧acc.all (fun e=>stOk q0 q1 (keyE e))=true) from fun h=>h2 h.2.2)]
      simp only[Bool.not_eq_true]at h2
      rw[h2,Bool.and_false];rfl
    rw[if_neg (show ¬ (acc.length≤2000∧headB q0 q1 q2=true∧acc.all (fun e=>stOk q0 q1 (keyE e))=true) from fun h=>h1 h.2.1)]
    simp only[Bool.not_eq_true]at h1
    rw[h1,Bool.false_and];rfl
  | succ d ih=>
    intro k i acc hi hk ha
    obtain ⟨k,rfl⟩:=succ_of (show 0<k by omega)
    rw[Nat.succ_mul]at ha
    have hm:=edgesB_mem g4 (List.getElem_mem (show i<L.length by omega))
    obtain ⟨⟨a1,a2⟩,⟨a3,a4⟩,a5,a6⟩:=stOk_iff.1 hm.1
    have hmk:=inR_iff.1 hm.2
    have hb:=bitZ_le31 (i:=c) (by omega)
    change 0≤L[i].f0 at a1;change L[i].f0≤st - 1 at a2;change 0≤L[i].f2 at a3;change L[i].f2≤st - 1 at a4
    simp only[impl_GenDegen.l1]
    rw[if_pos (by omega),if_pos (by omega),if_pos (by omega),rdG_at (by omega),drop_cons (l:=L) (i:=i) (by omega)]
    have hl:=degRow_length n c L[i] n.toNat 0
    refine impl_GenDegen_l2 n c L i nl st s q0 q1 q2 L[i] hc.1 hc.2 hn hmk.1 (by omega) a1 (by omega) a3 (by omega) _ (20 * d+10001) (by omega) (acc ++ degRow n c L[i] 0 n.toNat) (by rw[List.length_append];omega) (fun k' hk'=>?_) (by omega) n.toNat k 0 acc (by omega) rfl (by omega)
    have:=ih k' (i+1) (acc ++ degRow n c L[i] 0 n.toNat) (by omega) (by omega) (by rw[List.length_append];omega)
    rw[List.append_assoc]at this
    exact this
theorem impl_GenDegen_l0 (n c st s:Int) (q0 q1:Int) (nl:Int) (L:List S58) (h:genOkB nl st s c L=true) (hn:n=sizeD c) (hlen:(L.length:Int) * n≤2000) (hsz:st * n≤31) (M:List Int) (hM:∀ x∈M,0≤x∧x<st) (hMl:M.length≤31) (d:Nat):∀ (k i:Nat) (a:Int),i+d=M.length→SetZ a→d+20 * L.length+11000<k→
    impl_GenDegen.l0 k n M (M.length:Int) (i:Int) nl st s c L q0 q1 a=some (makeZ q0 q1 (startD n a (M.drop i)) (degAll n c L)):=by
  obtain ⟨g1,g2,g3,g4⟩:=genOk_of h
  have hh:=head_of g1
  have hc:=inR_iff.1 g2
  have hr:=sizeD_range hc.1 hc.2
  rw[← hn]at hr
  induction d with
  | zero=>
    intro k i a hi ha hk
    obtain ⟨k,rfl⟩:=succ_of (show 0<k by omega)
    simp only[impl_GenDegen.l0]
    rw[if_neg (by omega),List.drop_eq_nil_of_le (by omega)]
    have hln:(L.length:Int) * n=((L.length * n.toNat:Nat):Int):=by rw[Int.natCast_mul,Int.toNat_of_nonneg (by omega)]
    have:=impl_GenDegen_l1 n c st s q0 q1 a nl L h hn L.length k 0 [] (by omega) (by omega) (by simp only[List.length_nil];omega)
    rw[List.drop_zero,List.nil_append]at this
    exact this
  | succ d ih=>
    intro k i a hi ha hk
    obtain ⟨k,rfl⟩:=succ_of (show 0<k by omega)
    obtain ⟨x0,x1⟩:=hM M[i] (List.getElem_mem (by omega))
    have hm:(M[i]+1) * n≤st * n:=Int.mul_le_mul_of_nonneg_right (by omega) (by omega)
    have hm2:(M[i]+1) * n=M[i] * n+n:=by rw[Int.add_mul,Int.one_mul]
    have hm3:0≤M[i] * n:=Int.mul_nonneg (by omega) (by omega)
    simp only[impl_GenDegen.l0]
    rw[if_pos (by omega),if_pos (by omega),if_pos (by omega),rd_at (by omega),wrap64_succ (by omega),wrap64_id (n:=M[i] * n) (by omega) (by omega),impl_only_eq _ hm3 (by omega),Option.bind_some,or_bitZ a _ ha.1 (by have:=ha.2;omega) hm3 (by omega),ih k (i+1) _ (by omega) (SetZ_put ha (by omega)) (by omega),drop_cons (l:=M) (i:=i) (by omega)]
    rfl
theorem mx_size {c:Int} (h:0<c):mx c 1=sizeD c:=by
  unfold mx sizeD
  split <;> split <;> omega
theorem impl_GenDegen_eq (n st s c:Int) (l:List S58) (h:genOkB n st s c l=true) (hc0:c>0) (k:Nat) (hk:206000<k):impl_GenDegen.f k n st s c l=some (degenZ n st s c l):=by
  unfold impl_GenDegen.f degenZ
  have hl:=(genOk_of h).2.2.1
  rw[impl_GenOk_eq n st s c l h k (by omega),Option.bind_some]
  obtain ⟨k,rfl⟩:=succ_of (show 0<k by omega)
  · obtain ⟨g1,g2,g3,g4⟩:=genOk_of h
    have hh:=head_of g1
    have hc:=inR_iff.1 g2
    have hr:=sizeD_range hc.1 hc.2
    have hset:SetZ s:=⟨hh.2.2.1,hh.2.2.2.2⟩
    have hbel:=hasZ_below hh.2.2.1 hh.2.2.2.1 hh.2.1.1
    have hlo:listOf s=listFrom s 0 st.toNat:=by
      unfold listOf
      rw[if_pos (show okB s=true from inR_iff.2 ⟨hset.1,hset.2⟩)]
      exact listFrom_all (by omega) (fun i hi=>by have:=hbel i hi;omega)
    rw[if_pos rfl]
    · have m0:0≤st * sizeD c:=Int.mul_nonneg hh.2.1.1 (by omega)
      have m1:st * sizeD c≤31 * sizeD c:=Int.mul_le_mul_of_nonneg_right hh.2.1.2 (by omega)
      have m2:0≤(l.length:Int) * sizeD c:=Int.mul_nonneg (by omega) (by omega)
      have m3:(l.length:Int) * sizeD c≤2000 * sizeD c:=Int.mul_le_mul_of_nonneg_right (by omega) (by omega)
      rw[if_pos hc0,mx_size hc0,wrap64_id (n:=st * sizeD c) (by omega) (by omega),wrap64_id (n:=(l.length:Int) * sizeD c) (by omega) (by omega)]
      by_cases h1:st * sizeD c≤31
      · rw[if_neg (by omega)]
        simp only[impl_GenDegen.j0]
        by_cases h2:(l.length:Int) * sizeD c≤2000
        · rw[decide_eq_false (show ¬ (l.length:Int) * sizeD c>2000 by omega),if_neg Bool.false_ne_true,impl_SetList_eq s k (by omega),Option.bind_some,if_pos ⟨h,h1,h2⟩,← hlo]
          have hll:=listOf_length s
          have:=impl_GenDegen_l0 (sizeD c) c st s n (st * sizeD c) n l h rfl h2 h1 (listOf s) (fun x hx=>by
            have hx2:=(mem_listOf hset x).1 hx
            exact ⟨(hasZ_range hx2).1,hbel x hx2⟩) hll (listOf s).length k 0 0 (by omega) ⟨by omega,by omega⟩ (by omega)
          exact this
        rw[decide_eq_true (show (l.length:Int) * sizeD c>2000 by omega),if_pos rfl,if_neg (fun h'=>h2 h'.2.2)]
      rw[if_pos (by omega),if_neg (fun h'=>h1 h'.2.1)]
      simp only[impl_GenDegen.j0]
      rw[if_pos trivial]
def Ev {α:Type} (f:Nat→Option α) (r:α):Prop:=∃ k0,∀ k,k0≤k→f k=some r
theorem Ev.step {α:Type} {f g:Nat→Option α} {r:α} (h:Ev g r) (e:∀ k,f (k+1)=g k):Ev f r:=by
  obtain ⟨k0,h⟩:=h
  refine ⟨k0+1,fun k hk=>?_⟩
  obtain ⟨j,rfl⟩:∃ j,k=j+1:=⟨k - 1,by omega⟩
  rw[e,h j (by omega)]
theorem Ev.same {α:Type} {f g:Nat→Option α} {r:α} (h:Ev g r) (e:∀ k,f k=g k):Ev f r:=by
  obtain ⟨k0,h⟩:=h
  exact ⟨k0,fun k hk=>by rw[e,h k hk]⟩
theorem Ev.call {α β:Type} {a:Nat→Option α} {x:α} {b:Nat→α→Option β} {r:β} (ha:Ev a x) (hb:Ev (fun k=>b k x) r):Ev (fun k=>(a k).bind (b k)) r:=by
  obtain ⟨k0,h0⟩:=ha
  obtain ⟨k1,h1⟩:=hb
  exact ⟨k0+k1,fun k hk=>by show (a k).bind (b k)=_;rw[h0 k (by omega),Option.bind_some];exact h1 k (by omega)⟩
theorem Ev.now {α:Type} (r:α):Ev (fun _=>some r) r:=⟨0,fun _ _=>rfl⟩
theorem Ev.from {α:Type} {f:Nat→Option α} {r:α} (n:Nat) (h:∀ k,n<k→f k=some r):Ev f r:=⟨n+1,fun k hk=>h k (by omega)⟩
theorem srt_unique {α:Type} {lt:α→α→Prop} (irr:∀ a,¬ lt a a) (tr:∀ a b c,lt a b→lt b c→lt a c):∀ (a b:List α),a.Pairwise lt→b.Pairwise lt→(∀ x,x∈a↔x∈b)→a=b
  | [],[],_,_,_=>rfl
  | [],y :: b,_,_,h=>absurd ((h y).2 List.mem_cons_self) (by simp)
  | x :: a,[],_,_,h=>absurd ((h x).1 List.mem_cons_self) (by simp)
  | x :: a,y :: b,ha,hb,h=>by
    rw[List.pairwise_cons]at ha hb
    have e:x=y:=by
      rcases List.mem_cons.1 ((h x).1 List.mem_cons_self) with e|e
      · exact e
      rcases List.mem_cons.1 ((h y).2 List.mem_cons_self) with f|f
      · exact f.symm
      exact absurd (tr _ _ _ (hb.1 x e) (ha.1 y f)) (irr y)
    subst e
    rw[srt_unique irr tr a b ha.2 hb.2 (fun z=>?_)]
    have hz:=h z
    rw[List.mem_cons,List.mem_cons]at hz
    constructor
    · intro m
      rcases hz.1 (.inr m) with e|e
      · subst e;exact absurd (ha.1 _ m) (irr _)
      exact e
    intro m
    rcases hz.2 (.inr m) with e|e
    · subst e;exact absurd (hb.1 _ m) (irr _)
    exact e
def cdP (n:Int) (p:S68):Int:=p.f0 * n+p.f1
theorem mix_div (a b n:Int) (h0:0≤b) (h1:b<n):(a * n+b) / n=a∧(a * n+b) % n=b:=by
  constructor
  · rw[Int.add_comm,Int.add_mul_ediv_right _ _ (by omega),Int.ediv_eq_zero_of_lt h0 h1,Int.zero_add]
  rw[Int.add_comm,Int.add_mul_emod_self_right,Int.emod_eq_of_lt h0 h1]
theorem mix_inj {n x y x' y':Int} (h0:0≤y) (h1:y<n) (h2:0≤y') (h3:y'<n) (h:x * n+y=x' * n+y'):x=x'∧y=y':=by
  have a:=mix_div x y n h0 h1
  have b:=mix_div x' y' n h2 h3
  rw[h]at a
  exact ⟨a.1.symm.trans b.1,a.2.symm.trans b.2⟩
theorem mix_range {st n x y:Int} (h0:0≤x) (h1:x<st) (h2:0≤y) (h3:y<n):0≤x * n∧x * n+n≤st * n:=by
  have a:=Int.mul_nonneg h0 (show (0:Int)≤n by omega)
  have b:=Int.mul_le_mul_of_nonneg_right (show x+1≤st by omega) (show (0:Int)≤n by omega)
  rw[Int.add_mul,Int.one_mul]at b
  exact ⟨a,b⟩
theorem area {st n:Int} (h0:0≤st) (h1:st≤31) (h2:0≤n) (h3:n≤31):0≤st * n∧st * n≤961:=by
  have a:=Int.mul_nonneg h0 h2
  have b:=Int.mul_le_mul_of_nonneg_right h1 h2
  omega
theorem has_iff (X:List S68) (x y:Int):mt.has X x y=true↔(⟨x,y⟩:S68)∈X:=by
  unfold mt.has
  rw[List.any_eq_true]
  constructor
  · rintro ⟨q,hq,h⟩
    rw[Bool.and_eq_true,decide_eq_true_iff,decide_eq_true_iff]at h
    obtain ⟨rfl,rfl⟩:=h
    exact hq
  intro h
  exact ⟨_,h,by simp⟩
structure Sim (st n:Int) (h:List Bool) (Q:List Int) (X:List S68):Prop where
  len:(h.length:Int)=st * n
  at_:∀ x y:Int,0≤x→x<st→0≤y→y<n→rdOf false h (x * n+y)=mt.has X x y
  q:Q=X.map (cdP n)
  inP:∀ p∈X,(0≤p.f0∧p.f0<st)∧0≤p.f1∧p.f1<n
  cnt:h.count true=X.length
  nod:X.Nodup
theorem rdB_set (h:List Bool) (i j:Int) (hi:0≤i) (hj:0≤j) (hl:i<h.length):rdOf false (h.set i.toNat true) j=(rdOf false h j || decide (i=j)):=by
  unfold rdOf
  rw[List.getD_eq_getElem?_getD,List.getD_eq_getElem?_getD,List.getElem?_set]
  by_cases e:i=j
  · subst e;rw[if_pos rfl,if_pos (by omega)];simp
  rw[if_neg (by omega)];simp[e]
theorem Sim.add {st n:Int} {h:List Bool} {Q:List Int} {X:List S68} (S:Sim st n h Q X) {x y:Int} (x0:0≤x) (x1:x<st) (y0:0≤y) (y1:y<n) :
    (rdOf false h (x * n+y)=true→mt.add X x y=X)∧(rdOf false h (x * n+y)≠true→Sim st n (h.set (x * n+y).toNat true) (Q ++ [x * n+y]) (mt.add X x y)):=by
  have e:=S.at_ x y x0 x1 y0 y1
  have hr:=mix_range x0 x1 y0 y1
  unfold mt.add
  constructor
  · intro ht
    rw[if_pos (e ▸ ht)]
  intro ht
  have hf:mt.has X x y≠true:=e ▸ ht
  rw[if_neg hf]
  have hl:=S.len
  refine ⟨by rw[List.length_set];exact hl,fun a b a0 a1 b0 b1=>?_,by rw[S.q,List.map_append];rfl,fun p hp=>?_,?_,?_⟩
  · have hr2:=mix_range a0 a1 b0 b1
    rw[rdB_set h _ _ (by omega) (by omega) (by omega),S.at_ a b a0 a1 b0 b1,mt.has_snoc]
    congr 1
    rw[← Bool.decide_and,decide_eq_decide]
    exact ⟨fun e=>mix_inj y0 y1 b0 b1 e,fun e=>by rw[e.1,e.2]⟩
  · rcases List.mem_append.1 hp with hp|hp
    · exact S.inP p hp
    rw[List.mem_singleton]at hp;subst hp;exact ⟨⟨x0,x1⟩,y0,y1⟩
  · have hb:h[(x * n+y).toNat]'(by omega)=false:=by
      have:rdOf false h (x * n+y)=h[(x * n+y).toNat]'(by omega):=by unfold rdOf;simp;rw[List.getElem?_eq_getElem (by omega)];rfl
      rw[this]at ht
      simpa using ht
    rw[List.count_set (by omega),List.length_append,List.length_singleton,← S.cnt,hb]
    simp
  rw[List.nodup_append]
  refine ⟨S.nod,by simp,fun a ha b hb=>?_⟩
  rw[List.mem_singleton]at hb
  rintro rfl
  subst hb
  exact hf ((has_iff X x y).2 ha)
theorem Sim.small {st n:Int} {h:List Bool} {Q:List Int} {X:List S68} (S:Sim st n h Q X):(X.length:Int)≤st * n∧Q.length=X.length:=by
  have a:=List.count_le_length (l:=h) (a:=true)
  have b:=S.cnt
  have c:=S.len
  exact ⟨by omega,by rw[S.q,List.length_map]⟩
structure Cx (st n s s':Int) (l l':List S58):Prop where
  st_:0≤st∧st≤31
  n_:0≤n∧n≤31
  e0:∀ e∈l,(0≤e.f0∧e.f0<st)∧0≤e.f2∧e.f2<st
  e1:∀ e∈l',(0≤e.f0∧e.f0<n)∧0≤e.f2∧e.f2<n
  s0:SetZ s∧∀ i,hasZ s i=true→i<st
  s1:SetZ s'∧∀ i,hasZ s' i=true→i<n
  ln:l.length≤2000∧l'.length≤2000
theorem one_skip {p:S68} {e:S58} (h:¬ e.f0=p.f0):∀ (l:List S58) (X:List S68),l.foldl (fun L f=>mt.one p e f L) X=X
  | [],_=>rfl
  | f :: l,X=>by
    rw[List.foldl_cons,show mt.one p e f X=X from if_neg (fun hh=>h hh.1)]
    exact one_skip h l X
theorem dropG {l:List S58} {m:Nat} (h:m<l.length):l.drop m=l[m] :: l.drop (m+1):=List.drop_eq_getElem_cons h
theorem cd_parts {n:Int} {p:S68} (h0:0≤p.f0) (h1:p.f0≤31) (h2:0≤p.f1) (h3:p.f1<n) (h4:n≤31):wrap64 (Int.tdiv (cdP n p) n)=p.f0∧Int.tmod (cdP n p) n=p.f1:=by
  have a:=Int.mul_nonneg h0 (show (0:Int)≤n by omega)
  have b:=mix_div p.f0 p.f1 n h2 h3
  unfold cdP
  rw[Int.tdiv_eq_ediv_of_nonneg (by omega),Int.tmod_eq_emod_of_nonneg (by omega),b.1,b.2]
  exact ⟨wrap64_id (by omega) (by omega),rfl⟩
section
variable {a0 st s c b0 n s' c':Int} {l l':List S58} {r:List Int × Int}
theorem l5P_l4 (C:Cx st n s s' l l') {q i:Nat} {p:S68} {e:S58} (hp:(0≤p.f0∧p.f0<st)∧0≤p.f1∧p.f1<n) (he:0≤e.f2∧e.f2<st) (hi:i<2000) (d:Nat) :
    ∀ (m:Nat) (h:List Bool) (Q:List Int) (X:List S68),Sim st n h Q X→X[q]?=some p→m+d=l'.length→
    (∀ h' Q',Sim st n h' Q' ((l'.drop m).foldl (fun L f=>mt.one p e f L) X)→((l'.drop m).foldl (fun L f=>mt.one p e f L) X)[q]?=some p→Ev (fun k=>spec_l5Pairs.l3 k n h' Q' q ((i+1:Nat):Int) a0 st s c l b0 n s' c' l') r)→
    Ev (fun k=>spec_l5Pairs.l4 k n h Q q i m a0 st s c l b0 n s' c' l' e.f0 e.f1 e.f2 e.f3) r:=by
  have hn:=C.n_
  have hst:=C.st_
  have hln:=C.ln
  have har:=area hst.1 hst.2 hn.1 hn.2
  induction d with
  | zero=>
    intro m h Q X S hq hm hc
    rw[List.drop_of_length_le (by omega)]at hc
    refine Ev.step (Ev.step (hc h Q S hq) (f:=fun k=>spec_l5Pairs.j5 k n h Q q i m false a0 st s c l b0 n s' c' l' e.f0 e.f1 e.f2 e.f3) (fun k=>?_)) (fun k=>?_)
    · simp only[spec_l5Pairs.j5]
      rw[if_neg (by simp),wrap64_succ (by omega)]
    simp only[spec_l5Pairs.l4]
    rw[if_neg (by omega)]
  | succ d ih=>
    intro m h Q X S hq hm hc
    have hml:m<l'.length:=by omega
    have hlt:q<X.length:=(List.getElem?_eq_some_iff.1 hq).1
    have hsm:=S.small
    have hrd:rd Q q=cdP n p:=by rw[S.q];unfold rd;simp[hq]
    have hcd:=cd_parts hp.1.1 (by omega) hp.2.1 hp.2.2 hn.2
    rw[← hrd]at hcd
    have hf:=C.e1 l'[m] (List.getElem_mem hml)
    rw[dropG hml,List.foldl_cons]at hc
    refine Ev.step (g:=fun k=>spec_l5Pairs.j5 k n h Q q i m (e.f0 == p.f0) a0 st s c l b0 n s' c' l' e.f0 e.f1 e.f2 e.f3) ?_ (fun k=>by
      simp only[spec_l5Pairs.l4]
      rw[if_pos (by omega),if_pos (by omega),if_pos (by omega),if_neg (by omega),hcd.1])
    by_cases h0:e.f0=p.f0
    · have next:∀ h' Q' X',Sim st n h' Q' X'→X'[q]?=some p→X'=mt.one p e l'[m] X→Ev (fun k=>spec_l5Pairs.l4 k n h' Q' q i ((m+1:Nat):Int) a0 st s c l b0 n s' c' l' e.f0 e.f1 e.f2 e.f3) r:=by
        intro h' Q' X' S' hq' ex
        subst ex
        exact ih (m+1) h' Q' _ S' hq' (by omega) hc
      have b0:(e.f0 == p.f0)=true:=by simp[h0]
      rw[b0]
      have hx:=rdG_at hml
      by_cases hl:e.f1=l'[m].f1
      · by_cases hz:l'[m].f0=p.f1
        · have hone:mt.one p e l'[m] X=mt.add X e.f2 l'[m].f2:=if_pos ⟨h0,hz,hl⟩
          obtain ⟨ha,hb⟩:=S.add he.1 he.2 hf.2.1 hf.2.2
          have hr:=mix_range he.1 he.2 hf.2.1 hf.2.2
          have w1:wrap64 (wrap64 (e.f2 * n)+l'[m].f2)=e.f2 * n+l'[m].f2:=by
            rw[wrap64_id (n:=e.f2 * n) (by omega) (by omega),wrap64_id (by omega) (by omega)]
          have hlen:=S.len
          by_cases ht:rdOf false h (e.f2 * n+l'[m].f2)=true
          · refine Ev.step (next h Q X S hq (by rw[hone,ha ht])) (fun k=>?_)
            simp only[spec_l5Pairs.j5]
            rw[if_pos trivial,if_pos (by omega),if_pos (by omega),hx,if_pos hl,if_pos (by omega),if_pos (by omega),if_neg (by omega),hcd.2,if_pos hz,w1,if_pos (by omega),if_pos (by omega),if_pos ht,wrap64_succ (by omega)]
          have S2:=hb ht
          have hq2:(mt.add X e.f2 l'[m].f2)[q]?=some p:=by
            unfold mt.add
            split
            · exact hq
            rw[List.getElem?_append_left hlt];exact hq
          refine Ev.step (next _ _ _ S2 hq2 hone.symm) (fun k=>?_)
          simp only[spec_l5Pairs.j5]
          rw[if_pos trivial,if_pos (by omega),if_pos (by omega),hx,if_pos hl,if_pos (by omega),if_pos (by omega),if_neg (by omega),hcd.2,if_pos hz,w1,if_pos (by omega),if_pos (by omega),if_neg ht,if_pos (by omega),wrap64_succ (by omega)]
        refine Ev.step (next h Q X S hq (if_neg (fun hh=>hz hh.2.1)).symm) (fun k=>?_)
        simp only[spec_l5Pairs.j5]
        rw[if_pos trivial,if_pos (by omega),if_pos (by omega),hx,if_pos hl,if_pos (by omega),if_pos (by omega),if_neg (by omega),hcd.2,if_neg hz,wrap64_succ (by omega)]
      refine Ev.step (next h Q X S hq (if_neg (fun hh=>hl hh.2.2)).symm) (fun k=>?_)
      simp only[spec_l5Pairs.j5]
      rw[if_pos trivial,if_pos (by omega),if_pos (by omega),hx,if_neg hl,wrap64_succ (by omega)]
    have b0:(e.f0 == p.f0)=false:=by simp[h0]
    rw[b0]
    rw[show mt.one p e l'[m] X=X from if_neg (fun hh=>h0 hh.1),one_skip h0]at hc
    refine Ev.step (hc h Q S hq) (fun k=>?_)
    simp only[spec_l5Pairs.j5]
    rw[if_neg (by simp),wrap64_succ (by omega)]
theorem l5P_l3 (C:Cx st n s s' l l') {q:Nat} {p:S68} (hp:(0≤p.f0∧p.f0<st)∧0≤p.f1∧p.f1<n) (d:Nat) :
    ∀ (i:Nat) (h:List Bool) (Q:List Int) (X:List S68),Sim st n h Q X→X[q]?=some p→i+d=l.length→
    (∀ h' Q',Sim st n h' Q' ((l.drop i).foldl (mt.row1 l' p) X)→Ev (fun k=>spec_l5Pairs.l2 k n h' Q' ((q+1:Nat):Int) a0 st s c l b0 n s' c' l') r)→
    Ev (fun k=>spec_l5Pairs.l3 k n h Q q i a0 st s c l b0 n s' c' l') r:=by
  have hst:=C.st_
  have hn:=C.n_
  have har:=area hst.1 hst.2 hn.1 hn.2
  have hln:=C.ln
  induction d with
  | zero=>
    intro i h Q X S hq hm hc
    rw[List.drop_of_length_le (by omega)]at hc
    have hlt:q<X.length:=(List.getElem?_eq_some_iff.1 hq).1
    have hsm:=S.small
    refine Ev.step (hc h Q S) (fun k=>?_)
    simp only[spec_l5Pairs.l3]
    rw[if_neg (by omega),wrap64_succ (by omega)]
  | succ d ih=>
    intro i h Q X S hq hm hc
    have hil:i<l.length:=by omega
    rw[dropG hil,List.foldl_cons]at hc
    have he:=C.e0 l[i] (List.getElem_mem hil)
    have:=l5P_l4 (a0:=a0) (b0:=b0) (c:=c) (c':=c') (r:=r) C hp he.2 (by omega:i<2000) l'.length 0 h Q X S hq (by omega) (fun h' Q' S' hq'=>ih (i+1) h' Q' _ S' hq' (by omega) hc)
    refine Ev.step this (fun k=>?_)
    simp only[spec_l5Pairs.l3]
    rw[if_pos (by omega),if_pos (by omega),rdG_at hil]
    rfl
def goF (l l':List S58):Nat→Nat→List S68→List S68
  | 0,_,X=>X
  | k+1,q,X=>if q<X.length then goF l l' k (q+1) (mt.step l l' (X.getD q z68) X) else X
theorem l5P_l2 (C:Cx st n s s' l l') (d:Nat):∀ (q:Nat) (h:List Bool) (Q:List Int) (X:List S68),Sim st n h Q X→st * n≤q+d→
    (∀ h' Q',Sim st n h' Q' (goF l l' d q X)→Ev (fun k=>spec_l5Pairs.l5 k h' [] 0 0) r)→
    Ev (fun k=>spec_l5Pairs.l2 k n h Q q a0 st s c l b0 n s' c' l') r:=by
  have stop:∀ (q:Nat) (h:List Bool) (Q:List Int) (X:List S68),Sim st n h Q X→¬ q<X.length→Ev (fun k=>spec_l5Pairs.l5 k h [] 0 0) r→Ev (fun k=>spec_l5Pairs.l2 k n h Q q a0 st s c l b0 n s' c' l') r:=by
    intro q h Q X S hq hc
    have hsm:=S.small
    refine Ev.step hc (fun k=>?_)
    simp only[spec_l5Pairs.l2]
    rw[if_neg (by omega)]
  induction d with
  | zero=>
    intro q h Q X S hd hc
    have hsm:=S.small
    exact stop q h Q X S (by omega) (hc h Q S)
  | succ d ih=>
    intro q h Q X S hd hc
    have hsm:=S.small
    unfold goF at hc
    by_cases hq:q<X.length
    · rw[if_pos hq]at hc
      have hg:X[q]?=some (X.getD q z68):=by rw[List.getD_eq_getElem?_getD,List.getElem?_eq_getElem hq];rfl
      have hp:=S.inP _ (List.mem_of_getElem? hg)
      have:=l5P_l3 (a0:=a0) (b0:=b0) (c:=c) (c':=c') (r:=r) C hp l.length 0 h Q X S hg (by omega) (fun h' Q' S'=>ih (q+1) h' Q' _ S' (by omega) hc)
      refine Ev.step this (fun k=>?_)
      simp only[spec_l5Pairs.l2]
      rw[if_pos (by omega)]
      rfl
    rw[if_neg hq]at hc
    exact stop q h Q X S hq (hc h Q S)
end
theorem listFrom_asc (s:Int) (d:Nat):∀ j:Nat,(listFrom s j d).Pairwise (fun a b=>a<b):=by
  induction d with
  | zero=>intro j;exact List.Pairwise.nil
  | succ d ih=>
    intro j
    unfold listFrom
    split
    · rw[List.pairwise_cons]
      refine ⟨fun a ha=>?_,ih (j+1)⟩
      have:=((mem_listFrom d (j+1) a).1 ha).2.1
      omega
    exact ih (j+1)
theorem mix_lt {n x y x' y':Int} (h1:y<n) (h2:0≤y') (h3:y'<n) (h:x<x'):x * n+y<x' * n+y':=by
  have:=Int.mul_le_mul_of_nonneg_right (show x+1≤x' by omega) (show (0:Int)≤n by omega)
  rw[Int.add_mul,Int.one_mul]at this
  omega
def tr (h:List Bool):Nat→Nat→List Int
  | _,0=>[]
  | i,d+1=>if rdOf false h (i:Int)=true then (i:Int) :: tr h (i+1) d else tr h (i+1) d
theorem mem_tr (h:List Bool) (x:Int) (d:Nat):∀ i,x∈tr h i d↔rdOf false h x=true∧(i:Int)≤x∧x<(i:Int)+d:=by
  induction d with
  | zero=>
    intro i
    unfold tr
    refine ⟨fun h=>absurd h List.not_mem_nil,fun h=>?_⟩
    omega
  | succ d ih=>
    intro i
    unfold tr
    split
    · rename_i hb
      rw[List.mem_cons,ih]
      constructor
      · rintro (rfl|⟨a,b⟩)
        · exact ⟨hb,by omega⟩
        exact ⟨a,by omega⟩
      rintro ⟨a,b⟩
      by_cases e:x=(i:Int)
      · exact .inl e
      exact .inr ⟨a,by omega⟩
    rename_i hb
    rw[ih]
    constructor
    · rintro ⟨a,b⟩;exact ⟨a,by omega⟩
    rintro ⟨a,b⟩
    refine ⟨a,?_⟩
    by_cases e:x=(i:Int)
    · subst e;exact absurd a hb
    omega
theorem tr_asc (h:List Bool) (d:Nat):∀ i,(tr h i d).Pairwise (fun a b=>a<b):=by
  induction d with
  | zero=>intro i;exact List.Pairwise.nil
  | succ d ih=>
    intro i
    unfold tr
    split
    · rw[List.pairwise_cons]
      refine ⟨fun a ha=>?_,ih (i+1)⟩
      have:=((mem_tr h a d (i+1)).1 ha).2.1
      omega
    exact ih (i+1)
theorem rdB_at {h:List Bool} {i:Nat} (hi:i<h.length):rdOf false h (i:Int)=h[i]:=by
  unfold rdOf;simp[hi]
theorem tr_count (h:List Bool) (d:Nat):∀ i,i+d=h.length→(tr h i d).length=(h.drop i).count true:=by
  induction d with
  | zero=>intro i hi;rw[List.drop_of_length_le (by omega)];rfl
  | succ d ih=>
    intro i hi
    unfold tr
    rw[List.drop_eq_getElem_cons (show i<h.length by omega),List.count_cons,rdB_at (by omega),← ih (i+1) (by omega)]
    cases h[i] <;> simp
theorem tr_eq {st n:Int} {h:List Bool} {X:List S68} (len:(h.length:Int)=st * n) (at_:∀ x y:Int,0≤x→x<st→0≤y→y<n→rdOf false h (x * n+y)=mt.has X x y)
    (inP:∀ p∈X,(0≤p.f0∧p.f0<st)∧0≤p.f1∧p.f1<n) (h0:0≤n) (hX:X.Pairwise (fun a b=>cdP n a<cdP n b)):X.map (cdP n)=tr h 0 h.length:=by
  refine srt_unique (lt:=fun a b:Int=>a<b) (fun a=>by omega) (fun a b c=>by omega) _ _ (List.pairwise_map.2 hX) (tr_asc h _ 0) (fun x=>?_)
  rw[mem_tr,List.mem_map]
  constructor
  · rintro ⟨p,hp,rfl⟩
    obtain ⟨⟨a,b⟩,c,d⟩:=inP p hp
    have hr:=mix_range a b c d
    refine ⟨(at_ p.f0 p.f1 a b c d).trans ((has_iff X _ _).2 hp),?_⟩
    unfold cdP
    omega
  rintro ⟨a,b,c⟩
  have hn:0<n:=by
    by_cases e:n=0
    · subst e;omega
    omega
  have y0:=Int.emod_nonneg x (show n≠0 by omega)
  have y1:=Int.emod_lt_of_pos x hn
  have x0:0≤x / n:=Int.ediv_nonneg (by omega) (by omega)
  have x1:x / n<st:=Int.ediv_lt_of_lt_mul hn (by omega)
  have e:x / n * n+x % n=x:=by rw[Int.mul_comm];exact Int.mul_ediv_add_emod x n
  have:=at_ _ _ x0 x1 y0 y1
  rw[e,a]at this
  exact ⟨_,(has_iff X _ _).1 this.symm,e⟩
theorem Sim.sorted {st n:Int} {h:List Bool} {X:List S68} (len:(h.length:Int)=st * n) (at_:∀ x y:Int,0≤x→x<st→0≤y→y<n→rdOf false h (x * n+y)=mt.has X x y)
    (inP:∀ p∈X,(0≤p.f0∧p.f0<st)∧0≤p.f1∧p.f1<n) (h0:0≤n) (hX:X.Pairwise (fun a b=>cdP n a<cdP n b)):Sim st n h (tr h 0 h.length) X:=by
  have e:=tr_eq len at_ inP h0 hX
  refine ⟨len,at_,e.symm,inP,?_,hX.imp (fun {a b} hab=>?_)⟩
  · have:=tr_count h h.length 0 (by omega)
    rw[List.drop_zero]at this
    rw[← this,← e,List.length_map]
  rintro rfl;omega
section
variable {n st s s':Int}
def tab0 (n s s':Int) (N:Nat):List Bool:=(List.range N).map fun i:Nat=>hasZ s ((i:Int) / n) && hasZ s' ((i:Int) % n)
theorem tab0_len (n s s':Int) (N:Nat):(tab0 n s s' N).length=N:=by unfold tab0;simp
theorem tab0_at (n s s':Int) {N i:Nat} (h:i<N):(tab0 n s s' N)[i]'(by rw[tab0_len];exact h)=(hasZ s ((i:Int) / n) && hasZ s' ((i:Int) % n)):=by unfold tab0;simp
def starts0 (la lb:List Int):List S68:=la.flatMap fun x=>lb.map fun y=>⟨x,y⟩
theorem starts_in (x:Int):∀ (lb:List Int) (L:List S68),lb.Nodup→(∀ y∈lb,(⟨x,y⟩:S68)∉L)→lb.foldl (fun L t=>mt.add L x t) L=L ++ lb.map fun y=>⟨x,y⟩
  | [],L,_,_=>by simp
  | y :: lb,L,hn,h=>by
    rw[List.nodup_cons]at hn
    have e:mt.add L x y=L ++ [⟨x,y⟩]:=by
      unfold mt.add
      rw[if_neg (fun hh=>h y List.mem_cons_self ((has_iff L x y).1 hh))]
    rw[List.foldl_cons,e,starts_in x lb _ hn.2 (fun z hz hm=>?_),List.append_assoc]
    · rfl
    rcases List.mem_append.1 hm with hm|hm
    · exact h z (List.mem_cons_of_mem _ hz) hm
    rw[List.mem_singleton]at hm
    injection hm with _ hm
    subst hm
    exact hn.1 hz
theorem starts_out (lb:List Int) (hb:lb.Nodup):∀ (la:List Int) (L:List S68),la.Nodup→(∀ x∈la,∀ y,(⟨x,y⟩:S68)∉L)→la.foldl (fun L x=>lb.foldl (fun L t=>mt.add L x t) L) L=L ++ starts0 la lb
  | [],L,_,_=>by simp[starts0]
  | x :: la,L,hn,h=>by
    rw[List.nodup_cons]at hn
    rw[List.foldl_cons,starts_in x lb L hb (fun y _=>h x List.mem_cons_self y),starts_out lb hb la _ hn.2 (fun z hz y hm=>?_),List.append_assoc]
    · unfold starts0;rw[List.flatMap_cons]
    rcases List.mem_append.1 hm with hm|hm
    · exact h z (List.mem_cons_of_mem _ hz) y hm
    obtain ⟨w,_,e⟩:=List.mem_map.1 hm
    injection e with e _
    subst e
    exact hn.1 hz
theorem starts_eq (la lb:List Int) (ha:la.Pairwise (fun a b=>a<b)) (hb:lb.Pairwise (fun a b=>a<b)):mt.starts la lb=starts0 la lb:=by
  have:=starts_out lb (hb.imp (fun {a b} h e=>by omega)) la [] (ha.imp (fun {a b} h e=>by omega)) (fun _ _ _=>List.not_mem_nil)
  rw[List.nil_append]at this
  exact this
theorem listOf_asc {s:Int}:(listOf s).Pairwise (fun a b=>a<b):=by
  unfold listOf
  split
  · exact listFrom_asc s 31 0
  exact List.Pairwise.nil
theorem starts_sim (hs:SetZ s∧∀ i,hasZ s i=true→i<st) (hs':SetZ s'∧∀ i,hasZ s' i=true→i<n) (hn:0≤n) {N:Nat} (hN:(N:Int)=st * n) :
    Sim st n (tab0 n s s' N) (tr (tab0 n s s' N) 0 N) (mt.starts (listOf s) (listOf s')):=by
  rw[starts_eq _ _ listOf_asc listOf_asc]
  have hm:∀ x y:Int,(⟨x,y⟩:S68)∈starts0 (listOf s) (listOf s')↔hasZ s x=true∧hasZ s' y=true:=by
    intro x y
    unfold starts0
    rw[List.mem_flatMap]
    constructor
    · rintro ⟨a,ha,h⟩
      obtain ⟨b,hb,e⟩:=List.mem_map.1 h
      injection e with e1 e2
      subst e1;subst e2
      exact ⟨(mem_listOf hs.1 _).1 ha,(mem_listOf hs'.1 _).1 hb⟩
    rintro ⟨a,b⟩
    exact ⟨x,(mem_listOf hs.1 _).2 a,List.mem_map.2 ⟨y,(mem_listOf hs'.1 _).2 b,rfl⟩⟩
  have hl:=tab0_len n s s' N
  have:=Sim.sorted (st:=st) (n:=n) (h:=tab0 n s s' N) (X:=starts0 (listOf s) (listOf s')) (by rw[hl];exact hN) (fun x y x0 x1 y0 y1=>?_) (fun p hp=>?_) hn ?_
  · rw[hl]at this;exact this
  · have hr:=mix_range x0 x1 y0 y1
    have hd:=mix_div x y n y0 y1
    obtain ⟨j,hj⟩:∃ j:Nat,x * n+y=(j:Int):=⟨(x * n+y).toNat,by omega⟩
    rw[hj]at hd ⊢
    rw[rdB_at (by rw[hl];omega),tab0_at n s s' (by omega),hd.1,hd.2]
    rw[Bool.eq_iff_iff,Bool.and_eq_true,has_iff,hm]
  · obtain ⟨x,y⟩:=p
    have h:=(hm x y).1 hp
    exact ⟨⟨(hasZ_range h.1).1,hs.2 x h.1⟩,(hasZ_range h.2).1,hs'.2 y h.2⟩
  unfold starts0
  rw[List.pairwise_flatMap]
  refine ⟨fun x _=>List.pairwise_map.2 (listOf_asc.imp (fun {a b} h=>by show x * n+a<x * n+b;omega)),listOf_asc.imp (fun {a b} h p hp q hq=>?_)⟩
  obtain ⟨y,hy,rfl⟩:=List.mem_map.1 hp
  obtain ⟨z,hz,rfl⟩:=List.mem_map.1 hq
  have e1:=(mem_listOf hs'.1 _).1 hy
  have e2:=(mem_listOf hs'.1 _).1 hz
  exact mix_lt (hs'.2 y e1) (hasZ_range e2).1 (hs'.2 z e2) h
end
theorem Sim.uniq {st n:Int} {h h2:List Bool} {Q Q2:List Int} {X:List S68} (S:Sim st n h Q X) (S2:Sim st n h2 Q2 X) (n0:0≤n):h=h2:=by
  have l1:=S.len
  have l2:=S2.len
  by_cases hn:0<n
  · refine List.ext_getElem (by omega) (fun i a b=>?_)
    have e:(i:Int) / n * n+(i:Int) % n=i:=by rw[Int.mul_comm];exact Int.mul_ediv_add_emod _ n
    have y0:=Int.emod_nonneg (i:Int) (show n≠0 by omega)
    have y1:=Int.emod_lt_of_pos (i:Int) hn
    have x0:0≤(i:Int) / n:=Int.ediv_nonneg (by omega) (by omega)
    have x1:(i:Int) / n<st:=Int.ediv_lt_of_lt_mul hn (by omega)
    have:=(S.at_ _ _ x0 x1 y0 y1).trans (S2.at_ _ _ x0 x1 y0 y1).symm
    rw[e,rdB_at a,rdB_at b]at this
    exact this
  have e:n=0:=by omega
  subst e
  have z:h.length=0:=by omega
  rw[List.length_eq_zero_iff.1 z,List.length_eq_zero_iff.1 (show h2.length=0 by omega)]
theorem step_sim {st n s s':Int} {l l':List S58} (C:Cx st n s s' l l') (p:S68) (X:List S68) (hX:∃ h Q,Sim st n h Q X):∃ h Q,Sim st n h Q (mt.step l l' p X):=by
  have fold:∀ {α:Type} (F:List S68→α→List S68) (m:List α),(∀ a∈m,∀ X,(∃ h Q,Sim st n h Q X)→∃ h Q,Sim st n h Q (F X a))→∀ X,(∃ h Q,Sim st n h Q X)→∃ h Q,Sim st n h Q (m.foldl F X):=by
    intro α F m
    induction m with
    | nil=>intro _ X h;exact h
    | cons a m ih=>intro hF X h;exact ih (fun b hb=>hF b (List.mem_cons_of_mem _ hb)) _ (hF a List.mem_cons_self X h)
  refine fold _ l (fun e he X hX=>fold _ l' (fun f hf X hX=>?_) X hX) X hX
  obtain ⟨h,Q,S⟩:=hX
  unfold mt.one
  split
  · have a:=C.e0 e he
    have b:=C.e1 f hf
    obtain ⟨s1,s2⟩:=S.add a.2.1 a.2.2 b.2.1 b.2.2
    by_cases e1:rdOf false h (e.f2 * n+f.f2)=true
    · rw[s1 e1];exact ⟨h,Q,S⟩
    exact ⟨_,_,s2 e1⟩
  exact ⟨h,Q,S⟩
theorem goF_sim {st n s s':Int} {l l':List S58} (C:Cx st n s s' l l'):∀ (d q:Nat) (X:List S68),(∃ h Q,Sim st n h Q X)→∃ h Q,Sim st n h Q (goF l l' d q X)
  | 0,_,_,h=>h
  | d+1,q,X,h=>by
    unfold goF
    split
    · exact goF_sim C d _ _ (step_sim C _ X h)
    exact h
section
variable {a0 st s c b0 n s' c':Int} {l l':List S58} {r:List Int × Int}
theorem l5P_l1 (h:List Bool) (hN:h.length≤961) (d:Nat):∀ (i:Nat) (acc:List Int),i+d=h.length→acc.length≤i→
    Ev (fun k=>spec_l5Pairs.l2 k n h (acc ++ tr h i d) 0 a0 st s c l b0 n s' c' l') r→Ev (fun k=>spec_l5Pairs.l1 k n h acc (i:Int) a0 st s c l b0 n s' c' l') r:=by
  induction d with
  | zero=>
    intro i acc hi ha hc
    refine Ev.step hc (fun k=>?_)
    simp only[spec_l5Pairs.l1,tr,List.append_nil]
    rw[if_neg (by omega)]
  | succ d ih=>
    intro i acc hi ha hc
    unfold tr at hc
    by_cases hb:rdOf false h (i:Int)=true
    · rw[if_pos hb]at hc
      refine Ev.step (ih (i+1) (acc ++ [(i:Int)]) (by omega) (by rw[List.length_append,List.length_singleton];omega) (by rw[List.append_assoc];exact hc)) (fun k=>?_)
      simp only[spec_l5Pairs.l1]
      rw[if_pos (by omega),if_pos (by omega),if_pos hb,if_pos (by omega),wrap64_succ (by omega)]
    rw[if_neg hb]at hc
    refine Ev.step (ih (i+1) acc (by omega) (by omega) hc) (fun k=>?_)
    simp only[spec_l5Pairs.l1]
    rw[if_pos (by omega),if_pos (by omega),if_neg hb,wrap64_succ (by omega)]
theorem l5P_l0 (hs:SetZ s) (hs':SetZ s') (hn:n≤31) (N:Nat) (hN:(N:Int)=st * n) (hN1:N≤961) (hn0:0≤n) (d:Nat):∀ (i:Nat) (rest:List Bool),i+d=N→rest.length=d→
    Ev (fun k=>spec_l5Pairs.l1 k n (tab0 n s s' N) [] 0 a0 st s c l b0 n s' c' l') r→Ev (fun k=>spec_l5Pairs.l0 k n ((tab0 n s s' N).take i ++ rest) (i:Int) a0 st s c l b0 n s' c' l') r:=by
  have hl:=tab0_len n s s' N
  induction d with
  | zero=>
    intro i rest hi hr hc
    obtain rfl:=List.length_eq_zero_iff.1 hr
    rw[List.append_nil,List.take_of_length_le (by omega)]
    refine Ev.step hc (fun k=>?_)
    simp only[spec_l5Pairs.l0]
    rw[if_neg (by omega)]
  | succ d ih=>
    intro i rest hi hr hc
    have hne:¬ n=0:=by rintro rfl;omega
    have hlen:((tab0 n s s' N).take i ++ rest).length=N:=by rw[List.length_append,List.length_take];omega
    have hat:=tab0_at n s s' (N:=N) (i:=i) (by omega)
    have hset:=take_set_drop (l:=tab0 n s s' N) (rest:=rest) (i:=i) (by omega) (by omega)
    rw[hat]at hset
    have hq:wrap64 (Int.tdiv (i:Int) n)=(i:Int) / n:=by
      rw[Int.tdiv_eq_ediv_of_nonneg (by omega)]
      have a:=Int.ediv_nonneg (show (0:Int)≤i by omega) hn0
      have b:=Int.ediv_le_self n (show (0:Int)≤i by omega)
      exact wrap64_id (by omega) (by omega)
    have hm:Int.tmod (i:Int) n=(i:Int) % n:=Int.tmod_eq_emod_of_nonneg (by omega)
    refine Ev.step (ih (i+1) rest.tail (by omega) (by rw[List.length_tail];omega) hc) (fun k=>?_)
    simp only[spec_l5Pairs.l0]
    rw[if_pos (by omega),if_neg hne,hq,hm,spec_l1Has_eq s _ hs.1 (by have:=hs.2;omega),spec_l1Has_eq s' _ hs'.1 (by have:=hs'.2;omega),Option.bind_some,Option.bind_some]
    rw[← hset,← wrap64_succ (i:=i) (by omega)]
    by_cases e:hasZ s ((i:Int) / n)=true
    · rw[if_pos e,if_pos (by omega),e,Bool.true_and];rfl
    rw[if_neg e,if_pos (by omega),Bool.eq_false_iff.2 e,Bool.false_and];rfl
def nb (h:List Bool):Nat→Nat→Int→List Int
  | _,0,_=>[]
  | i,d+1,m=>if rdOf false h (i:Int)=true then m :: nb h (i+1) d (m+1) else -1 :: nb h (i+1) d m
theorem l5P_l5 (h:List Bool) (hN:h.length≤961) (d:Nat):∀ (i:Nat) (acc:List Int) (m:Nat),i+d=h.length→acc.length≤i→m≤i→
    Ev (fun k=>spec_l5Pairs.l5 k h acc (m:Int) (i:Int)) (acc ++ nb h i d m,((m+(tr h i d).length:Nat):Int)):=by
  induction d with
  | zero=>
    intro i acc m hi ha hm
    refine Ev.step (Ev.now _) (fun k=>?_)
    simp only[spec_l5Pairs.l5,nb,tr,List.append_nil,List.length_nil,Nat.add_zero]
    rw[if_neg (by omega)]
  | succ d ih=>
    intro i acc m hi ha hm
    unfold nb tr
    by_cases hb:rdOf false h (i:Int)=true
    · rw[if_pos hb,if_pos hb]
      have:=ih (i+1) (acc ++ [(m:Int)]) (m+1) (by omega) (by rw[List.length_append,List.length_singleton];omega) (by omega)
      rw[List.append_assoc,List.singleton_append,show ((m+1:Nat):Int)=(m:Int)+1 by omega]at this
      rw[List.length_cons,show m+((tr h (i+1) d).length+1)=m+1+(tr h (i+1) d).length by omega]
      refine Ev.step this (fun k=>?_)
      simp only[spec_l5Pairs.l5]
      rw[if_pos (by omega),if_pos (by omega),if_pos hb,if_pos (by omega),wrap64_succ (by omega),wrap64_succ (by omega)]
      rfl
    rw[if_neg hb,if_neg hb]
    have:=ih (i+1) (acc ++ [-1]) m (by omega) (by rw[List.length_append,List.length_singleton];omega) (by omega)
    rw[List.append_assoc,List.singleton_append]at this
    refine Ev.step this (fun k=>?_)
    simp only[spec_l5Pairs.l5]
    rw[if_pos (by omega),if_pos (by omega),if_neg hb,if_pos (by omega),wrap64_succ (by omega)]
theorem l5P_eq (C:Cx st n s s' l l'):∃ h:List Bool,∃ Q:List Int,Sim st n h Q (goF l l' 961 0 (mt.starts (listOf s) (listOf s')))∧
    Ev (fun k=>spec_l5Pairs.f k a0 st s c l b0 n s' c' l') (nb h 0 h.length 0,((goF l l' 961 0 (mt.starts (listOf s) (listOf s'))).length:Int)):=by
  have hst:=C.st_
  have hn:=C.n_
  have har:=area hst.1 hst.2 hn.1 hn.2
  obtain ⟨N,hN⟩:∃ N:Nat,(N:Int)=st * n:=⟨(st * n).toNat,by omega⟩
  have S0:=starts_sim C.s0 C.s1 hn.1 hN
  obtain ⟨h,Q,S⟩:=goF_sim C 961 0 _ ⟨_,_,S0⟩
  refine ⟨h,Q,S,?_⟩
  have hl:=tab0_len n s s' N
  have hsm:=S.small
  have h1:=l5P_l0 (st:=st) (a0:=a0) (b0:=b0) (c:=c) (c':=c') (l:=l) (l':=l') C.s0.1 C.s1.1 hn.2 N hN (by omega) hn.1 N 0 (List.replicate N false) (by omega) (List.length_replicate)
    (l5P_l1 (tab0 n s s' N) (by omega) N 0 [] (by omega) (Nat.le_refl _) (l5P_l2 C 961 0 _ _ _ S0 (by omega) (fun h' Q' S'=>by
      obtain rfl:=S'.uniq S hn.1
      have hl:=S.len
      have:=l5P_l5 h' (by omega) h'.length 0 [] 0 (by omega) (Nat.le_refl _) (Nat.le_refl _)
      have hc:=tr_count h' h'.length 0 (by omega)
      rw[List.drop_zero,S.cnt]at hc
      rw[hc,Nat.zero_add,List.nil_append]at this
      exact this)))
  rw[List.take_zero,List.nil_append]at h1
  refine Ev.same h1 (fun k=>?_)
  unfold spec_l5Pairs.f
  rw[← hN,wrap64_id (by omega) (by omega),if_pos (by omega),Int.toNat_natCast,if_pos (by omega)]
  rfl
end
theorem pdq_list {α:Type} [Inhabited α] (lt:α→α→Bool) (swo:Sort.SWO lt) (l:List α):(Sort.pdq lt l.toArray 0 l.toArray.size (Lib.bitLen l.toArray.size) true true).toList.Perm l∧(Sort.pdq lt l.toArray 0 l.toArray.size (Lib.bitLen l.toArray.size) true true).toList.Pairwise (fun x y=>lt y x=false):=by
  have h:=Sort.pdq_sorts lt swo l.toArray 0 l.toArray.size (Lib.bitLen l.toArray.size) true true (Nat.zero_le _) (Nat.le_refl _) (Or.inl rfl)
  obtain ⟨⟨h1,_,h2⟩,h3⟩:=h
  generalize Sort.pdq lt l.toArray 0 l.toArray.size (Lib.bitLen l.toArray.size) true true=d at h1 h2 h3 ⊢
  refine ⟨?_,?_⟩
  · have e1:d.extract 0 l.toArray.size=d:=by rw[← h1];exact Array.extract_size
    rw[e1,Array.extract_size]at h2
    exact h2
  rw[List.pairwise_iff_getElem]
  intro i j hi hj hij
  have h4:=h3 i j (Nat.zero_le _) hij (by rw[← h1];simpa using hj)
  rw[getElem!_pos d j (by simpa using hj),getElem!_pos d i (by simpa using hi)]at h4
  rw[Array.getElem_toList,Array.getElem_toList]
  exact h4
theorem pair_sort {st n:Int} {X:List S68} (nod:X.Nodup) (inP:∀ p∈X,(0≤p.f0∧p.f0<st)∧0≤p.f1∧p.f1<n) (hl:X.length<1048576) :
    ∃ T,impl_pair_57.f X=some T∧T.Perm X∧T.Pairwise (fun a b=>cdP n a<cdP n b):=by
  obtain ⟨h1,h2⟩:=pdq_list _ impl_pair_57.swo X
  unfold impl_pair_57.f
  rw[if_pos hl]
  refine ⟨_,rfl,h1,?_⟩
  generalize (Sort.pdq (Go.Proofs.ltOf impl_pair_57.cf) X.toArray 0 X.toArray.size (Lib.bitLen X.toArray.size) true true).toList=T at h1 h2 ⊢
  have hn:=h1.nodup_iff.2 nod
  refine (List.Pairwise.and_mem.1 (h2.and hn)).imp (fun {a b} hab=>?_)
  obtain ⟨ha,hb,h3,h4⟩:=hab
  obtain ⟨⟨a0,a1⟩,a2,a3⟩:=inP a (h1.mem_iff.1 ha)
  obtain ⟨⟨b0,b1⟩,b2,b3⟩:=inP b (h1.mem_iff.1 hb)
  rw[impl_pair_57.lt_eq]at h3
  unfold impl_pair_57.lt at h3
  rw[decide_eq_false_iff_not]at h3
  unfold cdP
  by_cases e:a.f0<b.f0
  · exact mix_lt a3 b2 b3 e
  have e0:a.f0=b.f0:=by omega
  have e1:a.f1≠b.f1:=by
    intro e1
    apply h4
    obtain ⟨p,q⟩:=a
    obtain ⟨p',q'⟩:=b
    simp only at e0 e1
    rw[e0,e1]
  rw[e0]
  omega
theorem fold_pre {α:Type} (F:List S68→α→List S68) (hF:∀ X a,X <+: F X a):∀ (m:List α) (X:List S68),X <+: m.foldl F X
  | [],X=>List.prefix_refl X
  | a :: m,X=>(hF X a).trans (fold_pre F hF m (F X a))
theorem fold_mem {α:Type} (F:List S68→α→List S68) (hF:∀ X a,X <+: F X a) (z:S68):∀ (m:List α) (X:List S68) (a:α),a∈m→(∀ X,z∈F X a)→z∈m.foldl F X
  | b :: m,X,a,ha,hz=>by
    rw[List.foldl_cons]
    rcases List.mem_cons.1 ha with e|e
    · subst e;exact (fold_pre F hF m _).subset (hz X)
    exact fold_mem F hF z m _ a e hz
theorem one_pre (p:S68) (e f:S58) (X:List S68):X <+: mt.one p e f X:=by
  unfold mt.one mt.add
  split
  · split
    · exact List.prefix_refl X
    exact List.prefix_append _ _
  exact List.prefix_refl X
theorem step_pre (l l':List S58) (p:S68) (X:List S68):X <+: mt.step l l' p X:=fold_pre _ (fun X e=>fold_pre _ (fun X f=>one_pre p e f X) l' X) l X
theorem step_has {l l':List S58} {p:S68} {e f:S58} (he:e∈l) (hf:f∈l') (h:e.f0=p.f0∧f.f0=p.f1∧e.f1=f.f1) (X:List S68):(⟨e.f2,f.f2⟩:S68)∈mt.step l l' p X:=by
  refine fold_mem _ (fun X e=>fold_pre _ (fun X f=>one_pre p e f X) l' X) _ l X e he (fun X=>fold_mem _ (fun X f=>one_pre p e f X) _ l' X f hf (fun X=>?_))
  unfold mt.one mt.add
  rw[if_pos h]
  split
  · rename_i hh;exact (has_iff X _ _).1 hh
  exact List.mem_append_right _ List.mem_cons_self
def Clo (l l':List S58) (q:Nat) (X:List S68):Prop:=∀ j<q,∀ p,X[j]?=some p→∀ e∈l,∀ f∈l',e.f0=p.f0∧f.f0=p.f1∧e.f1=f.f1→(⟨e.f2,f.f2⟩:S68)∈X
theorem go_sim {st n s s':Int} {l l':List S58} (C:Cx st n s s' l l'):∀ (d q:Nat) (X:List S68),(∃ h Q,Sim st n h Q X)→∃ h Q,Sim st n h Q (mt.go l l' d q X)
  | 0,_,_,h=>h
  | d+1,q,X,h=>by
    unfold mt.go
    split
    · exact go_sim C d _ _ (step_sim C _ X h)
    exact h
theorem goF_clo {st n s s':Int} {l l':List S58} (C:Cx st n s s' l l'):∀ (d q:Nat) (X:List S68),(∃ h Q,Sim st n h Q X)→st * n≤q+d→Clo l l' q X→Clo l l' (goF l l' d q X).length (goF l l' d q X)
  | 0,q,X,h,hd,hc=>by
    obtain ⟨h,Q,S⟩:=h
    have hs:=S.small
    exact fun j hj=>hc j (by have:j<X.length:=hj;omega)
  | d+1,q,X,h,hd,hc=>by
    unfold goF
    split
    · rename_i hq
      refine goF_clo C d (q+1) _ (step_sim C _ X h) (by omega) (fun j hj p hp e he f hf hm=>?_)
      have hpre:=step_pre l l' (X.getD q z68) X
      have hj2:X[j]?=some p:=by
        obtain ⟨R,hR⟩:=hpre
        rw[← hR,List.getElem?_append_left (by omega)]at hp
        exact hp
      by_cases e1:j<q
      · exact hpre.subset (hc j e1 p hj2 e he f hf hm)
      obtain rfl:j=q:=by omega
      have hg:X.getD j z68=p:=by rw[List.getD_eq_getElem?_getD,hj2];rfl
      rw[hg]
      exact step_has he hf hm X
    rename_i hq
    exact fun j hj=>hc j (by omega)
theorem goF_le (l l':List S58):∀ (d q:Nat) (X:List S68),X.length≤(goF l l' d q X).length
  | 0,_,_=>Nat.le_refl _
  | d+1,q,X=>by
    unfold goF
    split
    · exact Nat.le_trans (mt.step_le _ _ _ _) (goF_le l l' d _ _)
    exact Nat.le_refl _
theorem go_goF (l l':List S58):∀ (k D i:Nat) (X:List S68),32≤i+k→k≤D→(mt.go l l' k i X=goF l l' D i X∧(goF l l' D i X).length≤31)∨(31<(mt.go l l' k i X).length∧31<(goF l l' D i X).length)
  | 0,D,i,X,hi,_=>by
    have h:=goF_le l l' D i X
    by_cases e:X.length≤31
    · have:goF l l' D i X=X:=by
        cases D with
        | zero=>rfl
        | succ D=>unfold goF;rw[if_neg (by omega)]
      rw[this]
      exact .inl ⟨rfl,e⟩
    exact .inr ⟨by show 31<X.length;omega,by omega⟩
  | k+1,D,i,X,hi,hD=>by
    obtain ⟨D,rfl⟩:∃ m,D=m+1:=⟨D - 1,by omega⟩
    have h:=goF_le l l' (D+1) i X
    by_cases e:X.length≤31
    · by_cases e2:i<X.length
      · unfold goF mt.go
        rw[if_pos e2,if_pos ⟨e2,e⟩]
        exact go_goF l l' k D _ _ (by omega) (by omega)
      unfold goF mt.go
      rw[if_neg e2,if_neg (fun hh=>e2 hh.1)]
      exact .inl ⟨rfl,e⟩
    have:mt.go l l' (k+1) i X=X:=by unfold mt.go;rw[if_neg (fun hh=>e hh.2)]
    rw[this]
    exact .inr ⟨by omega,by omega⟩
def reachP (s s':Int) (l l':List S58):List S68:=goF l l' 961 0 (mt.starts (listOf s) (listOf s'))
theorem ok_small {x:Int} (h0:0≤x) (h1:x≤31):mp.ok x:=⟨by omega,by omega⟩
theorem reach_clo {st n s s':Int} {l l':List S58} (C:Cx st n s s' l l') {p:S68} (hp:p∈reachP s s' l l') {e f:S58} (he:e∈l) (hf:f∈l') (hm:e.f0=p.f0∧f.f0=p.f1∧e.f1=f.f1):(⟨e.f2,f.f2⟩:S68)∈reachP s s' l l':=by
  have har:=area C.st_.1 C.st_.2 C.n_.1 C.n_.2
  obtain ⟨N,hN⟩:∃ N:Nat,(N:Int)=st * n:=⟨(st * n).toNat,by omega⟩
  have:=goF_clo C 961 0 _ ⟨_,_,starts_sim C.s0 C.s1 C.n_.1 hN⟩ (by omega) (fun j hj=>absurd hj (by omega))
  obtain ⟨j,hj,e1⟩:=List.mem_iff_getElem.1 hp
  exact this j hj p (List.getElem?_eq_some_iff.2 ⟨hj,e1⟩) e he f hf hm
theorem impl_meets_eq {st n s s' a0 c b0 c':Int} {l l':List S58} (C:Cx st n s s' l l') (k:Nat) (hk:70≤k):∃ T,impl_meets.f k a0 st s c l b0 n s' c' l'=some T∧
    (((reachP s s' l l').length≤31∧T.Perm (reachP s s' l l')∧T.Pairwise (fun a b=>cdP n a<cdP n b))∨(31<T.length∧31<(reachP s s' l l').length)):=by
  have hst:=C.st_
  have hn:=C.n_
  have har:=area hst.1 hst.2 hn.1 hn.2
  obtain ⟨N,hN⟩:∃ N:Nat,(N:Int)=st * n:=⟨(st * n).toNat,by omega⟩
  obtain ⟨h,Q,S⟩:=go_sim C 32 0 _ ⟨_,_,starts_sim C.s0 C.s1 hn.1 hN⟩
  have hsm:=S.small
  obtain ⟨T,h1,h2,h3⟩:=pair_sort S.nod S.inP (by omega)
  refine ⟨T,?_,?_⟩
  · unfold impl_meets.f
    rw[impl_SetList_eq s k hk,impl_SetList_eq s' k hk,Option.bind_some,Option.bind_some,if_pos,h1]
    refine ⟨⟨fun x hx=>?_,fun x hx=>?_⟩,fun e he=>?_,fun e he=>?_⟩
    · have:=hasZ_range ((mem_listOf C.s0.1 x).1 hx);exact ok_small this.1 (by omega)
    · have:=hasZ_range ((mem_listOf C.s1.1 x).1 hx);exact ok_small this.1 (by omega)
    · have:=C.e0 e he;exact ok_small this.2.1 (by omega)
    have:=C.e1 e he;exact ok_small this.2.1 (by omega)
  have hl:=h2.length_eq
  rcases go_goF l l' 32 961 0 (mt.starts (listOf s) (listOf s')) (by omega) (by omega) with ⟨a,b⟩|⟨a,b⟩
  · refine .inl ⟨b,?_,h3⟩
    unfold reachP
    rw[← a]
    exact h2
  exact .inr ⟨by omega,b⟩
theorem shl_wrap (x c:Int) (h0:0≤c) (h1:c≤60):shl .i64 x c=wrap64 (x * 2 ^ c.toNat):=by
  unfold shl
  have:(min c.toNat IntKind.i64.bits)=c.toNat:=by simp[IntKind.bits];omega
  rw[this]
  simp[IntKind.wrap,IntKind.bits,IntKind.signed,wrap64]
  generalize x * 2 ^ c.toNat=y
  split <;> omega
def mE (c:Int) (pl:Int→Int→Int) (j:Nat) (e f:S58):S58:=⟨(j:Int),e.f1,pl e.f2 f.f2,Go.bits .or .i64 e.f3 (wrap64 (f.f3 * 2 ^ c.toNat))⟩
def rowL (c:Int) (pl:Int→Int→Int) (j:Nat) (p:S68) (e:S58) (l':List S58):List S58:=l'.filterMap fun f=>if e.f0=p.f0∧f.f0=p.f1∧e.f1=f.f1 then some (mE c pl j e f) else none
def stepL (c:Int) (pl:Int→Int→Int) (j:Nat) (p:S68) (l l':List S58):List S58:=l.flatMap fun e=>rowL c pl j p e l'
def goL (c:Int) (pl:Int→Int→Int) (l l':List S58):Nat→List S68→List S58
  | _,[]=>[]
  | j,p :: r=>stepL c pl j p l l' ++ goL c pl l l' (j+1) r
theorem rowL_le (c:Int) (pl:Int→Int→Int) (j:Nat) (p:S68) (e:S58) (l':List S58):(rowL c pl j p e l').length≤l'.length:=List.length_filterMap_le _ _
theorem stepL_le (c:Int) (pl:Int→Int→Int) (j:Nat) (p:S68) (l':List S58) (h:l'.length≤2000):∀ l:List S58,(stepL c pl j p l l').length≤2000 * l.length
  | []=>Nat.le_refl _
  | e :: l=>by
    have a:=rowL_le c pl j p e l'
    have b:=stepL_le c pl j p l' h l
    unfold stepL at b ⊢
    rw[List.flatMap_cons,List.length_append,List.length_cons]
    omega
def stAll (s s':Int):Nat→List S68→Int→Int
  | _,[],S=>S
  | j,p :: r,S=>stAll s s' (j+1) r (if (hasZ s p.f0 && hasZ s' p.f1)=true then putZ S j else S)
def atA (A:List Int) (n x y:Int):Int:=rd A (x * n+y)
section
variable {a0 st s c b0 n s' c' r0 r1 r2 r3:Int} {l l':List S58} {A:List Int} {r:Int × Int × Int × Int × List S58 × Bool}
theorem gM_l2 (C:Cx st n s s' l l') (hc:0≤c∧c≤4) (hA:(A.length:Int)=st * n) {q i j:Nat} {p:S68} (hp:(0≤p.f0∧p.f0<st)∧0≤p.f1∧p.f1<n) (hq:(q:Int)=cdP n p) (hj:rd A q=(j:Int)) (j31:j≤31) (hi:i<l.length) (d:Nat) :
    ∀ (m:Nat) (Z:List S58),m+d=l'.length→Z.length≤4000000 * j+2000 * i+m→
    Ev (fun k=>spec_GenMeet.l1 k A n q ((i+1:Nat):Int) a0 st s c l b0 n s' c' l' r0 r1 r2 r3 (Z ++ rowL c (atA A n) j p l[i] (l'.drop m))) r→
    Ev (fun k=>spec_GenMeet.l2 k A n q i m a0 st s c l b0 n s' c' l' r0 r1 r2 r3 Z) r:=by
  have hst:=C.st_
  have hn:=C.n_
  have har:=area hst.1 hst.2 hn.1 hn.2
  have hln:=C.ln
  have hcd:=cd_parts hp.1.1 (by omega) hp.2.1 hp.2.2 hn.2
  rw[← hq]at hcd
  have hr:=mix_range hp.1.1 hp.1.2 hp.2.1 hp.2.2
  have hqA:q<A.length:=by unfold cdP at hq;omega
  have he:=C.e0 l[i] (List.getElem_mem hi)
  have hxi:=rdG_at hi
  induction d with
  | zero=>
    intro m Z hm hZ hc1
    rw[List.drop_of_length_le (by omega)]at hc1
    unfold rowL at hc1
    rw[List.filterMap_nil,List.append_nil]at hc1
    refine Ev.step (Ev.step hc1 (f:=fun k=>spec_GenMeet.j6 k A n q i m false a0 st s c l b0 n s' c' l' r0 r1 r2 r3 Z) (fun k=>?_)) (fun k=>?_)
    · simp only[spec_GenMeet.j6]
      rw[if_neg (by simp),wrap64_succ (by omega)]
    simp only[spec_GenMeet.l2]
    rw[if_neg (by omega)]
  | succ d ih=>
    intro m Z hm hZ hc1
    have hml:m<l'.length:=by omega
    have hx:=rdG_at hml
    have hf:=C.e1 l'[m] (List.getElem_mem hml)
    unfold rowL at hc1
    rw[dropG hml,List.filterMap_cons]at hc1
    refine Ev.step (g:=fun k=>spec_GenMeet.j6 k A n q i m (l[i].f0 == p.f0) a0 st s c l b0 n s' c' l' r0 r1 r2 r3 Z) ?_ (fun k=>by
      simp only[spec_GenMeet.l2]
      rw[if_pos (by omega),if_pos (by omega),if_pos (by omega),if_neg (by omega),hcd.1,hxi])
    by_cases h0:l[i].f0=p.f0
    · have b0:(l[i].f0 == p.f0)=true:=by simp[h0]
      rw[b0]
      by_cases hz:l'[m].f0=p.f1
      · by_cases hl:l[i].f1=l'[m].f1
        · rw[if_pos ⟨h0,hz,hl⟩]at hc1
          have hr2:=mix_range he.2.1 he.2.2 hf.2.1 hf.2.2
          have w1:wrap64 (wrap64 (l[i].f2 * n)+l'[m].f2)=l[i].f2 * n+l'[m].f2:=by
            rw[wrap64_id (n:=l[i].f2 * n) (by omega) (by omega),wrap64_id (by omega) (by omega)]
          have:=ih (m+1) (Z ++ [mE c (atA A n) j l[i] l'[m]]) (by omega) (by rw[List.length_append,List.length_singleton];omega) (by rw[List.append_assoc];exact hc1)
          refine Ev.step this (fun k=>?_)
          simp only[spec_GenMeet.j6]
          rw[if_pos trivial,if_pos (by omega),if_pos (by omega),if_pos (by omega),if_pos (by omega),if_neg (by omega),hx,hxi,hcd.2,if_pos hz,if_pos hl,if_pos (by omega),if_pos (by omega),w1,if_pos (by omega),if_pos (by omega),if_pos (by omega),if_pos (by omega),wrap64_succ (by omega),shl_wrap _ c hc.1 (by omega),hj]
          rfl
        rw[if_neg (fun hh=>hl hh.2.2)]at hc1
        refine Ev.step (ih (m+1) Z (by omega) (by omega) hc1) (fun k=>?_)
        simp only[spec_GenMeet.j6]
        rw[if_pos trivial,if_pos (by omega),if_pos (by omega),if_pos (by omega),if_pos (by omega),if_neg (by omega),hx,hxi,hcd.2,if_pos hz,if_neg hl,wrap64_succ (by omega)]
      rw[if_neg (fun hh=>hz hh.2.1)]at hc1
      refine Ev.step (ih (m+1) Z (by omega) (by omega) hc1) (fun k=>?_)
      simp only[spec_GenMeet.j6]
      rw[if_pos trivial,if_pos (by omega),if_pos (by omega),if_pos (by omega),if_pos (by omega),if_neg (by omega),hx,hcd.2,if_neg hz,wrap64_succ (by omega)]
    have b0:(l[i].f0 == p.f0)=false:=by simp[h0]
    rw[b0]
    rw[if_neg (fun hh=>h0 hh.1)]at hc1
    have hnil:(l'.drop (m+1)).filterMap (fun f=>if l[i].f0=p.f0∧f.f0=p.f1∧l[i].f1=f.f1 then some (mE c (atA A n) j l[i] f) else none)=[]:=by
      rw[List.filterMap_eq_nil_iff]
      intro f _
      rw[if_neg (fun hh=>h0 hh.1)]
    simp only[hnil,List.append_nil]at hc1
    refine Ev.step hc1 (fun k=>?_)
    simp only[spec_GenMeet.j6]
    rw[if_neg (by simp),wrap64_succ (by omega)]
theorem gM_l1 (C:Cx st n s s' l l') (hc:0≤c∧c≤4) (hA:(A.length:Int)=st * n) {q j:Nat} {p:S68} (hp:(0≤p.f0∧p.f0<st)∧0≤p.f1∧p.f1<n) (hq:(q:Int)=cdP n p) (hj:rd A q=(j:Int)) (j31:j≤31) (d:Nat) :
    ∀ (i:Nat) (Z:List S58),i+d=l.length→Z.length≤4000000 * j+2000 * i→
    Ev (fun k=>spec_GenMeet.l0 k A n ((q+1:Nat):Int) a0 st s c l b0 n s' c' l' r0 r1 r2 r3 (Z ++ stepL c (atA A n) j p (l.drop i) l')) r→
    Ev (fun k=>spec_GenMeet.l1 k A n q i a0 st s c l b0 n s' c' l' r0 r1 r2 r3 Z) r:=by
  have hst:=C.st_
  have hn:=C.n_
  have har:=area hst.1 hst.2 hn.1 hn.2
  have hln:=C.ln
  have hr:=mix_range hp.1.1 hp.1.2 hp.2.1 hp.2.2
  have hqA:q<A.length:=by unfold cdP at hq;omega
  induction d with
  | zero=>
    intro i Z hi hZ hc1
    rw[List.drop_of_length_le (by omega)]at hc1
    unfold stepL at hc1
    rw[List.flatMap_nil,List.append_nil]at hc1
    refine Ev.step hc1 (fun k=>?_)
    simp only[spec_GenMeet.l1]
    rw[if_neg (by omega),wrap64_succ (by omega)]
  | succ d ih=>
    intro i Z hi hZ hc1
    have hil:i<l.length:=by omega
    unfold stepL at hc1
    rw[dropG hil,List.flatMap_cons,← List.append_assoc]at hc1
    have hle:=rowL_le c (atA A n) j p l[i] l'
    have:=gM_l2 (a0:=a0) (b0:=b0) (c':=c') (r0:=r0) (r1:=r1) (r2:=r2) (r3:=r3) (r:=r) C hc hA hp hq hj j31 hil l'.length 0 Z (by omega) (by omega) (by
      rw[List.drop_zero]
      exact ih (i+1) _ (by omega) (by rw[List.length_append];omega) hc1)
    refine Ev.step this (fun k=>?_)
    simp only[spec_GenMeet.l1]
    rw[if_pos (by omega)]
    rfl
theorem gM_l0 (C:Cx st n s s' l l') (hc:0≤c∧c≤4) {h:List Bool} (hlen:(h.length:Int)=st * n) (hA:A.length=h.length) (d:Nat) :
    ∀ (i j:Nat) (T:List S68) (S:Int) (Z:List S58),i+d=h.length→T.map (cdP n)=tr h i d→A.drop i=nb h i d j→(∀ p∈T,(0≤p.f0∧p.f0<st)∧0≤p.f1∧p.f1<n)→j+T.length≤31→Z.length≤4000000 * j→SetZ S→
    Ev (fun k=>spec_GenMeet.l0 k A n h.length a0 st s c l b0 n s' c' l' r0 r1 (stAll s s' j T S) r3 (Z ++ goL c (atA A n) l l' j T)) r→
    Ev (fun k=>spec_GenMeet.l0 k A n i a0 st s c l b0 n s' c' l' r0 r1 S r3 Z) r:=by
  have hst:=C.st_
  have hn:=C.n_
  have har:=area hst.1 hst.2 hn.1 hn.2
  have hln:=C.ln
  induction d with
  | zero=>
    intro i j T S Z hi hT hdr hin hj hZ hS hc1
    unfold tr at hT
    rw[List.map_eq_nil_iff]at hT
    subst hT
    unfold stAll goL at hc1
    rw[List.append_nil]at hc1
    obtain rfl:i=h.length:=by omega
    exact hc1
  | succ d ih=>
    intro i j T S Z hi hT hdr hin hj hZ hS hc1
    have hiA:i<A.length:=by omega
    have hrd:=rd_at hiA
    rw[List.drop_eq_getElem_cons hiA,← hrd]at hdr
    unfold tr at hT
    unfold nb at hdr
    by_cases hb:rdOf false h (i:Int)=true
    · rw[if_pos hb]at hT hdr
      obtain ⟨hd1,hd2⟩:=List.cons.inj hdr
      cases T with
      | nil=>simp at hT
      | cons p T=>
        rw[List.map_cons]at hT
        obtain ⟨ht1,ht2⟩:=List.cons.inj hT
        have hp:=hin p List.mem_cons_self
        have hr:=mix_range hp.1.1 hp.1.2 hp.2.1 hp.2.2
        have hcd:=cd_parts hp.1.1 (by omega) hp.2.1 hp.2.2 hn.2
        rw[ht1]at hcd
        rw[List.length_cons]at hj
        have hsl:=stepL_le c (atA A n) j p l' (by omega) l
        unfold stAll goL at hc1
        rw[← List.append_assoc]at hc1
        have hS2:SetZ (if (hasZ s p.f0 && hasZ s' p.f1)=true then putZ S j else S):=by
          split
          · exact SetZ_put hS (by omega)
          exact hS
        have nx:=ih (i+1) (j+1) T _ _ (by omega) ht2 (by rw[show ((j+1:Nat):Int)=(j:Int)+1 by omega];exact hd2) (fun q hq=>hin q (List.mem_cons_of_mem _ hq)) (by omega) (by rw[List.length_append];omega) hS2 hc1
        have nx2:=gM_l1 (a0:=a0) (b0:=b0) (c':=c') (r0:=r0) (r1:=r1) (r3:=r3) (r:=r) C hc (by omega) hp ht1.symm hd1 (by omega) l.length 0 Z (by omega) (by omega) (by rw[List.drop_zero];exact nx)
        have nx3:=Ev.step nx2 (f:=fun k=>spec_GenMeet.j3 k A n i a0 st s c l b0 n s' c' l' r0 r1 (if (hasZ s p.f0 && hasZ s' p.f1)=true then putZ S j else S) r3 Z) (fun k=>by simp only[spec_GenMeet.j3];rfl)
        have nx4:=Ev.step nx3 (f:=fun k=>spec_GenMeet.j2 k A n i (hasZ s p.f0 && hasZ s' p.f1) a0 st s c l b0 n s' c' l' r0 r1 S r3 Z) (fun k=>by
          simp only[spec_GenMeet.j2]
          by_cases hh:(hasZ s p.f0 && hasZ s' p.f1)=true
          · rw[if_pos hh,if_pos hh,if_pos (by omega),if_pos (by omega),hd1,spec_l1Bit_eq j (by omega) (by omega),Option.bind_some,or_bitZ S j hS.1 (by have:=hS.2;omega) (by omega) (by omega)]
          rw[if_neg hh,if_neg hh])
        refine Ev.step nx4 (fun k=>?_)
        simp only[spec_GenMeet.l0]
        rw[if_pos (by omega),if_pos (by omega),if_neg (by omega),if_neg (by omega),hcd.1,hcd.2,spec_l1Has_eq s _ C.s0.1.1 (by have:=C.s0.1.2;omega),Option.bind_some,spec_l1Has_eq s' _ C.s1.1.1 (by have:=C.s1.1.2;omega),Option.bind_some]
        by_cases e:hasZ s p.f0=true
        · rw[if_pos e,e,Bool.true_and]
        rw[if_neg e,Bool.eq_false_iff.2 e,Bool.false_and]
    rw[if_neg hb]at hT hdr
    obtain ⟨hd1,hd2⟩:=List.cons.inj hdr
    have nx:=ih (i+1) j T S Z (by omega) hT hd2 hin hj hZ hS hc1
    refine Ev.step nx (fun k=>?_)
    simp only[spec_GenMeet.l0]
    rw[if_pos (by omega),if_pos (by omega),if_pos (by omega),wrap64_succ (by omega)]
end
theorem take_snoc {α:Type} (U:List α) (x:α):(U ++ [x]).take 2001=if (U.take 2001).length≤2000 then U.take 2001 ++ [x] else U.take 2001:=by
  rw[List.length_take]
  by_cases h:U.length≤2000
  · rw[if_pos (by omega),List.take_of_length_le (by simp;omega),List.take_of_length_le (by omega)]
  rw[if_neg (by omega),List.take_append_of_le_length (by omega)]
theorem me_row {c:Int} {pl pl2:Int→Int→Int} {j:Nat} {p:S68} {e:S58}:∀ (l':List S58),(∀ f∈l',e.f0=p.f0∧f.f0=p.f1∧e.f1=f.f1→pl2 e.f2 f.f2=pl e.f2 f.f2)→∀ U:List S58,l'.foldl (fun O f=>me.one c pl2 j p e f O) (U.take 2001)=(U ++ rowL c pl j p e l').take 2001
  | [],_,U=>by unfold rowL;rw[List.filterMap_nil,List.append_nil];rfl
  | f :: l',h,U=>by
    rw[List.foldl_cons]
    unfold rowL
    rw[List.filterMap_cons]
    by_cases hm:e.f0=p.f0∧f.f0=p.f1∧e.f1=f.f1
    · have e1:me.one c pl2 j p e f (U.take 2001)=(U ++ [mE c pl j e f]).take 2001:=by
        rw[take_snoc]
        unfold me.one mE
        rw[h f List.mem_cons_self hm]
        by_cases hl:(U.take 2001).length≤2000
        · rw[if_pos ⟨hm.1,hm.2.1,hm.2.2,hl⟩,if_pos hl]
        rw[if_neg (fun hh=>hl hh.2.2.2),if_neg hl]
      rw[e1,me_row l' (fun f hf=>h f (List.mem_cons_of_mem _ hf)),if_pos hm,List.append_assoc]
      rfl
    have e1:me.one c pl2 j p e f (U.take 2001)=U.take 2001:=if_neg (fun hh=>hm ⟨hh.1,hh.2.1,hh.2.2.1⟩)
    rw[e1,me_row l' (fun f hf=>h f (List.mem_cons_of_mem _ hf)),if_neg hm]
    rfl
theorem me_step {c:Int} {pl pl2:Int→Int→Int} {j:Nat} {p:S68} (l':List S58):∀ (l:List S58),(∀ e∈l,∀ f∈l',e.f0=p.f0∧f.f0=p.f1∧e.f1=f.f1→pl2 e.f2 f.f2=pl e.f2 f.f2)→∀ U:List S58,me.step c pl2 l l' j p (U.take 2001)=(U ++ stepL c pl j p l l').take 2001
  | [],_,U=>by unfold stepL;rw[List.flatMap_nil,List.append_nil];rfl
  | e :: l,h,U=>by
    show me.step c pl2 l l' j p (me.row c pl2 l' j p (U.take 2001) e)=_
    have e1:me.row c pl2 l' j p (U.take 2001) e=(U ++ rowL c pl j p e l').take 2001:=me_row l' (h e List.mem_cons_self) U
    rw[e1,me_step l' l (fun e he=>h e (List.mem_cons_of_mem _ he))]
    unfold stepL
    rw[List.flatMap_cons,List.append_assoc]
theorem me_go {c:Int} {pl pl2:Int→Int→Int} (l l':List S58):∀ (T:List S68) (j:Nat),(∀ p∈T,∀ e∈l,∀ f∈l',e.f0=p.f0∧f.f0=p.f1∧e.f1=f.f1→pl2 e.f2 f.f2=pl e.f2 f.f2)→∀ U:List S58,me.go c pl2 l l' T j (U.take 2001)=(U ++ goL c pl l l' j T).take 2001
  | [],j,_,U=>by unfold goL;rw[List.append_nil];rfl
  | p :: T,j,h,U=>by
    show me.go c pl2 l l' T (j+1) (me.step c pl2 l l' j p (U.take 2001))=_
    rw[me_step l' l (h p List.mem_cons_self),me_go l l' T (j+1) (fun p hp=>h p (List.mem_cons_of_mem _ hp))]
    conv=>rhs;unfold goL
    rw[List.append_assoc]
theorem fill_not {x y:Int}:∀ (T:List S68) (j:Nat) (f:Int→Int→Int),(⟨x,y⟩:S68)∉T→me.fill T j f x y=f x y
  | [],_,_,_=>rfl
  | p :: T,j,f,h=>by
    show me.fill T (j+1) (fun a b=>if a=p.f0∧b=p.f1 then (j:Int) else f a b) x y=_
    rw[fill_not T _ _ (fun hh=>h (List.mem_cons_of_mem _ hh)),if_neg]
    rintro ⟨rfl,rfl⟩
    exact h List.mem_cons_self
theorem fill_at {n:Int} {h:List Bool} {A:List Int} (hA:A.length=h.length) (d:Nat):∀ (i j:Nat) (T:List S68) (f:Int→Int→Int),i+d=h.length→T.map (cdP n)=tr h i d→A.drop i=nb h i d j→T.Nodup→∀ p∈T,me.fill T j f p.f0 p.f1=rd A (cdP n p):=by
  induction d with
  | zero=>
    intro i j T f hi hT hdr hn p hp
    unfold tr at hT
    rw[List.map_eq_nil_iff]at hT
    subst hT
    exact absurd hp List.not_mem_nil
  | succ d ih=>
    intro i j T f hi hT hdr hn p hp
    have hiA:i<A.length:=by omega
    have hrd:=rd_at hiA
    rw[List.drop_eq_getElem_cons hiA,← hrd]at hdr
    unfold tr at hT
    unfold nb at hdr
    by_cases hb:rdOf false h (i:Int)=true
    · rw[if_pos hb]at hT hdr
      obtain ⟨hd1,hd2⟩:=List.cons.inj hdr
      cases T with
      | nil=>exact absurd hp List.not_mem_nil
      | cons q T=>
        rw[List.map_cons]at hT
        obtain ⟨ht1,ht2⟩:=List.cons.inj hT
        rw[List.nodup_cons]at hn
        show me.fill T (j+1) (fun a b=>if a=q.f0∧b=q.f1 then (j:Int) else f a b) p.f0 p.f1=_
        rcases List.mem_cons.1 hp with e|e
        · subst e
          rw[fill_not T _ _ hn.1,if_pos ⟨rfl,rfl⟩,ht1,hd1]
        exact ih (i+1) (j+1) T _ (by omega) ht2 (by rw[show ((j+1:Nat):Int)=(j:Int)+1 by omega];exact hd2) hn.2 p e
    rw[if_neg hb]at hT hdr
    exact ih (i+1) j T f (by omega) hT (List.cons.inj hdr).2 hn p hp
theorem rdQ_at {l:List S68} {i:Nat} (h:i<l.length):rd_T68 l (i:Int)=l[i]:=by
  simp[rd_T68,h]
section
variable {a0 st s c b0 n s' c' r0 r1 r3:Int} {l l':List S58} {r:Int × Int × Int × Int × List S58 × Bool}
theorem iM_l0 (C:Cx st n s s' l l') (T:List S68) (hT:∀ p∈T,(0≤p.f0∧p.f0<st)∧0≤p.f1∧p.f1<n) (h31:T.length≤31) (d:Nat):∀ (i:Nat) (S:Int),i+d=T.length→SetZ S→
    Ev (fun k=>(impl_metEdges.f a0 st s c l b0 n s' c' l' T).bind fun t=>(impl_GenOk.f k r0 r1 (stAll s s' i (T.drop i) S) r3 t).bind fun b=>if b=true then some (r0,r1,stAll s s' i (T.drop i) S,r3,t,true) else some (0,0,0,0,[],false)) r→
    Ev (fun k=>impl_GenMeet.l0 k T T (T.length:Int) i a0 st s c l b0 n s' c' l' r0 r1 S r3) r:=by
  have hst:=C.st_
  have hn:=C.n_
  induction d with
  | zero=>
    intro i S hi hS hc
    rw[List.drop_of_length_le (by omega)]at hc
    unfold stAll at hc
    refine Ev.step hc (fun k=>?_)
    simp only[impl_GenMeet.l0]
    rw[if_neg (by omega)]
  | succ d ih=>
    intro i S hi hS hc
    have hil:i<T.length:=by omega
    have hp:=hT T[i] (List.getElem_mem hil)
    rw[List.drop_eq_getElem_cons hil]at hc
    unfold stAll at hc
    have hS2:SetZ (if (hasZ s T[i].f0 && hasZ s' T[i].f1)=true then putZ S i else S):=by
      split
      · exact SetZ_put hS (by omega)
      exact hS
    have nx:=ih (i+1) _ (by omega) hS2 hc
    have e0:s.toNat.testBit T[i].f0.toNat=hasZ s T[i].f0:=by unfold hasZ;rw[inR_iff.2 ⟨hp.1.1,by omega⟩,Bool.true_and]
    have e1:s'.toNat.testBit T[i].f1.toNat=hasZ s' T[i].f1:=by unfold hasZ;rw[inR_iff.2 ⟨hp.2.1,by omega⟩,Bool.true_and]
    refine Ev.step nx (fun k=>?_)
    simp only[impl_GenMeet.l0]
    rw[if_pos (by omega),if_pos (by omega),if_pos (by omega),rdQ_at hil,impl_has_eq s _ C.s0.1.1 (by have:=C.s0.1.2;omega) hp.1.1 (by omega),Option.bind_some,impl_has_eq s' _ C.s1.1.1 (by have:=C.s1.1.2;omega) hp.2.1 (by omega),Option.bind_some,impl_only_eq i (by omega) (by omega),Option.bind_some,or_bitZ S i hS.1 (by have:=hS.2;omega) (by omega) (by omega),wrap64_succ (by omega),e0,e1]
    by_cases e:hasZ s T[i].f0=true
    · rw[if_pos e,e,Bool.true_and]
      by_cases e2:hasZ s' T[i].f1=true
      · rw[if_pos e2,if_pos e2]
      rw[if_neg e2,if_neg e2]
    rw[if_neg e,Bool.eq_false_iff.2 e,Bool.false_and,if_neg (by simp)]
end
def atG (n st:Int) (e:S58):Int:=(e.f0 * n+e.f1) * st+e.f2
def decG (n st:Int) (i:Nat) (g:Int):S58:=⟨(i:Int) / st / n,(i:Int) / st % n,(i:Int) % st,g⟩
theorem all_sizeG {n st:Int} (h1:1≤n) (h2:n≤8) (h3:0≤st) (h4:st≤31):0≤st * n∧st * n≤248∧0≤st * n * st∧st * n * st≤7688:=by
  have b1:0≤st * n:=Int.mul_nonneg h3 (by omega)
  have b2:st * n≤31 * n:=Int.mul_le_mul_of_nonneg_right h4 (by omega)
  have b3:0≤st * n * st:=Int.mul_nonneg b1 h3
  have b4:st * n * st≤248 * st:=Int.mul_le_mul_of_nonneg_right (by omega) h3
  exact ⟨b1,by omega,b3,by omega⟩
theorem atG_range {n st:Int} {e:S58} (h1:1≤n) (h2:n≤8) (h3:0≤st) (h4:st≤31) (h:stOk n st (keyG e)=true):(0≤e.f0 * n∧e.f0 * n≤240)∧(0≤e.f0 * n+e.f1∧e.f0 * n+e.f1<st * n)∧(0≤(e.f0 * n+e.f1) * st∧(e.f0 * n+e.f1) * st≤7688)∧0≤atG n st e∧atG n st e<st * n * st:=by
  obtain ⟨⟨a1,a2⟩,⟨a3,a4⟩,a5,a6⟩:=stOk_iff.1 h
  change 0≤e.f0 at a1;change e.f0≤st - 1 at a2;change 0≤e.f2 at a3;change e.f2≤st - 1 at a4;change 0≤e.f1 at a5;change e.f1≤n - 1 at a6
  have b1:0≤e.f0 * n:=Int.mul_nonneg a1 (by omega)
  have b2:e.f0 * n≤(st - 1) * n:=Int.mul_le_mul_of_nonneg_right a2 (by omega)
  have b3:(st - 1) * n=st * n - n:=by rw[Int.sub_mul,Int.one_mul]
  have b4:(st - 1) * n≤30 * n:=Int.mul_le_mul_of_nonneg_right (by omega) (by omega)
  have b5:(e.f0 * n+e.f1) * st≤(st * n - 1) * st:=Int.mul_le_mul_of_nonneg_right (by omega) h3
  have b6:(st * n - 1) * st=st * n * st - st:=by rw[Int.sub_mul,Int.one_mul]
  have b7:0≤(e.f0 * n+e.f1) * st:=Int.mul_nonneg (by omega) h3
  have b8:(e.f0 * n+e.f1) * st≤248 * st:=Int.mul_le_mul_of_nonneg_right (by omega) h3
  unfold atG
  exact ⟨⟨b1,by omega⟩,⟨by omega,by omega⟩,⟨b7,by omega⟩,by omega,by omega⟩
theorem decG_at {n st:Int} {e:S58} (h1:1≤n) (h2:n≤8) (h3:0≤st) (h4:st≤31) (h:stOk n st (keyG e)=true) (g:Int):decG n st (atG n st e).toNat g=⟨e.f0,e.f1,e.f2,g⟩:=by
  have hr:=atG_range h1 h2 h3 h4 h
  obtain ⟨⟨a1,a2⟩,⟨a3,a4⟩,a5,a6⟩:=stOk_iff.1 h
  change 0≤e.f0 at a1;change e.f0≤st - 1 at a2;change 0≤e.f2 at a3;change e.f2≤st - 1 at a4;change 0≤e.f1 at a5;change e.f1≤n - 1 at a6
  unfold decG
  rw[Int.toNat_of_nonneg hr.2.2.2.1]
  unfold atG
  obtain ⟨c1,c2⟩:=mix_div (e.f0 * n+e.f1) e.f2 st a3 (by omega)
  obtain ⟨c3,c4⟩:=mix_div e.f0 e.f1 n a5 (by omega)
  rw[c1,c2,c3,c4]
theorem decG_lt {n st:Int} (h1:1≤n) (h3:1≤st) {i j:Nat} (h:i<j) (g g':Int):lessK (keyG (decG n st i g)) (keyG (decG n st j g'))=true:=by
  rw[lessK_iff]
  show (i:Int) / st / n<(j:Int) / st / n∨((i:Int) / st / n=(j:Int) / st / n∧((i:Int) / st % n<(j:Int) / st % n∨((i:Int) / st % n=(j:Int) / st % n∧(i:Int) % st<(j:Int) % st)))
  have e1:(i:Int) / st≤(j:Int) / st:=Int.ediv_le_ediv (by omega) (by omega)
  have e2:(i:Int) / st / n≤(j:Int) / st / n:=Int.ediv_le_ediv (by omega) e1
  have d1:=Int.mul_ediv_add_emod (i:Int) st
  have d2:=Int.mul_ediv_add_emod (j:Int) st
  have d3:=Int.mul_ediv_add_emod ((i:Int) / st) n
  have d4:=Int.mul_ediv_add_emod ((j:Int) / st) n
  by_cases f1:(i:Int) / st / n=(j:Int) / st / n
  · rw[f1]at d3
    by_cases f2:(i:Int) / st=(j:Int) / st
    · rw[f2]at d1 d3 ⊢
      right;refine ⟨f1 ▸ rfl,?_⟩
      right;refine ⟨rfl,?_⟩;omega
    right;refine ⟨f1,?_⟩;left;omega
  left;omega
theorem atG_inj {n st:Int} {x e:S58} (h1:1≤n) (h2:n≤8) (h3:0≤st) (h4:st≤31) (hx:stOk n st (keyG x)=true) (he:stOk n st (keyG e)=true) (h:atG n st x=atG n st e):keyG x=keyG e:=by
  have a:=decG_at h1 h2 h3 h4 hx 0
  have b:=decG_at h1 h2 h3 h4 he 0
  rw[h,b]at a
  injection a with c1 c2 c3
  unfold keyG
  rw[c1,c2,c3]
def putG (n st:Int) (l:List S58) (m:List Int):List Int:=l.foldl (fun m e=>m.set (atG n st e).toNat (e.f3+1)) m
theorem putG_len (n st:Int):∀ (l:List S58) (m:List Int),(putG n st l m).length=m.length
  | [],_=>rfl
  | e :: l,m=>by show (putG n st l _).length=_;rw[putG_len n st l,List.length_set]
theorem rd_set (m:List Int) (i j v:Int) (hi:0≤i) (hj:0≤j) (hl:i<m.length):rd (m.set i.toNat v) j=if i=j then v else rd m j:=by
  unfold rd
  rw[List.getD_eq_getElem?_getD,List.getD_eq_getElem?_getD,List.getElem?_set]
  by_cases e:i=j
  · subst e;rw[if_pos rfl,if_pos (by omega),if_pos rfl];rfl
  rw[if_neg (by omega),if_neg e]
theorem putG_not {n st:Int} (h1:1≤n) (h2:n≤8) (h3:0≤st) (h4:st≤31) (j:Int) (hj:0≤j):∀ (l:List S58),(∀ e∈l,stOk n st (keyG e)=true)→∀ m:List Int,(m.length:Int)=st * n * st→(∀ e∈l,atG n st e≠j)→rd (putG n st l m) j=rd m j
  | [],_,_,_,_=>rfl
  | e :: l,hl,m,hm,h=>by
    have hr:=atG_range h1 h2 h3 h4 (hl e List.mem_cons_self)
    show rd (putG n st l (m.set (atG n st e).toNat (e.f3+1))) j=_
    rw[putG_not h1 h2 h3 h4 j hj l (fun x hx=>hl x (List.mem_cons_of_mem _ hx)) _ (by rw[List.length_set];exact hm) (fun x hx=>h x (List.mem_cons_of_mem _ hx)),rd_set _ _ _ _ hr.2.2.2.1 hj (by omega),if_neg (h e List.mem_cons_self)]
theorem putG_at {n st:Int} (h1:1≤n) (h2:n≤8) (h3:0≤st) (h4:st≤31):∀ (l:List S58),(∀ e∈l,stOk n st (keyG e)=true)→l.Pairwise (fun a b=>keyG a≠keyG b)→∀ m:List Int,(m.length:Int)=st * n * st→∀ e∈l,rd (putG n st l m) (atG n st e)=e.f3+1
  | [],_,_,_,_,e,he=>absurd he List.not_mem_nil
  | x :: l,hl,hp,m,hm,e,he=>by
    rw[List.pairwise_cons]at hp
    have hr:=atG_range h1 h2 h3 h4 (hl x List.mem_cons_self)
    have hl2:∀ e∈l,stOk n st (keyG e)=true:=fun y hy=>hl y (List.mem_cons_of_mem _ hy)
    have hm2:((m.set (atG n st x).toNat (x.f3+1)).length:Int)=st * n * st:=by rw[List.length_set];exact hm
    show rd (putG n st l (m.set (atG n st x).toNat (x.f3+1))) (atG n st e)=_
    rcases List.mem_cons.1 he with e1|e1
    · subst e1
      rw[putG_not h1 h2 h3 h4 _ hr.2.2.2.1 l hl2 _ hm2 (fun y hy hh=>hp.1 y hy (atG_inj h1 h2 h3 h4 (hl2 y hy) (hl e List.mem_cons_self) hh).symm),rd_set _ _ _ _ hr.2.2.2.1 hr.2.2.2.1 (by omega),if_pos rfl]
    exact putG_at h1 h2 h3 h4 l hl2 hp.2 _ hm2 e e1
def outG (n st:Int) (m:List Int):Nat→Nat→List S58
  | _,0=>[]
  | i,d+1=>if rd m (i:Int)>0 then decG n st i (rd m (i:Int) - 1) :: outG n st m (i+1) d else outG n st m (i+1) d
theorem mem_outG (n st:Int) (m:List Int) (d:Nat) (e:S58):∀ i,e∈outG n st m i d↔∃ j:Nat,i≤j∧j<i+d∧rd m (j:Int)>0∧e=decG n st j (rd m (j:Int) - 1):=by
  induction d with
  | zero=>
    intro i
    simp only[outG]
    constructor
    · intro h;cases h
    rintro ⟨j,h1,h2,_⟩;omega
  | succ d ih=>
    intro i
    have hi:=ih (i+1)
    have split1:(∃ j:Nat,i≤j∧j<i+(d+1)∧rd m (j:Int)>0∧e=decG n st j (rd m (j:Int) - 1))↔(rd m (i:Int)>0∧e=decG n st i (rd m (i:Int) - 1))∨∃ j:Nat,i+1≤j∧j<i+1+d∧rd m (j:Int)>0∧e=decG n st j (rd m (j:Int) - 1):=by
      constructor
      · rintro ⟨j,a,b,c⟩
        by_cases hj:j=i
        · subst hj;exact .inl c
        exact .inr ⟨j,by omega,by omega,c⟩
      rintro (c|⟨j,a,b,c⟩)
      · exact ⟨i,by omega,by omega,c⟩
      exact ⟨j,by omega,by omega,c⟩
    rw[split1,← hi]
    simp only[outG]
    by_cases h:rd m (i:Int)>0
    · rw[if_pos h,List.mem_cons]
      exact or_congr ⟨fun h'=>⟨h,h'⟩,fun h'=>h'.2⟩ Iff.rfl
    rw[if_neg h]
    exact ⟨Or.inr,fun h'=>h'.resolve_left (fun h''=>h h''.1)⟩
def AscG (l:List S58):Prop:=l.Pairwise fun x y=>lessK (keyG x) (keyG y)=true
theorem outG_asc {n st:Int} (h1:1≤n) (h3:1≤st) (m:List Int) (d:Nat):∀ i,AscG (outG n st m i d):=by
  induction d with
  | zero=>intro i;exact List.Pairwise.nil
  | succ d ih=>
    intro i
    simp only[outG]
    by_cases h:rd m (i:Int)>0
    · rw[if_pos h]
      refine List.pairwise_cons.2 ⟨fun e he=>?_,ih (i+1)⟩
      obtain ⟨j,a,b,_,rfl⟩:=(mem_outG n st m d e (i+1)).1 he
      exact decG_lt h1 h3 (by omega) _ _
    rw[if_neg h];exact ih (i+1)
theorem keyG_irrefl (a:Key):¬ lessK a a=true:=by
  rw[lessK_iff];omega
theorem rd_rep (N:Nat) (i:Int):rd (List.replicate N 0) i=0:=by
  unfold rd
  rw[List.getD_eq_getElem?_getD,List.getElem?_replicate]
  split <;> rfl
theorem outG_mem {n st:Int} (h1:1≤n) (h2:n≤8) (h3:0≤st) (h4:st≤31) {Z:List S58} (hl:∀ e∈Z,stOk n st (keyG e)=true∧0≤e.f3) (hp:Z.Pairwise (fun a b=>keyG a≠keyG b)) (x:S58) :
    x∈outG n st (putG n st Z (List.replicate (st * n * st).toNat 0)) 0 (st * n * st).toNat↔x∈Z:=by
  have hs:=all_sizeG h1 h2 h3 h4
  have hm:((List.replicate (st * n * st).toNat (0:Int)).length:Int)=st * n * st:=by rw[List.length_replicate];omega
  have hl2:∀ e∈Z,stOk n st (keyG e)=true:=fun e he=>(hl e he).1
  have dec:∀ e∈Z,decG n st (atG n st e).toNat (rd (putG n st Z (List.replicate (st * n * st).toNat 0)) (atG n st e) - 1)=e:=by
    intro e he
    rw[putG_at h1 h2 h3 h4 Z hl2 hp _ hm e he,decG_at h1 h2 h3 h4 (hl2 e he),Int.add_sub_cancel]
  rw[mem_outG]
  constructor
  · rintro ⟨j,_,b,c,rfl⟩
    by_cases hj:∃ e∈Z,atG n st e=(j:Int)
    · obtain ⟨e,he,ej⟩:=hj
      have:=dec e he
      rw[ej,Int.toNat_natCast]at this
      rw[this]
      exact he
    rw[putG_not h1 h2 h3 h4 j (by omega) Z hl2 _ hm (fun e he ej=>hj ⟨e,he,ej⟩)]at c
    rw[rd_rep]at c
    omega
  intro he
  have hr:=atG_range h1 h2 h3 h4 (hl2 x he)
  refine ⟨(atG n st x).toNat,by omega,by omega,?_,?_⟩
  · rw[Int.toNat_of_nonneg hr.2.2.2.1,putG_at h1 h2 h3 h4 Z hl2 hp _ hm x he]
    have:=(hl x he).2
    omega
  rw[Int.toNat_of_nonneg hr.2.2.2.1];exact (dec x he).symm
theorem l5S_l1 (n st:Int) (h1:1≤n) (h2:n≤8) (h3:0≤st) (h4:st≤31) (q r:Int) (Z:List S58) (m:List Int) (hm:(m.length:Int)=st * n * st) (hr:∀ i,-1≤rd m i - 1∧rd m i≤4611686018427387904) (d:Nat):∀ (i:Nat) (acc:List S58),i+d=m.length→acc.length≤i→
    Ev (fun k=>spec_l5Sort.l1 k m acc (i:Int) n st q r Z) (n,st,q,r,acc ++ outG n st m i d):=by
  obtain ⟨s1,s2,s3,s4⟩:=all_sizeG h1 h2 h3 h4
  induction d with
  | zero=>
    intro i acc hi ha
    refine Ev.step (Ev.now _) (fun k=>?_)
    simp only[spec_l5Sort.l1,outG,List.append_nil]
    rw[if_neg (by omega)]
  | succ d ih=>
    intro i acc hi ha
    simp only[outG]
    by_cases h:rd m (i:Int)>0
    · have hst:st≠0:=by
        intro e
        rw[e]at hm
        simp at hm
        simp[hm]at hi
      have hri:=hr (i:Int)
      have e0:Int.tdiv (i:Int) st=(i:Int) / st:=Int.tdiv_eq_ediv_of_nonneg (by omega)
      have e1:0≤(i:Int) / st:=Int.ediv_nonneg (by omega) h3
      have e2:(i:Int) / st≤(i:Int):=Int.ediv_le_self _ (by omega)
      have e3:Int.tdiv ((i:Int) / st) n=(i:Int) / st / n:=Int.tdiv_eq_ediv_of_nonneg e1
      have e4:0≤(i:Int) / st / n:=Int.ediv_nonneg e1 (by omega)
      have e5:(i:Int) / st / n≤(i:Int) / st:=Int.ediv_le_self _ e1
      have:=ih (i+1) (acc ++ [decG n st i (rd m (i:Int) - 1)]) (by omega) (by rw[List.length_append,List.length_singleton];omega)
      rw[List.append_assoc,List.singleton_append]at this
      rw[if_pos h]
      refine Ev.step this (fun k=>?_)
      simp only[spec_l5Sort.l1]
      rw[if_pos (by omega),if_pos (by omega),if_pos h,if_neg hst,if_neg (by omega),if_pos (by omega),e0,wrap64_id (n:=(i:Int) / st) (by omega) (by omega),e3,wrap64_id (n:=(i:Int) / st / n) (by omega) (by omega),Int.tmod_eq_emod_of_nonneg e1,Int.tmod_eq_emod_of_nonneg (by omega),wrap64_id (n:=rd m (i:Int) - 1) (by omega) (by omega),wrap64_succ (by omega)]
      rfl
    rw[if_neg h]
    refine Ev.step (ih (i+1) acc (by omega) (by omega)) (fun k=>?_)
    simp only[spec_l5Sort.l1]
    rw[if_pos (by omega),if_pos (by omega),if_neg h,wrap64_succ (by omega)]
theorem l5S_l0 (n st:Int) (h1:1≤n) (h2:n≤8) (h3:0≤st) (h4:st≤31) (q r:Int) {R:Int × Int × Int × Int × List S58} (Z:List S58) (hl:Z.length≤2000) (hZ:∀ e∈Z,stOk n st (keyG e)=true∧0≤e.f3∧e.f3≤2147483647) (d:Nat):∀ (i:Nat) (m:List Int),(m.length:Int)=st * n * st→i+d=Z.length→
    Ev (fun k=>spec_l5Sort.l1 k (putG n st (Z.drop i) m) [] 0 n st q r Z) R→Ev (fun k=>spec_l5Sort.l0 k m (i:Int) n st q r Z) R:=by
  obtain ⟨s1,s2,s3,s4⟩:=all_sizeG h1 h2 h3 h4
  induction d with
  | zero=>
    intro i m hm hi hc
    rw[List.drop_of_length_le (by omega)]at hc
    refine Ev.step hc (fun k=>?_)
    simp only[spec_l5Sort.l0]
    rw[if_neg (by omega)]
    rfl
  | succ d ih=>
    intro i m hm hi hc
    have hil:i<Z.length:=by omega
    have hz:=hZ Z[i] (List.getElem_mem hil)
    have hr:=atG_range h1 h2 h3 h4 hz.1
    rw[dropG hil]at hc
    have nx:=ih (i+1) (m.set (atG n st Z[i]).toNat (Z[i].f3+1)) (by rw[List.length_set];exact hm) (by omega) hc
    have e0:wrap64 (Z[i].f0 * n)=Z[i].f0 * n:=wrap64_id (by omega) (by omega)
    have hk:=stOk_iff.1 hz.1
    have e1:wrap64 (Z[i].f0 * n+Z[i].f1)=Z[i].f0 * n+Z[i].f1:=wrap64_id (by omega) (by omega)
    have e2:wrap64 ((Z[i].f0 * n+Z[i].f1) * st)=(Z[i].f0 * n+Z[i].f1) * st:=wrap64_id (by omega) (by omega)
    have e3:wrap64 ((Z[i].f0 * n+Z[i].f1) * st+Z[i].f2)=atG n st Z[i]:=wrap64_id (by unfold atG at hr;omega) (by unfold atG at hr;omega)
    refine Ev.step nx (fun k=>?_)
    simp only[spec_l5Sort.l0]
    rw[if_pos (by omega),if_pos (by omega),rdG_at hil,e0,e1,e2,e3,if_pos (by omega),if_pos (by omega),wrap64_id (n:=Z[i].f3+1) (by omega) (by omega),wrap64_succ (by omega)]
theorem putG_range {n st:Int} (h1:1≤n) (h2:n≤8) (h3:0≤st) (h4:st≤31):∀ (Z:List S58),(∀ e∈Z,stOk n st (keyG e)=true∧0≤e.f3∧e.f3≤2147483647)→∀ m:List Int,(m.length:Int)=st * n * st→(∀ i,-1≤rd m i - 1∧rd m i≤4611686018427387904)→∀ i,-1≤rd (putG n st Z m) i - 1∧rd (putG n st Z m) i≤4611686018427387904
  | [],_,m,_,h=>h
  | e :: Z,hZ,m,hm,h=>by
    have hz:=hZ e List.mem_cons_self
    have hr:=atG_range h1 h2 h3 h4 hz.1
    refine putG_range h1 h2 h3 h4 Z (fun x hx=>hZ x (List.mem_cons_of_mem _ hx)) _ (by rw[List.length_set];exact hm) (fun i=>?_)
    by_cases hi:0≤i
    · rw[rd_set _ _ _ _ hr.2.2.2.1 hi (by omega)]
      split
      · omega
      exact h i
    have e0:i.toNat=0:=by omega
    have e1:∀ m:List Int,rd m i=rd m 0:=fun m=>by unfold rd;rw[e0];rfl
    rw[e1,rd_set _ _ _ _ hr.2.2.2.1 (Int.le_refl 0) (by omega),← e1]
    split
    · omega
    exact h i
theorem l5Sort_eq (n st:Int) (h1:1≤n) (h2:n≤8) (h3:0≤st) (h4:st≤31) (q r:Int) (Z:List S58) (hl:Z.length≤2000) (hZ:∀ e∈Z,stOk n st (keyG e)=true∧0≤e.f3∧e.f3≤2147483647) :
    Ev (fun k=>spec_l5Sort.f k n st q r Z) (n,st,q,r,outG n st (putG n st Z (List.replicate (st * n * st).toNat 0)) 0 (st * n * st).toNat):=by
  obtain ⟨s1,s2,s3,s4⟩:=all_sizeG h1 h2 h3 h4
  have hm:((List.replicate (st * n * st).toNat (0:Int)).length:Int)=st * n * st:=by rw[List.length_replicate];omega
  have hpl:=putG_len n st Z (List.replicate (st * n * st).toNat 0)
  have hg:=putG_range h1 h2 h3 h4 Z hZ _ hm (fun i=>by rw[rd_rep];omega)
  have hx:=l5S_l1 n st h1 h2 h3 h4 q r Z (putG n st Z (List.replicate (st * n * st).toNat 0)) (by rw[hpl];exact hm) hg (st * n * st).toNat 0 [] (by rw[hpl,List.length_replicate];omega) (Nat.le_refl _)
  have:=l5S_l0 n st h1 h2 h3 h4 q r Z hl hZ Z.length 0 _ hm (by omega) hx
  refine Ev.same this (fun k=>?_)
  unfold spec_l5Sort.f
  rw[wrap64_id (n:=st * n) (by omega) (by omega),wrap64_id (n:=st * n * st) (by omega) (by omega),if_pos (by omega),if_pos (by omega)]
  rfl
theorem gedge_sort {Z:List S58} (hl:Z.length<1048576):∃ T,impl_GEdge_59.f Z=some T∧T.Perm Z∧T.Pairwise (fun a b=>lessK (keyG b) (keyG a)=false):=by
  obtain ⟨h1,h2⟩:=pdq_list _ impl_GEdge_59.swo Z
  unfold impl_GEdge_59.f
  rw[if_pos hl]
  refine ⟨_,rfl,h1,h2.imp (fun {a b} h=>?_)⟩
  rw[impl_GEdge_59.lt_eq]at h
  rw[← Bool.not_eq_true,lessK_iff]
  unfold impl_GEdge_59.lt at h
  rw[decide_eq_false_iff_not]at h
  exact h
theorem asc_of {T:List S58} (h:T.Pairwise (fun a b=>lessK (keyG b) (keyG a)=false)) (hp:T.Pairwise (fun a b=>keyG a≠keyG b)):AscG T:=by
  refine (h.and hp).imp (fun {a b} hab=>?_)
  have h1:=hab.1
  rw[← Bool.not_eq_true,lessK_iff]at h1
  rw[lessK_iff]
  have h2:¬ (a.f0=b.f0∧a.f1=b.f1∧a.f2=b.f2):=fun hh=>hab.2 (by unfold keyG;rw[hh.1,hh.2.1,hh.2.2])
  change ¬ (b.f0<a.f0∨(b.f0=a.f0∧(b.f1<a.f1∨(b.f1=a.f1∧b.f2<a.f2)))) at h1
  show a.f0<b.f0∨(a.f0=b.f0∧(a.f1<b.f1∨(a.f1=b.f1∧a.f2<b.f2)))
  omega
theorem sorts_eq {n st:Int} (h1:1≤n) (h2:n≤8) (h3:1≤st) (h4:st≤31) {Z T:List S58} (hZ:∀ e∈Z,stOk n st (keyG e)=true∧0≤e.f3∧e.f3≤2147483647) (hp:Z.Pairwise (fun a b=>keyG a≠keyG b)) (hT:T.Perm Z) (hs:T.Pairwise (fun a b=>lessK (keyG b) (keyG a)=false)) :
    T=outG n st (putG n st Z (List.replicate (st * n * st).toNat 0)) 0 (st * n * st).toNat∧AscG T:=by
  have hp2:T.Pairwise (fun a b=>keyG a≠keyG b):=(hT.pairwise_iff (fun {a b} h=>h.symm)).2 hp
  have ha:=asc_of hs hp2
  refine ⟨srt_unique (lt:=fun a b=>lessK (keyG a) (keyG b)=true) (fun a=>keyG_irrefl _) (fun a b c=>lessK_trans) _ _ ha (outG_asc h1 h3 _ _ 0) (fun x=>?_),ha⟩
  rw[outG_mem h1 h2 (by omega) h4 (fun e he=>⟨(hZ e he).1,(hZ e he).2.1⟩) hp,hT.mem_iff]
theorem edgesB_pair {E:Type} {key:E→Key} {more:E→Bool} {n st:Int}:∀ {l:List E} {p:Option E},edgesB key more n st p l=true→l.Pairwise (fun a b=>lessK (key a) (key b)=true)
  | [],_,_=>List.Pairwise.nil
  | x :: l,p,h=>by
    simp only[edgesB,Bool.and_eq_true]at h
    exact List.pairwise_cons.2 ⟨fun e he=>edgesB_less h.2.2.2 e he,edgesB_pair h.2.2.2⟩
theorem edgesB_of {n st:Int} {more:S58→Bool}:∀ (l:List S58),AscG l→(∀ e∈l,stOk n st (keyG e)=true∧more e=true)→∀ p:Option S58,(∀ q,p=some q→∀ e∈l,lessK (keyG q) (keyG e)=true)→edgesB keyG more n st p l=true
  | [],_,_,_,_=>rfl
  | x :: l,hl,hm,p,hp=>by
    obtain ⟨h1,h2⟩:=List.pairwise_cons.1 hl
    have ha:aheadK keyG p x=true:=by
      cases p with
      | none=>rfl
      | some q=>exact hp q rfl x List.mem_cons_self
    have hx:=hm x List.mem_cons_self
    simp only[edgesB]
    rw[hx.1,hx.2,ha,edgesB_of l h2 (fun e he=>hm e (List.mem_cons_of_mem _ he)) (some x) (fun q hq e he=>by cases hq;exact h1 e he)]
    rfl
theorem nb_idx {n:Int} {h:List Bool} {A:List Int} (hA:A.length=h.length) (d:Nat):∀ (i j:Nat) (T:List S68),i+d=h.length→T.map (cdP n)=tr h i d→A.drop i=nb h i d j→∀ p∈T,∃ t:Nat,T[t]?=some p∧rd A (cdP n p)=((j+t:Nat):Int):=by
  induction d with
  | zero=>
    intro i j T hi hT hdr p hp
    unfold tr at hT
    rw[List.map_eq_nil_iff]at hT
    subst hT
    exact absurd hp List.not_mem_nil
  | succ d ih=>
    intro i j T hi hT hdr p hp
    have hiA:i<A.length:=by omega
    have hrd:=rd_at hiA
    rw[List.drop_eq_getElem_cons hiA,← hrd]at hdr
    unfold tr at hT
    unfold nb at hdr
    by_cases hb:rdOf false h (i:Int)=true
    · rw[if_pos hb]at hT hdr
      obtain ⟨hd1,hd2⟩:=List.cons.inj hdr
      cases T with
      | nil=>exact absurd hp List.not_mem_nil
      | cons q T=>
        rw[List.map_cons]at hT
        obtain ⟨ht1,ht2⟩:=List.cons.inj hT
        rcases List.mem_cons.1 hp with e|e
        · subst e
          exact ⟨0,rfl,by rw[ht1,hd1];rfl⟩
        obtain ⟨t,t1,t2⟩:=ih (i+1) (j+1) T (by omega) ht2 (by rw[show ((j+1:Nat):Int)=(j:Int)+1 by omega];exact hd2) p e
        exact ⟨t+1,t1,by rw[t2,show j+1+t=j+(t+1) by omega]⟩
    rw[if_neg hb]at hT hdr
    exact ih (i+1) j T (by omega) hT (List.cons.inj hdr).2 p hp
section
variable {c:Int} {pl:Int→Int→Int} {l l':List S58}
theorem mem_rowL {j:Nat} {p:S68} {e z:S58} (h:z∈rowL c pl j p e l'):∃ f∈l',(e.f0=p.f0∧f.f0=p.f1∧e.f1=f.f1)∧z=mE c pl j e f:=by
  obtain ⟨f,hf,h⟩:=List.mem_filterMap.1 h
  split at h
  · rename_i hm;exact ⟨f,hf,hm,(Option.some.inj h).symm⟩
  cases h
theorem mem_goL {z:S58}:∀ (T:List S68) (j:Nat),z∈goL c pl l l' j T→∃ t p,T[t]?=some p∧∃ e∈l,∃ f∈l',(e.f0=p.f0∧f.f0=p.f1∧e.f1=f.f1)∧z=mE c pl (j+t) e f
  | [],_,h=>absurd h List.not_mem_nil
  | p :: T,j,h=>by
    unfold goL at h
    rcases List.mem_append.1 h with h|h
    · obtain ⟨e,he,h⟩:=List.mem_flatMap.1 h
      obtain ⟨f,hf,hm,hz⟩:=mem_rowL h
      exact ⟨0,p,rfl,e,he,f,hf,hm,hz⟩
    obtain ⟨t,q,hq,e,he,f,hf,hm,hz⟩:=mem_goL T (j+1) h
    exact ⟨t+1,q,hq,e,he,f,hf,hm,by rw[hz,show j+1+t=j+(t+1) by omega]⟩
theorem goL_keys {W:List S68} (hpl:∀ x y,(⟨x,y⟩:S68)∈W→∃ t:Nat,W[t]?=some ⟨x,y⟩∧pl x y=(t:Int)) (hl:l.Pairwise (fun a b=>lessK (keyG a) (keyG b)=true)) (hl':l'.Pairwise (fun a b=>lessK (keyG a) (keyG b)=true)) :
    ∀ (T:List S68) (j:Nat),(∀ p∈T,∀ e∈l,∀ f∈l',e.f0=p.f0∧f.f0=p.f1∧e.f1=f.f1→(⟨e.f2,f.f2⟩:S68)∈W)→(goL c pl l l' j T).Pairwise (fun a b=>keyG a≠keyG b):=by
  have inj:∀ x y x' y',(⟨x,y⟩:S68)∈W→(⟨x',y'⟩:S68)∈W→pl x y=pl x' y'→x=x'∧y=y':=by
    intro x y x' y' h h' he
    obtain ⟨t,t1,t2⟩:=hpl x y h
    obtain ⟨u,u1,u2⟩:=hpl x' y' h'
    obtain rfl:t=u:=by omega
    rw[t1]at u1
    injection Option.some.inj u1 with a b
    exact ⟨a,b⟩
  intro T
  induction T with
  | nil=>intro j _;exact List.Pairwise.nil
  | cons p T ih=>
    intro j hT
    unfold goL
    rw[List.pairwise_append]
    refine ⟨?_,ih (j+1) (fun q hq=>hT q (List.mem_cons_of_mem _ hq)),fun a ha b hb=>?_⟩
    · unfold stepL
      rw[List.pairwise_flatMap]
      refine ⟨fun e he=>?_,List.Pairwise.imp_of_mem (fun {e e2} he he2 hlt a ha b hb=>?_) hl⟩
      · unfold rowL
        rw[List.pairwise_filterMap]
        refine List.Pairwise.imp_of_mem (fun {f f2} hf hf2 hlt a ha b hb=>?_) hl'
        split at ha
        · rename_i hm
          split at hb
          · rename_i hm2
            obtain rfl:=Option.some.inj ha
            obtain rfl:=Option.some.inj hb
            intro hk
            have hk2:=congrArg (fun k:Key=>k.2.2) hk
            have:=inj _ _ _ _ (hT p List.mem_cons_self e he f hf hm) (hT p List.mem_cons_self e he f2 hf2 hm2) hk2
            have hkk:keyG f=keyG f2:=by
              unfold keyG
              rw[hm.2.1,hm2.2.1,← hm.2.2,← hm2.2.2,this.2]
            rw[hkk]at hlt
            exact keyG_irrefl _ hlt
          cases hb
        cases ha
      obtain ⟨f,hf,hm,rfl⟩:=mem_rowL ha
      obtain ⟨f2,hf2,hm2,rfl⟩:=mem_rowL hb
      intro hk
      have hk1:=congrArg (fun k:Key=>k.2.1) hk
      have hk2:=congrArg (fun k:Key=>k.2.2) hk
      have:=inj _ _ _ _ (hT p List.mem_cons_self e he f hf hm) (hT p List.mem_cons_self e2 he2 f2 hf2 hm2) hk2
      have hkk:keyG e=keyG e2:=by
        unfold keyG
        rw[hm.1,hm2.1,this.1,show e.f1=e2.f1 from hk1]
      rw[hkk]at hlt
      exact keyG_irrefl _ hlt
    obtain ⟨e,he,h⟩:=List.mem_flatMap.1 ha
    obtain ⟨f,hf,hm,rfl⟩:=mem_rowL h
    obtain ⟨t,q,hq,e2,he2,f2,hf2,hm2,rfl⟩:=mem_goL T (j+1) hb
    intro hk
    have hk2:((j:Nat):Int)=((j+1+t:Nat):Int):=congrArg (fun k:Key=>k.1) hk
    omega
theorem goL_ok {n c':Int} {W:List S68} (hpl:∀ x y,(⟨x,y⟩:S68)∈W→∃ t:Nat,W[t]?=some ⟨x,y⟩∧pl x y=(t:Int)) (hT:∀ p∈W,∀ e∈l,∀ f∈l',e.f0=p.f0∧f.f0=p.f1∧e.f1=f.f1→(⟨e.f2,f.f2⟩:S68)∈W)
    (hc:0≤c∧0≤c'∧c+c'≤4) (he1:∀ e∈l,0≤e.f1∧e.f1≤n - 1) (hm:∀ e∈l,0≤e.f3∧e.f3<bitZ c) (hm':∀ e∈l',0≤e.f3∧e.f3<bitZ c') :
    ∀ z∈goL c pl l l' 0 W,stOk n W.length (keyG z)=true∧0≤z.f3∧z.f3<bitZ (c+c'):=by
  intro z hz
  obtain ⟨t,p,hp,e,he,f,hf,hmt,rfl⟩:=mem_goL W 0 hz
  have ht:=(List.getElem?_eq_some_iff.1 hp).1
  obtain ⟨u,u1,u2⟩:=hpl _ _ (hT p (List.mem_of_getElem? hp) e he f hf hmt)
  have hu:=(List.getElem?_eq_some_iff.1 u1).1
  have ho:=or_shl e.f3 f.f3 c c' (hm e he).1 (hm e he).2 (hm' f hf).1 (hm' f hf).2 hc.1 hc.2.1 (by omega)
  rw[shl_wrap _ c hc.1 (by omega)]at ho
  refine ⟨stOk_iff.2 ⟨?_,?_,he1 e he⟩,ho⟩
  · show 0≤((0+t:Nat):Int)∧((0+t:Nat):Int)≤(W.length:Int) - 1
    omega
  show 0≤pl e.f2 f.f2∧pl e.f2 f.f2≤(W.length:Int) - 1
  omega
end
theorem putZ_below {S:Int} {j m:Nat} (h0:0≤S) (h1:S<bitZ m) (h:j<m):0≤putZ S j∧putZ S j<bitZ m:=by
  rw[bitZ_nat]at h1 ⊢
  unfold putZ
  have a:2 ^ j<2 ^ m:=Nat.pow_lt_pow_right (by omega) h
  have:=Nat.or_lt_two_pow (x:=S.toNat) (y:=2 ^ (j:Int).toNat) (n:=m) (by omega) (by rw[Int.toNat_natCast];exact a)
  omega
theorem stAll_below (s s':Int) (m:Nat):∀ (T:List S68) (j:Nat) (S:Int),j+T.length≤m→0≤S→S<bitZ m→0≤stAll s s' j T S∧stAll s s' j T S<bitZ m
  | [],_,_,_,h0,h1=>⟨h0,h1⟩
  | p :: T,j,S,hj,h0,h1=>by
    rw[List.length_cons]at hj
    unfold stAll
    have hb:=putZ_below (j:=j) h0 h1 (by omega)
    by_cases e:(hasZ s p.f0 && hasZ s' p.f1)=true
    · rw[if_pos e];exact stAll_below s s' m T (j+1) _ (by omega) hb.1 hb.2
    rw[if_neg e];exact stAll_below s s' m T (j+1) _ (by omega) h0 h1
theorem Ev.late {α:Type} {f g:Nat→Option α} {r:α} (h:Ev g r) (n:Nat) (e:∀ k,n<k→f k=g k):Ev f r:=by
  obtain ⟨k0,h⟩:=h
  exact ⟨k0+n+1,fun k hk=>by rw[e k (by omega),h k (by omega)]⟩
theorem cx_of {a0 st s c b0 n s' c':Int} {l l':List S58} (ha:genOkB a0 st s c l=true) (hb:genOkB b0 n s' c' l'=true):Cx st n s s' l l':=by
  obtain ⟨g1,_,g3,g4⟩:=genOk_of ha
  obtain ⟨g5,_,g7,g8⟩:=genOk_of hb
  have h1:=head_of g1
  have h2:=head_of g5
  refine ⟨h1.2.1,h2.2.1,fun e he=>?_,fun e he=>?_,⟨⟨by omega,by omega⟩,hasZ_below h1.2.2.1 h1.2.2.2.1 h1.2.1.1⟩,⟨⟨by omega,by omega⟩,hasZ_below h2.2.2.1 h2.2.2.2.1 h2.2.1.1⟩,g3,g7⟩
  · obtain ⟨⟨a1,a2⟩,⟨a3,a4⟩,_⟩:=stOk_iff.1 (edgesB_mem g4 he).1
    exact ⟨⟨a1,Int.lt_of_le_sub_one a2⟩,a3,Int.lt_of_le_sub_one a4⟩
  obtain ⟨⟨a1,a2⟩,⟨a3,a4⟩,_⟩:=stOk_iff.1 (edgesB_mem g8 he).1
  exact ⟨⟨a1,Int.lt_of_le_sub_one a2⟩,a3,Int.lt_of_le_sub_one a4⟩
abbrev OutG:Type:=Int × Int × Int × Int × List S58 × Bool
def noneG:OutG:=(0,0,0,0,[],false)
theorem spec_rest {a0 st s c b0 n s' c' r0 r1 r3:Int} {l l':List S58} {A:List Int} {S:Int} {Z:List S58} {i:Nat} (hi:A.length≤i) {R:OutG}
    (h:Ev (fun k=>if (Z.length:Int)>2000 then some noneG else (spec_l5Sort.f k r0 r1 S r3 Z).bind fun bt=>some (bt.1,bt.2.1,bt.2.2.1,bt.2.2.2.1,bt.2.2.2.2,true)) R):Ev (fun k=>spec_GenMeet.l0 k A n i a0 st s c l b0 n s' c' l' r0 r1 S r3 Z) R:=by
  refine Ev.step h (fun k=>?_)
  simp only[spec_GenMeet.l0]
  rw[if_neg (by omega)]
  rfl
theorem meet_good {a0 st s c b0 n s' c':Int} {l l':List S58} (ha:genOkB a0 st s c l=true) (hb:genOkB b0 n s' c' l'=true) (hcc:c+c'≤4) :
    ∃ R:OutG,Ev (fun k=>spec_GenMeet.j0 k false a0 st s c l b0 n s' c' l') R∧Ev (fun k=>impl_GenMeet.j0 k false a0 st s c l b0 n s' c' l') R∧(R=noneG∨∃ T S O,R=(a0,T,S,c+c',O,true)∧genOkB a0 T S (c+c') O=true):=by
  have C:=cx_of ha hb
  have hst:=C.st_
  have hn:=C.n_
  have har:=area hst.1 hst.2 hn.1 hn.2
  obtain ⟨g1,g2,g3,g4⟩:=genOk_of ha
  obtain ⟨g5,g6,g7,g8⟩:=genOk_of hb
  have hc:=inR_iff.1 g2
  have hc':=inR_iff.1 g6
  have hh:=head_of g1
  obtain ⟨h,Q,SM,hpairs⟩:=l5P_eq (a0:=a0) (b0:=b0) (c:=c) (c':=c') C
  change Sim st n h Q (reachP s s' l l') at SM
  change Ev _ (_,((reachP s s' l l').length:Int)) at hpairs
  have hsm:=SM.small
  have hm:=fun k hk=>impl_meets_eq (a0:=a0) (b0:=b0) (c:=c) (c':=c') C k hk
  obtain ⟨T,hT1,hT⟩:=hm 70 (Nat.le_refl _)
  have hTk:∀ k,70≤k→impl_meets.f k a0 st s c l b0 n s' c' l'=some T:=by
    intro k hk
    rw[← hT1]
    unfold impl_meets.f
    rw[impl_SetList_eq s k hk,impl_SetList_eq s' k hk,impl_SetList_eq s 70 (Nat.le_refl _),impl_SetList_eq s' 70 (Nat.le_refl _)]
  have iE:=Ev.from (f:=fun k=>impl_meets.f k a0 st s c l b0 n s' c' l') (r:=T) 69 (fun k hk=>hTk k (by omega))
  have wcc:wrap64 (c+c')=c+c':=wrap64_id (by omega) (by omega)
  have sStep:∀ R:OutG,Ev (fun k=>if ((reachP s s' l l').length:Int)>31 then some noneG else spec_GenMeet.l0 k (nb h 0 h.length 0) n 0 a0 st s c l b0 n s' c' l' a0 ((reachP s s' l l').length:Int) 0 (c+c') []) R→Ev (fun k=>spec_GenMeet.j0 k false a0 st s c l b0 n s' c' l') R:=by
    intro R hR
    refine Ev.step (Ev.call (a:=fun k=>spec_l5Pairs.f k a0 st s c l b0 n s' c' l') (b:=fun k bt=>if bt.2>31 then some noneG else spec_GenMeet.l0 k bt.1 n 0 a0 st s c l b0 n s' c' l' a0 bt.2 0 (c+c') []) hpairs hR) (fun k=>?_)
    simp only[spec_GenMeet.j0]
    rw[if_neg (by simp),wcc]
    rfl
  have iStep:∀ R:OutG,Ev (fun k=>if (T.length:Int)>31 then some noneG else impl_GenMeet.l0 k T T (T.length:Int) 0 a0 st s c l b0 n s' c' l' a0 (T.length:Int) 0 (c+c')) R→Ev (fun k=>impl_GenMeet.j0 k false a0 st s c l b0 n s' c' l') R:=by
    intro R hR
    refine Ev.step (Ev.call (a:=fun k=>impl_meets.f k a0 st s c l b0 n s' c' l') (b:=fun k t=>if (t.length:Int)>31 then some noneG else impl_GenMeet.l0 k t t (t.length:Int) 0 a0 st s c l b0 n s' c' l' a0 (t.length:Int) 0 (c+c')) iE hR) (fun k=>?_)
    simp only[impl_GenMeet.j0]
    rw[if_neg (by simp),wcc]
    rfl
  rcases hT with ⟨x31,hperm,hasc⟩|⟨t31,x31⟩
  · have hlen:=hperm.length_eq
    have hmem:∀ p,p∈T↔p∈reachP s s' l l':=fun p=>hperm.mem_iff
    have inT:∀ p∈T,(0≤p.f0∧p.f0<st)∧0≤p.f1∧p.f1<n:=fun p hp=>SM.inP p ((hmem p).1 hp)
    have nodT:T.Nodup:=hperm.nodup_iff.2 SM.nod
    have htr:T.map (cdP n)=tr h 0 h.length:=tr_eq SM.len (fun x y x0 x1 y0 y1=>(SM.at_ x y x0 x1 y0 y1).trans (by rw[Bool.eq_iff_iff,has_iff,has_iff,hmem])) inT hn.1 hasc
    have hA:(nb h 0 h.length 0).length=h.length:=by
      have:∀ d i m,(nb h i d m).length=d:=by
        intro d
        induction d with
        | zero=>intro i m;rfl
        | succ d ih=>intro i m;unfold nb;split <;> rw[List.length_cons,ih]
      exact this _ _ _
    obtain ⟨A,hAe⟩:∃ A,A=nb h 0 h.length 0:=⟨_,rfl⟩
    rw[← hAe]at hA
    have hdr:A.drop 0=nb h 0 h.length ((0:Nat):Int):=by rw[List.drop_zero,hAe];rfl
    obtain ⟨Z,hZe⟩:∃ Z,Z=goL c (atA A n) l l' 0 T:=⟨_,rfl⟩
    have hpl:∀ x y,(⟨x,y⟩:S68)∈T→∃ t:Nat,T[t]?=some ⟨x,y⟩∧atA A n x y=(t:Int):=by
      intro x y hxy
      obtain ⟨t,t1,t2⟩:=nb_idx (n:=n) hA h.length 0 0 T (by omega) htr hdr _ hxy
      rw[Nat.zero_add]at t2
      exact ⟨t,t1,t2⟩
    have htg:∀ p∈T,∀ e∈l,∀ f∈l',e.f0=p.f0∧f.f0=p.f1∧e.f1=f.f1→(⟨e.f2,f.f2⟩:S68)∈T:=fun p hp e he f hf hmt=>(hmem _).2 (reach_clo C ((hmem p).1 hp) he hf hmt)
    have hmk:∀ {n st s c:Int} {l:List S58},edgesB keyG (marksOk c) n st none l=true→∀ e∈l,0≤e.f3∧e.f3<bitZ c:=by
      intro n st s c l hl e he
      have:=inR_iff.1 (edgesB_mem hl he).2
      omega
    have he1:∀ e∈l,0≤e.f1∧e.f1≤a0 - 1:=fun e he=>(stOk_iff.1 (edgesB_mem g4 he).1).2.2
    have hkeys:Z.Pairwise (fun a b=>keyG a≠keyG b):=hZe ▸ goL_keys hpl (edgesB_pair g4) (edgesB_pair g8) T 0 htg
    have hok:∀ z∈Z,stOk a0 T.length (keyG z)=true∧0≤z.f3∧z.f3<bitZ (c+c'):=hZe ▸ goL_ok hpl htg ⟨hc.1,hc'.1,hcc⟩ he1 (hmk (s:=s) g4) (hmk (s:=s) g8)
    have hb31:=bitZ_le31 (i:=c+c') (by omega)
    have hok2:∀ z∈Z,stOk a0 T.length (keyG z)=true∧0≤z.f3∧z.f3≤2147483647:=fun z hz=>by have:=hok z hz;exact ⟨this.1,this.2.1,by omega⟩
    have hS:=stAll_below s s' T.length T 0 0 (by omega) (Int.le_refl 0) (bitZ_pos _)
    have hme2:impl_metEdges.f a0 st s c l b0 n s' c' l' T=impl_GEdge_59.f (Z.take 2001):=by
      unfold impl_metEdges.f
      have:=me_go (c:=c) (pl:=atA A n) (pl2:=me.fill T 0 (fun _ _=>0)) l l' T 0 (fun p hp e he f hf hmt=>fill_at (n:=n) hA h.length 0 0 T _ (by omega) htr hdr nodT ⟨e.f2,f.f2⟩ (htg p hp e he f hf hmt)) []
      rw[List.take_nil,List.nil_append,← hZe]at this
      rw[if_pos,this]
      refine ⟨fun p hp=>?_,fun e he=>?_,fun e he=>?_,hc.1,by omega⟩
      · have:=inT p hp;exact ⟨ok_small this.1.1 (by omega),ok_small this.2.1 (by omega)⟩
      · have:=C.e0 e he;exact ok_small this.2.1 (by omega)
      have:=C.e1 e he;exact ok_small this.2.1 (by omega)
    obtain ⟨O,o1,o2,o3⟩:=gedge_sort (Z:=Z.take 2001) (by rw[List.length_take];omega)
    have olen:=o2.length_eq
    rw[List.length_take]at olen
    have sGo:∀ R:OutG,Ev (fun k=>if (Z.length:Int)>2000 then some noneG else (spec_l5Sort.f k a0 (T.length:Int) (stAll s s' 0 T 0) (c+c') Z).bind fun bt=>some (bt.1,bt.2.1,bt.2.2.1,bt.2.2.2.1,bt.2.2.2.2,true)) R→Ev (fun k=>spec_GenMeet.j0 k false a0 st s c l b0 n s' c' l') R:=by
      intro R hR
      refine sStep R (Ev.same (g:=fun k=>spec_GenMeet.l0 k A n ((0:Nat):Int) a0 st s c l b0 n s' c' l' a0 (T.length:Int) 0 (c+c') []) ?_ (fun k=>?_))
      · refine gM_l0 C hc SM.len hA h.length 0 0 T 0 [] (by omega) htr hdr inT (by omega) (Nat.zero_le _) ⟨by omega,by omega⟩ ?_
        rw[List.nil_append,← hZe]
        exact spec_rest (by omega) hR
      rw[if_neg (by omega),← hAe,← hlen];rfl
    have iGo:∀ R:OutG,Ev (fun k=>(impl_GenOk.f k a0 (T.length:Int) (stAll s s' 0 T 0) (c+c') O).bind fun b=>if b=true then some (a0,(T.length:Int),stAll s s' 0 T 0,c+c',O,true) else some noneG) R→Ev (fun k=>impl_GenMeet.j0 k false a0 st s c l b0 n s' c' l') R:=by
      intro R hR
      refine iStep R (Ev.same (g:=fun k=>impl_GenMeet.l0 k T T (T.length:Int) ((0:Nat):Int) a0 st s c l b0 n s' c' l' a0 (T.length:Int) 0 (c+c')) ?_ (fun k=>?_))
      · refine iM_l0 C T inT (by omega) T.length 0 0 (by omega) ⟨by omega,by omega⟩ (Ev.same hR (fun k=>?_))
        rw[hme2,o1,Option.bind_some,List.drop_zero]
        rfl
      rw[if_neg (by omega)];rfl
    by_cases hz:Z.length≤2000
    · rw[List.take_of_length_le (by omega)]at o2
      have hs:O=outG a0 (T.length:Int) (putG a0 (T.length:Int) Z (List.replicate ((T.length:Int) * a0 * (T.length:Int)).toNat 0)) 0 ((T.length:Int) * a0 * (T.length:Int)).toNat∧AscG O:=by
        by_cases h0:T.length=0
        · have hT0:=List.length_eq_zero_iff.1 h0
          have hO:O=[]:=by
            rw[hT0]at hZe
            rw[hZe]at o2
            exact List.perm_nil.1 o2
          have hz0:((T.length:Int) * a0 * (T.length:Int)).toNat=0:=by rw[h0];simp
          rw[hz0,hO]
          exact ⟨rfl,List.Pairwise.nil⟩
        exact sorts_eq (n:=a0) (st:=(T.length:Int)) hh.1.1 hh.1.2 (by omega) (by omega) hok2 hkeys o2 o3
      obtain ⟨e1,e2⟩:=hs
      have hE:edgesB keyG (marksOk (c+c')) a0 (T.length:Int) none O=true:=edgesB_of O e2 (fun e he=>by
        have he2:=hok e (o2.mem_iff.1 he)
        exact ⟨he2.1,inR_iff.2 ⟨he2.2.1,by omega⟩⟩) none (fun q hq=>by cases hq)
      have hgen:genOkB a0 (T.length:Int) (stAll s s' 0 T 0) (c+c') O=true:=by
        unfold genOkB headB
        rw[inR_iff.2 hh.1,inR_iff.2 ⟨by omega,by omega⟩,inR_iff.2 ⟨hS.1,by omega⟩,inR_iff.2 ⟨by omega,hcc⟩,decide_eq_true (by omega),hE]
        rfl
      have hl5:=l5Sort_eq a0 (T.length:Int) hh.1.1 hh.1.2 (by omega) (by omega) (stAll s s' 0 T 0) (c+c') Z hz hok2
      rw[← e1]at hl5
      have hl6:Ev (fun k=>(spec_l5Sort.f k a0 (T.length:Int) (stAll s s' 0 T 0) (c+c') Z).bind fun bt=>some ((bt.1,bt.2.1,bt.2.2.1,bt.2.2.2.1,bt.2.2.2.2,true):OutG)) (a0,(T.length:Int),stAll s s' 0 T 0,c+c',O,true):=
        Ev.call (b:=fun _ bt=>some ((bt.1,bt.2.1,bt.2.2.1,bt.2.2.2.1,bt.2.2.2.2,true):OutG)) hl5 (Ev.now (α:=OutG) (a0,(T.length:Int),stAll s s' 0 T 0,c+c',O,true))
      refine ⟨(a0,(T.length:Int),stAll s s' 0 T 0,c+c',O,true),sGo _ (Ev.same hl6 (fun k=>?_)),iGo _ ?_,Or.inr ⟨_,_,_,rfl,hgen⟩⟩
      · rw[if_neg (by omega)]
      refine Ev.from (2 * O.length+20) (fun k hk=>?_)
      show (impl_GenOk.f k _ _ _ _ O).bind _=_
      rw[impl_GenOk_eq _ _ _ _ O hgen k (by omega),Option.bind_some,if_pos rfl]
    have hhd:headB a0 (T.length:Int) (stAll s s' 0 T 0)=true:=by
      unfold headB
      rw[inR_iff.2 hh.1,inR_iff.2 ⟨by omega,by omega⟩,inR_iff.2 ⟨hS.1,by omega⟩];rfl
    refine ⟨noneG,sGo _ (Ev.same (Ev.now _) (fun k=>?_)),iGo _ ?_,Or.inl rfl⟩
    · rw[if_pos (by omega)]
    refine Ev.from (2 * O.length+20) (fun k hk=>?_)
    show (impl_GenOk.f k _ _ _ _ O).bind _=_
    rw[impl_GenOk_many _ _ _ _ O hhd (inR_iff.2 ⟨by omega,hcc⟩) (by omega) k,Option.bind_some,if_neg Bool.false_ne_true]
  refine ⟨noneG,sStep _ (Ev.same (Ev.now _) (fun k=>?_)),iStep _ (Ev.same (Ev.now _) (fun k=>?_)),Or.inl rfl⟩
  · rw[if_pos (by omega)]
  rw[if_pos (by omega)]
theorem meet_same {a0 st s c:Int} {l:List S58} {b0 n s' c':Int} {l':List S58} (ha:genOkB a0 st s c l=true) (hb:genOkB b0 n s' c' l'=true) (hcc:c+c'≤4) :
    ∃ R:OutG,Ev (fun k=>spec_GenMeet.f k a0 st s c l b0 n s' c' l') R∧Ev (fun k=>impl_GenMeet.f k a0 st s c l b0 n s' c' l') R∧(R=noneG∨∃ T S O,R=(a0,T,S,c+c',O,true)∧genOkB a0 T S (c+c') O=true):=by
  have l1:=(genOk_of ha).2.2.1
  have l2:=(genOk_of hb).2.2.1
  have sa:=fun k hk=>spec_GenOk_eq a0 st s c l ha k hk
  have sb:=fun k hk=>spec_GenOk_eq b0 n s' c' l' hb k hk
  have ia:=fun k hk=>impl_GenOk_eq a0 st s c l ha k hk
  have ib:=fun k hk=>impl_GenOk_eq b0 n s' c' l' hb k hk
  have sT:Ev (fun k=>spec_GenMeet.j0 k true a0 st s c l b0 n s' c' l') noneG:=Ev.step (Ev.now _) (fun k=>by simp only[spec_GenMeet.j0];rw[if_pos trivial];rfl)
  have iT:Ev (fun k=>impl_GenMeet.j0 k true a0 st s c l b0 n s' c' l') noneG:=Ev.step (Ev.now _) (fun k=>by simp only[impl_GenMeet.j0];rw[if_pos trivial];rfl)
  have hc:=inR_iff.1 (genOk_of ha).2.1
  have hc':=inR_iff.1 (genOk_of hb).2.1
  have hw:wrap64 (c+c')=c+c':=wrap64_id (by omega) (by omega)
  have hd:decide (c+c'>4)=false:=decide_eq_false (by omega)
  by_cases hab:a0=b0
  · obtain ⟨R,r1,r2,r3⟩:=meet_good ha hb hcc
    refine ⟨R,r1.late 30000 (fun k hk=>?_),r2.late 30000 (fun k hk=>?_),r3⟩
    · unfold spec_GenMeet.f
      rw[sa k (by omega),Option.bind_some,if_pos rfl,sb k (by omega),Option.bind_some,if_pos rfl,if_pos hab,hw,hd]
    unfold impl_GenMeet.f
    rw[if_pos hab,ia k (by omega),Option.bind_some,if_pos rfl,ib k (by omega),Option.bind_some,if_pos rfl,hw,hd]
  refine ⟨noneG,sT.late 30000 (fun k hk=>?_),iT.late 30000 (fun k hk=>?_),Or.inl rfl⟩
  · unfold spec_GenMeet.f
    rw[sa k (by omega),Option.bind_some,if_pos rfl,sb k (by omega),Option.bind_some,if_pos rfl,if_neg hab]
  unfold impl_GenMeet.f
  rw[if_neg hab]
abbrev OutA:Type:=Int × Int × Int × List S50 × Bool
def noneA:OutA:=(0,0,0,[],false)
theorem edges_gen {n st:Int}:∀ (L:List S50) (p:Option S50),edgesB keyE anyE n st p L=true→edgesB keyG (marksOk 1) n st (p.map gOfE) (L.map gOfE)=true
  | [],_,_=>rfl
  | e :: L,p,h=>by
    simp only[edgesB,Bool.and_eq_true]at h
    obtain ⟨h1,_,h3,h4⟩:=h
    have ih:=edges_gen L (some e) h4
    simp only[List.map_cons,edgesB,Bool.and_eq_true]
    refine ⟨h1,?_,?_,ih⟩
    · show inR (if e.f3=true then 1 else 0) 0 (bitZ 1 - 1)=true
      rw[inR_iff,show bitZ 1=2 from rfl]
      split <;> omega
    cases p with
    | none=>rfl
    | some q=>exact h3
theorem gen_ok {n st s:Int} {L:List S50} (h:autoOkB n st s L=true):genOkB n st s 1 (L.map gOfE)=true:=by
  obtain ⟨h1,h2,h3⟩:=autoOk_of h
  unfold genOkB
  have e:edgesB keyG (marksOk 1) n st none (L.map gOfE)=true:=edges_gen L none h3
  rw[h1,show inR 1 0 4=true from rfl,decide_eq_true (by rw[List.length_map];exact h2),e]
  rfl
theorem auto_same (n st s:Int) (L:List S50) (n' st' s':Int) (L':List S50) (hl:L.length≤1048576) (hl':L'.length≤1048576) :
    ∃ Z:OutA,Ev (fun k=>spec_AutoMeet.f k n st s L n' st' s' L') Z∧Ev (fun k=>impl_AutoMeet.f k n st s L n' st' s' L') Z∧Z.2.2.2.1.length≤2000:=by
  have sa:=fun k hk=>spec_AutoOk_eq n st s L (by omega) k hk
  have sb:=fun k hk=>spec_AutoOk_eq n' st' s' L' (by omega) k hk
  have ia:=fun k hk=>impl_AutoOk_eq n st s L (by omega) k hk
  have ib:=fun k hk=>impl_AutoOk_eq n' st' s' L' (by omega) k hk
  have sT:Ev (fun k=>spec_AutoMeet.j0 k true n st s L n' st' s' L') noneA:=Ev.step (Ev.now _) (fun k=>by simp only[spec_AutoMeet.j0];rw[if_pos trivial];rfl)
  have iT:Ev (fun k=>impl_AutoMeet.j0 k true n st s L n' st' s' L') noneA:=Ev.step (Ev.now _) (fun k=>by simp only[impl_AutoMeet.j0];rw[if_pos trivial];rfl)
  by_cases ha:autoOkB n st s L=true
  · by_cases hb:autoOkB n' st' s' L'=true
    · have ga:=gen_ok ha
      have gb:=gen_ok hb
      have la:=(autoOk_of ha).2.1
      have lb:=(autoOk_of hb).2.1
      obtain ⟨R,⟨k1,r1⟩,⟨k2,r2⟩,r3⟩:=meet_same ga gb (by omega)
      dsimp only at r1 r2
      have es:∀ k,k1+3000000≤k→spec_AutoMeet.f (k+1) n st s L n' st' s' L'=if R.2.2.2.2.2=true then (spec_GenDegen.f k R.1 R.2.1 R.2.2.1 R.2.2.2.1 R.2.2.2.2.1).bind fun b=>some (b.1,b.2.1,b.2.2.1,b.2.2.2.1,b.2.2.2.2) else some noneA:=fun k hk=>by
        unfold spec_AutoMeet.f
        rw[sa _ (by omega),Option.bind_some,if_pos ha,sb _ (by omega),Option.bind_some,hb]
        simp only[spec_AutoMeet.j0]
        rw[if_neg (by simp),spec_GenOf_eq n st s L (by omega) k (by omega),Option.bind_some,spec_GenOf_eq n' st' s' L' (by omega) k (by omega),Option.bind_some]
        unfold genOfA
        rw[if_pos ha,if_pos hb]
        dsimp only
        rw[r1 k (by omega),Option.bind_some]
        rfl
      have ei:∀ k,k2+3000000≤k→impl_AutoMeet.f (k+1) n st s L n' st' s' L'=if R.2.2.2.2.2=true then (impl_GenDegen.f k R.1 R.2.1 R.2.2.1 R.2.2.2.1 R.2.2.2.2.1).bind fun b=>some (b.1,b.2.1,b.2.2.1,b.2.2.2.1,b.2.2.2.2) else some noneA:=fun k hk=>by
        unfold impl_AutoMeet.f
        rw[ia _ (by omega),Option.bind_some,if_pos ha,ib _ (by omega),Option.bind_some,hb]
        simp only[impl_AutoMeet.j0]
        rw[if_neg (by simp),impl_genOf_eq n st s L (by omega) k (by omega),Option.bind_some,impl_genOf_eq n' st' s' L' (by omega) k (by omega),Option.bind_some]
        dsimp only
        rw[r2 k (by omega),Option.bind_some]
        rfl
      rcases r3 with rfl|⟨T,S,O,rfl,hg⟩
      · refine ⟨noneA,⟨k1+3000001,fun k hk=>?_⟩,⟨k2+3000001,fun k hk=>?_⟩,Nat.zero_le _⟩
        · obtain ⟨k,rfl⟩:=succ_of (show 0<k by omega)
          exact (es k (by omega)).trans (if_neg (by unfold noneG;simp))
        obtain ⟨k,rfl⟩:=succ_of (show 0<k by omega)
        exact (ei k (by omega)).trans (if_neg (by unfold noneG;simp))
      refine ⟨degenZ n T S (1+1) O,⟨k1+3000001,fun k hk=>?_⟩,⟨k2+3000001,fun k hk=>?_⟩,degenZ_length _ _ _ _ _⟩
      · obtain ⟨k,rfl⟩:=succ_of (show 0<k by omega)
        refine (es k (by omega)).trans ?_
        dsimp only
        rw[if_pos rfl,spec_GenDegen_eq n T S (1+1) O hg k (by omega),Option.bind_some]
      obtain ⟨k,rfl⟩:=succ_of (show 0<k by omega)
      refine (ei k (by omega)).trans ?_
      dsimp only
      rw[if_pos rfl,impl_GenDegen_eq n T S (1+1) O hg (by omega) k (by omega),Option.bind_some]
    have hb':autoOkB n' st' s' L'=false:=by simpa using hb
    refine ⟨noneA,sT.late 3000000 (fun k hk=>?_),iT.late 3000000 (fun k hk=>?_),Nat.zero_le _⟩
    · unfold spec_AutoMeet.f
      rw[sa k (by omega),Option.bind_some,if_pos ha,sb k (by omega),Option.bind_some,hb'];rfl
    unfold impl_AutoMeet.f
    rw[ia k (by omega),Option.bind_some,if_pos ha,ib k (by omega),Option.bind_some,hb'];rfl
  refine ⟨noneA,sT.late 3000000 (fun k hk=>?_),iT.late 3000000 (fun k hk=>?_),Nat.zero_le _⟩
  · unfold spec_AutoMeet.f
    rw[sa k (by omega),Option.bind_some,if_neg ha]
  unfold impl_AutoMeet.f
  rw[ia k (by omega),Option.bind_some,if_neg ha]
end hFnExactAutoMeet
open hFnExactAutoMeet
theorem FnExactAutoMeet:laws_FnExactAutoMeet.Pure:=by
  intro n st s l n' st' s' l' _ _ _ hl _ _ _ _ hl' _
  obtain ⟨M,hM⟩:∃ M,M=1048576:=⟨_,rfl⟩
  have go:∀ z:Int,0≤z→z≤1048576→laws_szAuto.f n st s l 1048576=some z→∃ k,laws_FnExactAutoMeet.f k n st s l n' st' s' l'=some true:=by
    intro z z0 z1 hz
    have hzl:(l.length:Int)≤1048576:=by
      rw[szAuto_eq n st s l 1048576 (by omega) (by omega) hl]at hz
      have:=Option.some.inj hz
      split at this <;> omega
    by_cases h:z<l'.length
    · refine ⟨0,?_⟩
      unfold laws_FnExactAutoMeet.f
      rw[hz,Option.bind_some,if_neg (by omega),szAuto_eq n' st' s' l' z (by omega) (by omega) hl',Option.bind_some,if_pos h,if_pos (by omega)]
    obtain ⟨R,⟨k1,r1⟩,⟨k2,r2⟩,r3⟩:=auto_same n st s (l.map convE) n' st' s' (l'.map convE) (by rw[List.length_map];omega) (by rw[List.length_map];omega)
    dsimp only at r1 r2
    have hm:(l.map convE).length=l.length:=List.length_map _
    have hm':(l'.map convE).length=l'.length:=List.length_map _
    obtain ⟨K,hK⟩:∃ K,K=8 * M+k1+k2+300000:=⟨_,rfl⟩
    refine ⟨K,?_⟩
    have e1:∀ k:Nat,M+1<k→laws_toAuto.f k n st s l=some (n,st,s,l.map convE):=fun k hk=>toAuto_eq n st s l (by omega) k (by omega)
    have e2:∀ k:Nat,M+1<k→laws_toAuto.f k n' st' s' l'=some (n',st',s',l'.map convE):=fun k hk=>toAuto_eq n' st' s' l' (by omega) k (by omega)
    unfold laws_FnExactAutoMeet.f
    rw[hz,Option.bind_some,if_neg (by omega),szAuto_eq n' st' s' l' z (by omega) (by omega) hl',Option.bind_some,if_neg h,if_neg (by omega),e1 K (by omega),Option.bind_some,e2 K (by omega),Option.bind_some]
    dsimp only
    rw[r1 K (by omega),Option.bind_some,Option.bind_some,Option.bind_some]
    dsimp only
    rw[r2 K (by omega),Option.bind_some]
    obtain ⟨q1,q2,q3,q4,q5⟩:=R
    dsimp only at r1 r2 r3 ⊢
    rw[eqAuto_eq _ _ _ _ (by omega) K (by omega),Option.bind_some,if_pos rfl,if_neg (by simp),Option.bind_some]
    dsimp only
    rw[eqAuto_eq _ _ _ _ (by omega) K (by omega),Option.bind_some,if_pos rfl,Option.bind_some]
    dsimp only
    rw[eqAuto_eq _ _ _ _ (by omega) K (by omega),Option.bind_some,if_pos rfl,markAuto_eq _ _ _ _ 1 (by omega) (by omega) (by omega) K (by omega),Option.bind_some]
    dsimp only
    rw[markAuto_eq _ _ _ _ _ (by omega) (by omega) (by omega) K (by omega),Option.bind_some]
    dsimp only
    rw[if_neg (by omega),Option.bind_some,if_pos rfl,markAuto_eq _ _ _ _ 1 (by omega) (by omega) (by omega) K (by omega),Option.bind_some]
    dsimp only
    rw[heldAuto_eq _ _ _ _ 1 (by omega) (by omega) (by omega) K (by omega),Option.bind_some,if_neg (by omega),if_pos rfl,Option.bind_some]
    dsimp only
    rw[Option.bind_some]
    dsimp only
    rw[r2 K (by omega),Option.bind_some]
    dsimp only
    rw[eqAuto_eq _ _ _ _ (by omega) K (by omega),Option.bind_some,if_pos rfl,if_neg (by simp)]
    rw[Option.bind_some,if_neg (by omega),if_pos rfl]
  by_cases h:(1048576:Int)<l.length
  · refine ⟨0,?_⟩
    unfold laws_FnExactAutoMeet.f
    rw[szAuto_eq n st s l 1048576 (by omega) (by omega) hl,Option.bind_some,if_pos h,if_pos (by omega)]
  exact go (1048576 - l.length) (by omega) (by omega) (by rw[szAuto_eq n st s l 1048576 (by omega) (by omega) hl,if_neg h])
end Go.Proofs.YtkpeajafgldpbaaGreat.Pure
