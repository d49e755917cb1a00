import Derived.Test.YtkpeajafgldpbaaGreatBaseL
namespace Go.Proofs.YtkpeajafgldpbaaGreat.Base
open Go Go.RowKit Go.Proofs.YtkpeajafgldpbaaGreatW.PrintWords
def headB (n st s:Int):Bool:=inR n 1 8 && (inR st 0 31 && inR s 0 (bitZ st - 1))
theorem head_of {n st s:Int} (h:headB n st s=true):(1≤n∧n≤8)∧(0≤st∧st≤31)∧0≤s∧s<bitZ st∧s≤2147483647:=by
  simp only[headB,Bool.and_eq_true,inR_iff]at h
  have:=bitZ_le31 (i:=st) (by omega)
  omega
theorem and_mask (s st:Int) (h0:0≤s) (h1:s<9223372036854775808) (h2:0≤st) (h3:st≤31):Go.bits .and .i64 s (bitZ st - 1)=s % bitZ st:=by
  obtain ⟨a,rfl⟩:=Int.eq_ofNat_of_zero_le h0
  obtain ⟨n,rfl⟩:=Int.eq_ofNat_of_zero_le h2
  have hp:=pow_le_31 (n:=n) (by omega)
  have hq:=Nat.two_pow_pos n
  rw[bitZ_nat,show ((2 ^ n:Nat):Int) - 1=((2 ^ n - 1:Nat):Int) by omega,i64_and _ _ (by omega) (by omega),Nat.and_two_pow_sub_one_eq_mod]
  exact Int.natCast_emod a (2 ^ n)
theorem in_mask (s st:Int) (h2:0≤st) (h3:st≤31):(okB s && okB (bitZ st - 1) && (Go.bits .and .i64 s (bitZ st - 1) == s))=inR s 0 (bitZ st - 1):=by
  have hp:=bitZ_pos st
  have hq:=bitZ_le31 h3
  rw[Bool.eq_iff_iff]
  simp only[Bool.and_eq_true,okB,inR_iff,beq_iff_eq]
  constructor
  · rintro ⟨⟨h,_⟩,e⟩
    rw[and_mask s st h.1 (by omega) h2 h3]at e
    have:=Int.emod_lt_of_pos s hp
    omega
  intro h
  refine ⟨⟨by omega,by omega⟩,?_⟩
  rw[and_mask s st h.1 (by omega) h2 h3]
  exact Int.emod_eq_of_lt h.1 (by omega)
abbrev Key:Type:=Int × Int × Int
def lessK (a b:Key):Bool:=if a.1=b.1 then (if a.2.1=b.2.1 then decide (a.2.2<b.2.2) else decide (a.2.1<b.2.1)) else decide (a.1<b.1)
def cmpZ (a b:Int):Int:=if a<b then -1 else if a>b then 1 else 0
def orZ (a b c:Int):Int:=if a=0 then (if b=0 then c else b) else a
def cmpK (a b:Key):Int:=orZ (cmpZ a.1 b.1) (cmpZ a.2.1 b.2.1) (cmpZ a.2.2 b.2.2)
theorem cmpZ_cases (a b:Int):(a<b∧cmpZ a b=-1)∨(b<a∧cmpZ a b=1)∨(a=b∧cmpZ a b=0):=by
  unfold cmpZ
  by_cases h:a<b
  · rw[if_pos h];omega
  rw[if_neg h]
  by_cases h':a>b
  · rw[if_pos h'];omega
  rw[if_neg h'];omega
theorem cmpK_neg (a b:Key):(cmpK a b ≥ 0)↔¬ lessK a b=true:=by
  obtain ⟨a0,a1,a2⟩:=a
  obtain ⟨b0,b1,b2⟩:=b
  simp only[cmpK,lessK,orZ]
  rcases cmpZ_cases a0 b0 with ⟨h,e⟩|⟨h,e⟩|⟨h,e⟩
  · rw[e,if_neg (by omega),if_neg (by omega)];simp;omega
  · rw[e,if_neg (by omega),if_neg (by omega)];simp;omega
  rw[e,if_pos rfl,if_pos h]
  rcases cmpZ_cases a1 b1 with ⟨h,e⟩|⟨h,e⟩|⟨h,e⟩
  · rw[e,if_neg (by omega),if_neg (by omega)];simp;omega
  · rw[e,if_neg (by omega),if_neg (by omega)];simp;omega
  rw[e,if_pos rfl,if_pos h]
  rcases cmpZ_cases a2 b2 with ⟨h,e⟩|⟨h,e⟩|⟨h,e⟩ <;> rw[e] <;> simp <;> omega
theorem cmpK_zero (a b:Key):cmpK a b=0↔a=b:=by
  obtain ⟨a0,a1,a2⟩:=a
  obtain ⟨b0,b1,b2⟩:=b
  simp only[cmpK,orZ,Prod.mk.injEq]
  rcases cmpZ_cases a0 b0 with ⟨h,e⟩|⟨h,e⟩|⟨h,e⟩
  · rw[e,if_neg (by omega)];omega
  · rw[e,if_neg (by omega)];omega
  rw[e,if_pos rfl]
  rcases cmpZ_cases a1 b1 with ⟨h,e⟩|⟨h,e⟩|⟨h,e⟩
  · rw[e,if_neg (by omega)];omega
  · rw[e,if_neg (by omega)];omega
  rw[e,if_pos rfl]
  rcases cmpZ_cases a2 b2 with ⟨h,e⟩|⟨h,e⟩|⟨h,e⟩ <;> rw[e] <;> omega
theorem lessK_iff (a b:Key):lessK a b=true↔a.1<b.1∨(a.1=b.1∧(a.2.1<b.2.1∨(a.2.1=b.2.1∧a.2.2<b.2.2))):=by
  unfold lessK
  by_cases h:a.1=b.1
  · rw[if_pos h]
    by_cases h':a.2.1=b.2.1
    · rw[if_pos h'];simp;omega
    rw[if_neg h'];simp;omega
  rw[if_neg h];simp;omega
def stOk (n st:Int) (e:Key):Bool:=inR e.1 0 (st - 1) && (inR e.2.2 0 (st - 1) && inR e.2.1 0 (n - 1))
theorem stOk_iff {n st:Int} {e:Key}:stOk n st e=true↔(0≤e.1∧e.1≤st - 1)∧(0≤e.2.2∧e.2.2≤st - 1)∧(0≤e.2.1∧e.2.1≤n - 1):=by
  simp only[stOk,Bool.and_eq_true,inR_iff]
def aheadK {E:Type} (key:E→Key) (p:Option E) (e:E):Bool:=match p with|none=>true|some q=>lessK (key q) (key e)
def edgesB {E:Type} (key:E→Key) (more:E→Bool) (n st:Int):Option E→List E→Bool
  | _,[]=>true
  | p,e :: es=>stOk n st (key e) && (more e && (aheadK key p e && edgesB key more n st (some e) es))
def prevOf {E:Type} (l:List E) (i:Nat):Option E:=match i with|0=>none|j+1=>l[j]?
theorem prevOf_succ {E:Type} (l:List E) (i:Nat) (h:i<l.length):prevOf l (i+1)=some l[i]:=List.getElem?_eq_getElem h
theorem edgesB_mem {E:Type} {key:E→Key} {more:E→Bool} {n st:Int} {p:Option E} {l:List E} (h:edgesB key more n st p l=true) {e:E} (he:e∈l):stOk n st (key e)=true∧more e=true:=by
  induction l generalizing p with
  | nil=>simp at he
  | cons x l ih=>
    simp only[edgesB,Bool.and_eq_true]at h
    obtain ⟨h1,h2,h3,h4⟩:=h
    rcases List.mem_cons.1 he with rfl|he
    · exact ⟨h1,h2⟩
    exact ih h4 he
end Go.Proofs.YtkpeajafgldpbaaGreat.Base
