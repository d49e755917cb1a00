import Derived.Test.YtbfghpbmalpdbaaBaseA
namespace Go.Proofs.Ytbfghpbmalpdbaa.Base
open Go Go.RowKit Go.Proofs.YtbfghpbmalpdbaaW.PrintWords
theorem edgesB_wide {E:Type} {key:E→Key} {more:E→Bool} {n st st2:Int} (h:st≤st2) {l:List E}:∀ {p:Option E},edgesB key more n st p l=true→edgesB key more n st2 p l=true:=by
  induction l with
  | nil=>intros;rfl
  | cons e l ih=>
    intro p hl
    simp only[edgesB,Bool.and_eq_true]at hl ⊢
    obtain ⟨h1,h2,h3,h4⟩:=hl
    refine ⟨?_,h2,h3,ih h4⟩
    rw[stOk_iff]at h1 ⊢
    omega
theorem edgesB_append {E:Type} {key:E→Key} {more:E→Bool} {n st:Int} {m:List E} (hm:edgesB key more n st none m=true) {l:List E} :
    ∀ {p:Option E},edgesB key more n st p l=true→(∀ q,p=some q→∀ e∈m,lessK (key q) (key e)=true)→(∀ q∈l,∀ e∈m,lessK (key q) (key e)=true)→edgesB key more n st p (l ++ m)=true:=by
  induction l with
  | nil=>
    intro p _ hp _
    rw[List.nil_append]
    cases m with
    | nil=>rfl
    | cons e m=>
      simp only[edgesB,Bool.and_eq_true]at hm ⊢
      refine ⟨hm.1,hm.2.1,?_,hm.2.2.2⟩
      cases p with
      | none=>rfl
      | some q=>exact hp q rfl e (List.mem_cons_self ..)
  | cons e l ih=>
    intro p hl hp hq
    rw[List.cons_append]
    simp only[edgesB,Bool.and_eq_true]at hl ⊢
    obtain ⟨h1,h2,h3,h4⟩:=hl
    refine ⟨h1,h2,h3,ih h4 ?_ ?_⟩
    · intro q e'
      obtain rfl:=Option.some.inj e'
      exact hq e (List.mem_cons_self ..)
    exact fun q h=>hq q (List.mem_cons_of_mem _ h)
def movedK (c:Int) (k:Key):Key:=(k.1+c,k.2.1,k.2.2+c)
theorem lessK_moved (c:Int) (a b:Key):lessK (movedK c a) (movedK c b)=lessK a b:=by
  rw[Bool.eq_iff_iff,lessK_iff,lessK_iff]
  simp only[movedK]
  omega
theorem edgesB_moved {E:Type} {key:E→Key} {more:E→Bool} {n st c:Int} (hc:0≤c) (f:E→E) (hf:∀ e,more (f e)=more e) {l:List E} :
    ∀ {p:Option E},edgesB key more n st p l=true→(∀ q,p=some q→key (f q)=movedK c (key q))→(∀ e∈l,key (f e)=movedK c (key e))→edgesB key more n (st+c) (p.map f) (l.map f)=true:=by
  induction l with
  | nil=>intros;rfl
  | cons e l ih=>
    intro p hl hp hk
    rw[List.map_cons]
    simp only[edgesB,Bool.and_eq_true]at hl ⊢
    obtain ⟨h1,h2,h3,h4⟩:=hl
    have he:=hk e (List.mem_cons_self ..)
    refine ⟨?_,(hf e).trans h2,?_,?_⟩
    · rw[he]
      rw[stOk_iff]at h1 ⊢
      simp only[movedK]
      omega
    · cases p with
      | none=>rfl
      | some q=>
        simp only[Option.map_some,aheadK]at h3 ⊢
        rw[he,hp q rfl,lessK_moved]
        exact h3
    have:=ih (p:=some e) h4 (fun q e'=>by obtain rfl:=Option.some.inj e';exact he) (fun e' h=>hk e' (List.mem_cons_of_mem _ h))
    simpa only [Option.map_some] using this
theorem bitZ_add {a b:Int} (ha:0≤a) (hb:0≤b):bitZ (a+b)=bitZ a * bitZ b:=by
  obtain ⟨m,rfl⟩:=Int.eq_ofNat_of_zero_le ha
  obtain ⟨n,rfl⟩:=Int.eq_ofNat_of_zero_le hb
  rw[show (m:Int)+n=((m+n:Nat):Int) by omega,bitZ_nat,bitZ_nat,bitZ_nat,Nat.pow_add]
  exact Int.natCast_mul ..
theorem or_shl (s t a b:Int) (hs:0≤s) (hs1:s<bitZ a) (ht:0≤t) (ht1:t<bitZ b) (ha:0≤a) (hb:0≤b) (hab:a+b≤31) :
    0≤Go.bits .or .i64 s (shl .i64 t a)∧Go.bits .or .i64 s (shl .i64 t a)<bitZ (a+b):=by
  obtain ⟨m,rfl⟩:=Int.eq_ofNat_of_zero_le ha
  obtain ⟨n,rfl⟩:=Int.eq_ofNat_of_zero_le hb
  obtain ⟨x,rfl⟩:=Int.eq_ofNat_of_zero_le hs
  obtain ⟨y,rfl⟩:=Int.eq_ofNat_of_zero_le ht
  rw[bitZ_nat]at hs1 ht1
  have h31:=pow_le_31 (n:=m+n) (by omega)
  have hx:x<2 ^ m:=by omega
  have hy:y<2 ^ n:=by omega
  have hm:2 ^ m≤2 ^ (m+n):=Nat.pow_le_pow_right (by decide) (by omega)
  have hy2:y * 2 ^ m<2 ^ (m+n):=by
    rw[Nat.pow_add,Nat.mul_comm (2 ^ m)]
    exact Nat.mul_lt_mul_of_pos_right hy (Nat.two_pow_pos m)
  have hn63:=nat63
  rw[shl_pow y m (by omega) (by omega),i64_or _ _ (by omega) (by omega),show (m:Int)+n=((m+n:Nat):Int) by omega,bitZ_nat]
  have:=Nat.or_lt_two_pow (x:=x) (y:=y * 2 ^ m) (n:=m+n) (by omega) hy2
  omega
end Go.Proofs.Ytbfghpbmalpdbaa.Base
