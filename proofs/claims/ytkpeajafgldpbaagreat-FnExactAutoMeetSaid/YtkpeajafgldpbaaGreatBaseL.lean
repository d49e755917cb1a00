import Derived.Test.YtkpeajafgldpbaaGreatBase
namespace Go.Proofs.YtkpeajafgldpbaaGreat.Base
open Go Go.RowKit Go.Proofs.YtkpeajafgldpbaaGreatW.PrintWords
theorem wrap64_id {n:Int} (h0:-9223372036854775808≤n) (h1:n≤9223372036854775807):wrap64 n=n:=by unfold wrap64;omega
theorem wrap64_succ {i:Nat} (h:i<9223372036854775807):wrap64 ((i:Int)+1)=((i+1:Nat):Int):=by rw[wrap64_id (by omega) (by omega)];omega
theorem succ_of {d k:Nat} (h:d<k):∃ m,k=m+1:=⟨k - 1,by omega⟩
theorem rd_at {l:List Int} {i:Nat} (h:i<l.length):rd l (i:Int)=l[i]:=by
  simp[rd,List.getD_eq_getElem?_getD,List.getElem?_eq_getElem h]
theorem take_set_drop {α:Type} {l rest:List α} {i:Nat} (hi:i<l.length) (hr:i+rest.length=l.length):(l.take i ++ rest).set i l[i]=l.take (i+1) ++ rest.tail:=by
  cases rest with
  | nil=>simp at hr;omega
  | cons r rest=>
    have e:(l.take i).length=i:=by rw[List.length_take];omega
    rw[List.set_append_right _ _ (by omega),e,Nat.sub_self,List.set_cons_zero,List.tail_cons]
    rw[List.take_succ_eq_append_getElem hi,List.append_assoc]
    rfl
theorem take_set_self {α:Type} {l:List α} {i:Nat} {v:α} (hi:i<l.length):(l.set i v).take (i+1)=l.take i ++ [v]:=by
  rw[List.take_succ_eq_append_getElem (by rw[List.length_set];exact hi),List.getElem_set_self,List.take_set_of_le (by omega)]
theorem drop_cons {α:Type} {l:List α} {i:Nat} (h:i<l.length):l.drop i=l[i] :: l.drop (i+1):=List.drop_eq_getElem_cons h
end Go.Proofs.YtkpeajafgldpbaaGreat.Base
