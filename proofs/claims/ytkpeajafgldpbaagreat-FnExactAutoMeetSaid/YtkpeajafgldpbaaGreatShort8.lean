import Derived.Test.YtkpeajafgldpbaaGreatShort6
namespace Go.Proofs.YtkpeajafgldpbaaGreat.Short8
open Go Go.RowKit Go.Proofs.YtkpeajafgldpbaaGreatW.PrintWords Go.Proofs.YtkpeajafgldpbaaGreatW.PrintLast Go.Proofs.YtkpeajafgldpbaaGreatW.PrintMore Go.Proofs.YtkpeajafgldpbaaGreat.Short2 Go.Proofs.YtkpeajafgldpbaaGreat.Short6
theorem iT {α:Type} {a b r:α} {d:Decidable (true=true)} (h:(@ite α (true=true) d a b)=r):a=r:=(if_pos rfl).symm.trans h
theorem iF {α:Type} {a b r:α} {d:Decidable (false=true)} (h:(@ite α (false=true) d a b)=r):b=r:=(if_neg Bool.false_ne_true).symm.trans h
theorem gd {α:Type} {c:Prop} {d:Decidable c} {x:Option α} {r:α} (H:(if c then x else none)=some r):decide c=true∧x=some r:=by
  by_cases h:c
  · rw[if_pos h]at H;exact ⟨decide_eq_true h,H⟩
  rw[if_neg h]at H;cases H
theorem gz {α:Type} {a b:Int} {x:Option α} {r:α} (H:(if a=b then none else x)=some r):¬ a=b∧(a == b)=false∧(a != b)=true∧x=some r:=by
  by_cases h:a=b
  · rw[if_pos h]at H;cases H
  rw[if_neg h]at H;exact ⟨h,beq_eq_false_iff_ne.mpr h,bne_iff_ne.mpr h,H⟩
theorem oB {w:World} {g:Nat} {o:Obj} (B:Aside0 (w.heap[g]?=some o)):Aside0 (w.drew.heap[g]?=some o):=⟨blk_drew B.out⟩
theorem oR {α:Type} {d:Kd α} {e base:Nat} {w:World} {ok:Nat→Prop} {v:Value} {xs:List α} (H:Aside0 (d.R e w base ok v xs)):Aside0 (d.R e w.drew base ok v xs):=⟨Kd.R_drew H.out⟩
theorem oS {w W:World} {n:Nat} (H:Aside0 (Below n w W)):Aside0 (Below n w W.drew):=⟨below_drew1 H.out⟩
theorem dB_ {w w':World} {g:Nat} {o:Obj} (h:w.heap[g]?=some o) (hs:w.heap[g]?=some o→w'.heap[g]?=some o:=by (intro h_;(with_reducible repeat (first|refine blk_drewN ?_ _|refine blk_drew ?_|refine blk_alloc ?_ _));exact h_)):w'.heap[g]?=some o:=hs h
theorem dR_ {α:Type} {d:Kd α} {e base:Nat} {w w':World} {ok:Nat→Prop} {v:Value} {xs:List α} (h:d.R e w base ok v xs) (hs:d.R e w base ok v xs→d.R e w' base ok v xs:=by (intro h_;(with_reducible repeat (first|apply Kd.R_alloc|apply Kd.R_drewN|apply Kd.R_drew));exact h_)):d.R e w' base ok v xs:=hs h
def bvL:Nat→Nat→List Bool
  | 0,_=>[]
  | n+1,m=>(m % 2 == 1) :: bvL n (m / 2)
def bv (n m:Nat):Array Bool:=⟨bvL n m⟩
theorem bv_0 (n:Nat):Array.replicate n false=bv n 0:=by
  have h:∀ n,List.replicate n false=bvL n 0:=by
    intro n
    induction n with
    | zero=>rfl
    | succ n ih=>rw[List.replicate_succ,ih];rfl
  unfold bv
  rw[← h,← List.toArray_replicate]
@[reducible] def k2 (b:Nat) (x y:Value) (P:World→Prop) (w:World):Prop:=w.cell? ⟨b,0,none⟩=some x∧w.cell? ⟨b,1,none⟩=some y∧P w
@[reducible] def j2 (b:Nat) (x y:Value) (w:World):Prop:=w.cell? ⟨b,0,none⟩=some x∧w.cell? ⟨b,1,none⟩=some y
@[reducible] def k4 (b:Nat) (x y z u:Value) (P:World→Prop) (w:World):Prop:=w.cell? ⟨b,0,none⟩=some x∧w.cell? ⟨b,1,none⟩=some y∧w.cell? ⟨b,2,none⟩=some z∧w.cell? ⟨b,3,none⟩=some u∧P w
@[reducible] def j4 (b:Nat) (x y z u:Value) (w:World):Prop:=w.cell? ⟨b,0,none⟩=some x∧w.cell? ⟨b,1,none⟩=some y∧w.cell? ⟨b,2,none⟩=some z∧w.cell? ⟨b,3,none⟩=some u
@[reducible] def k5 (b:Nat) (x y z u v:Value) (P:World→Prop) (w:World):Prop:=w.cell? ⟨b,0,none⟩=some x∧w.cell? ⟨b,1,none⟩=some y∧w.cell? ⟨b,2,none⟩=some z∧w.cell? ⟨b,3,none⟩=some u∧w.cell? ⟨b,4,none⟩=some v∧P w
@[reducible] def j5 (b:Nat) (x y z u v:Value) (w:World):Prop:=w.cell? ⟨b,0,none⟩=some x∧w.cell? ⟨b,1,none⟩=some y∧w.cell? ⟨b,2,none⟩=some z∧w.cell? ⟨b,3,none⟩=some u∧w.cell? ⟨b,4,none⟩=some v
section
variable {w:World} {b t:Nat} {x y z u v:Value}
theorem h2 {P:World→Prop} (B:Aside0 (w.heap[b]?=some (.cells #[x,y] t (0,0)))) (q:P w):k2 b x y P w:=⟨b1 B 0,b1 B 1,q⟩
theorem e2 (B:Aside0 (w.heap[b]?=some (.cells #[x,y] t (0,0)))):j2 b x y w:=⟨b1 B 0,b1 B 1⟩
theorem h4 {P:World→Prop} (B:Aside0 (w.heap[b]?=some (.cells #[x,y,z,u] t (0,0)))) (q:P w):k4 b x y z u P w:=⟨b1 B 0,b1 B 1,b1 B 2,b1 B 3,q⟩
theorem e4 (B:Aside0 (w.heap[b]?=some (.cells #[x,y,z,u] t (0,0)))):j4 b x y z u w:=⟨b1 B 0,b1 B 1,b1 B 2,b1 B 3⟩
theorem h5 {P:World→Prop} (B:Aside0 (w.heap[b]?=some (.cells #[x,y,z,u,v] t (0,0)))) (q:P w):k5 b x y z u v P w:=⟨b1 B 0,b1 B 1,b1 B 2,b1 B 3,b1 B 4,q⟩
theorem e5 (B:Aside0 (w.heap[b]?=some (.cells #[x,y,z,u,v] t (0,0)))):j5 b x y z u v w:=⟨b1 B 0,b1 B 1,b1 B 2,b1 B 3,b1 B 4⟩
end
section
variable {P:Program} {ops:Array Oper} {Q:Exit→Act→World→Prop} {md:Region.Mode} {S:World→Prop} {ds:List Nat} {T:Bool × List (List Nat × List Nat)} {B:List Nat} {fuel n m':Nat} {a:Act} {w:World}
theorem st (n:Nat) (ds:List Nat) {id:Nat} (hS:S w.drew) (h:S w.drew→wpAnyLast P .any ops Q S ds n (bv n 0) a w.drew) (hm:P.follows .mixedOrders=true:=by kernel_rfl) (hn:ops.size=n:=by rfl):(Code.region id ops true).wp P Q a w:=
  start_ _ hm hn (bv_0 n) hS h
theorem sw (n:Nat) (ds:List Nat) {id:Nat} (hT:rtab .any ops=T) (hB:waitsOk T.2 B=true) (hS:S w.drew) (h:Aside0 (rtab .any ops=T)→Aside0 (waitsOk T.2 B=true)→S w.drew→wpAnyLast P .any ops Q S ds n (bv n 0) a w.drew) (hm:P.follows .mixedOrders=true:=by kernel_rfl) (hn:ops.size=n:=by rfl):(Code.region id ops true).wp P Q a w:=
  start_ _ hm hn (bv_0 n) hS (h ⟨hT⟩ ⟨hB⟩)
theorem pv (i N m:Nat) {a':Act} (h:wpAnyLast P md ops Q S ds fuel (bv n m) a' w) (hT:Aside0 (rtab md ops=T):=by exact HT_) {oi:Oper} {v:Value}
    (hi:ops[i]?=some oi:=by exact rfl) (hN:oi.dst=some N:=by exact rfl) (hw:Region.wanted oi (yielded ops a.tmps)=true:=by rfl) (hr:∀ w',(execOp a.eval oi).run P w'=.ok (.value v) w':=by (intro w';go_simp;with_reducible rfl))
    (ha:a.put (some N) v=a':=by (simp only[Act.put,q5];rfl)) (hc:anyT T (bv n m').toList (bv n m).toList i=true:=by as_aux_lemma=>kernel_rfl) (hQ:∀ c a w,Q (.panic c) (a.put oi.dst v) w→Q (.panic c) a w:=by exact fun _ _ _ h=>h):wpAnyLast P md ops Q S ds (fuel+1) (bv n m') a w:=
  pv_ i (some N) (bv n m) hT h hi hN hw hr ha hc hQ
theorem pn (i N m:Nat) {a':Act} (h:wpAnyLast P md ops Q S ds fuel (bv n m) a' w) (hT:Aside0 (rtab md ops=T):=by exact HT_) {oi:Oper}
    (hi:ops[i]?=some oi:=by exact rfl) (hN:oi.dst=some N:=by exact rfl) (hw:Region.wanted oi (yielded ops a.tmps)=false:=by rfl)
    (ha:a.put (some N) undef=a':=by (simp only[Act.put,q5];rfl)) (hc:anyT T (bv n m').toList (bv n m).toList i=true:=by as_aux_lemma=>kernel_rfl) (hQ:∀ c a w,Q (.panic c) (a.put oi.dst undef) w→Q (.panic c) a w:=by exact fun _ _ _ h=>h):wpAnyLast P md ops Q S ds (fuel+1) (bv n m') a w:=
  pn_ i (some N) (bv n m) hT h hi hN hw ha hc hQ
theorem tk (i N m:Nat) {a':Act} (h:wpAnyLast P md ops Q S ds fuel (bv n m) a' w) (hT:Aside0 (rtab md ops=T):=by exact HT_) (hB:Aside0 (waitsOk T.2 B=true):=by exact HW_) (hS:S w:=by exact hHeld) {oi:Oper} {v:Value}
    (hi:ops[i]?=some oi:=by exact rfl) (hN:oi.dst=some N:=by exact rfl) (hw:Region.wanted oi (yielded ops a.tmps)=true:=by rfl) (hr:∀ w',S w'→(execOp a.eval oi).run P w'=.ok (.value v) w':=by (intro w' s_;(repeat (first|(obtain ⟨_,s_⟩:=s_)|skip;done));go_simp;with_reducible rfl))
    (ha:a.put (some N) v=a':=by (simp only[Act.put,q5];rfl)) (hc:takeW T B ds (bv n m').toList (bv n m).toList i=true:=by as_aux_lemma=>kernel_rfl) (hQ:∀ c a w,Q (.panic c) (a.put oi.dst v) w→Q (.panic c) a w:=by exact fun _ _ _ h=>h):wpAnyLast P md ops Q S ds (fuel+1) (bv n m') a w:=
  tk_ i (some N) (bv n m) hT hB hS h hi hN hw hr ha hc hQ
theorem on (i:Nat) (N:Option Tmp) (m:Nat) {oi:Oper}
    (h:∀ K:Act→World→Prop,Shut (∀ a' w',S w'→(S w'→wpAnyLast P md ops Q S ds fuel (bv n m) a' w')→K a' w')→if Region.wanted oi (yielded ops a.tmps)=true then Oper.wp P oi a w K Q else K (a.put N undef) w)
    (hT:Aside0 (rtab md ops=T):=by exact HT_) (hi:ops[i]?=some oi:=by exact rfl) (hN:oi.dst=N:=by exact rfl) (hc:(readyT T.2 (bv n m').toList == [i] && (bv n m').toList.set i true == (bv n m).toList)=true:=by as_aux_lemma=>kernel_rfl) (hd:i∉ds:=by decide):wpAnyLast P md ops Q S ds (fuel+1) (bv n m') a w:=
  on_ i N (bv n m) hT h hi hN hc hd
theorem gl2_ {rest:List Oper} {oi:Oper} (N:Option Tmp) {f:FuncId} {fn:Func} {ao_:Array Operand} {ts:Array TypeId} (hf:P.funcs[f]?=some fn) {args:Array Value} {R:Ending→World→Prop} (hC:Calls P f args w R)
    (h : ∀ e w', R e w' → ∃ v, e = .returned v ∧ wpList P ops Q rest (a.put N v) w') (hd : oi.dst = N := by exact rfl) (hg : oi.guard = none := by exact rfl) (hname : (fn.name == "runtime.NumGoroutine") = false := by as_aux_lemma => kernel_rfl) (hb : fn.body.isSome = true := by exact rfl)
    (hop:oi.op=.call { callee:=.value (.func f),args:=ao_,argTypes:=ts }:=by exact rfl) (hargs:ao_.map a.eval=args:=by (try simp only[m3]);first|done|rfl|(simp only[d2];rfl)):wpList P ops Q (oi :: rest) a w:=gl_ N hf args (hC.mono h) hd hg hname hb hop hargs
theorem gs2_ {oi:Oper} {N:Option Tmp} {K:Act→World→Prop} {f:FuncId} {fn:Func} {ao_:Array Operand} {ts:Array TypeId} (hf:P.funcs[f]?=some fn) {args:Array Value} {R:Ending→World→Prop} (hC:Calls P f args w R)
    (h : ∀ e w', R e w' → ∃ v, e = .returned v ∧ K (a.put N v) w') (hname : (fn.name == "runtime.NumGoroutine") = false := by as_aux_lemma => kernel_rfl) (hb : fn.body.isSome = true := by exact rfl)
    (hw:Region.wanted oi (yielded ops a.tmps)=true:=by rfl) (hN:oi.dst=N:=by exact rfl) (hop:oi.op=.call { callee:=.value (.func f),args:=ao_,argTypes:=ts }:=by exact rfl) (hargs:ao_.map a.eval=args:=by (try simp only[m3]);first|done|rfl|(simp only[d2];rfl)) :
    if Region.wanted oi (yielded ops a.tmps)=true then Oper.wp P oi a w K Q else K (a.put N undef) w:=gs_ hf args (hC.mono h) hname hb hw hN hop hargs
end
end Go.Proofs.YtkpeajafgldpbaaGreat.Short8
