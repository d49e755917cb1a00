import Derived.Test.YtkpeajafgldpbaaGreatWMore
import Derived.Deep.Slices
import Derived.Deep.Fields
import Derived.ChangeSame
import Derived.ChangeOld
import Derived.Carry
namespace Go.Proofs.YtkpeajafgldpbaaGreat.Open
open Go Go.RowKit Go.ChangeShapes Go.WideShapes Go.Deep Go.Proofs.YtkpeajafgldpbaaGreatW.PrintWords
def Opens (P:Program) (t:TypeId) {α:Type} (d:Kd α) (ok:α→Prop):Prop:=
  ∀ (H:Type) (enc:TypeId × Value→H) (w:World) (base:Nat) (spare:Nat→Bool) (held:Bool) (fuel:Nat) (cs:List Value) (x:DataW H × List MemPlace),
    DataW.trod enc P w base spare held fuel t cs=some x→∃ y:α,d.K w y cs∧ok y
def Part (P:Program) (fs:Array Field) (o:Nat) {α:Type} (d:Kd α) (ok:α→Prop):Prop:=
  ∀ (H:Type) (enc:TypeId × Value→H) (w:World) (base:Nat) (spare:Nat→Bool) (held:Bool) (n:Nat) (cs:List Value) (xs:List (DataW H × List MemPlace)),
    xs.length=fs.size→(∀ (i:Nat) (f:Field),fs[i]?=some f→DataW.trod enc P w base spare held n f.type ((cs.drop f.offset).take (P.cellsOf f.type))=xs[i]?)→
    ∃ y:α,d.K w y ((cs.drop o).take d.sz)∧ok y
section
variable {P:Program} {t e:TypeId} {α β:Type}
theorem Opens.mono {d:Kd α} {ok ok':α→Prop} (h:Opens P t d ok) (hk:∀ x,ok x→ok' x):Opens P t d ok':=by
  intro H enc w base spare held fuel cs x hx
  obtain ⟨y,hy,ho⟩:=h H enc w base spare held fuel cs x hx
  exact ⟨y,hy,hk y ho⟩
theorem opens_int {k:IntKind} (ht:P.underlying t=some (.int k)):Opens P t (Kd.int k) (fun n=>(Lit.int k n).wf=true):=by
  intro H enc w base spare held fuel cs x h
  obtain ⟨n,rfl,_,hw⟩:=DataW.trod_int ht h
  exact ⟨n,rfl,hw⟩
theorem opens_bool (ht:P.underlying t=some .bool):Opens P t Kd.bool (fun _=>True):=by
  intro H enc w base spare held fuel cs x h
  obtain ⟨n,rfl,_⟩:=DataW.trod_bool ht h
  exact ⟨n,rfl,trivial⟩
theorem list_of {Q:Nat→α→Prop}:∀ n,(∀ i,i<n→∃ y,Q i y)→∃ l:List α,l.length=n∧∀ i y,l[i]?=some y→Q i y:=by
  intro n
  induction n with
  | zero=>exact fun _=>⟨[],rfl,fun i y h=>by simp at h⟩
  | succ n ih=>
    intro h
    obtain ⟨l,hl,hq⟩:=ih (fun i hi=>h i (by omega))
    obtain ⟨y,hy⟩:=h n (by omega)
    refine ⟨l ++ [y],by simp[hl],fun i z hz=>?_⟩
    rcases Nat.lt_or_ge i l.length with hlt|hge
    · rw[List.getElem?_append_left hlt]at hz
      exact hq i z hz
    rw[List.getElem?_append_right hge]at hz
    have h0:i - l.length=0:=by
      rcases Nat.eq_zero_or_pos (i - l.length) with h0|h0
      · exact h0
      rw[List.getElem?_eq_none (by simp;omega)]at hz
      cases hz
    rw[h0]at hz
    simp at hz
    subst hz
    have:i=n:=by omega
    subst this
    exact hy
theorem opens_slice {d:Kd α} {ok:α→Prop} (ht:P.underlying t=some (.slice e)) (hC:P.cellsOf e=d.sz) (h:Opens P e d ok):Opens P t (Kd.slice e d) (fun l=>∀ y∈l,ok y):=by
  intro H enc w base spare held fuel cs x hx
  rcases open_slice ht hx with ⟨rfl,_⟩|⟨a,len,cap,m,n,D,Pl,rfl,_,hl,hm,hmm,_,hi⟩
  · exact ⟨[],⟨none,0,rfl,Nat.le_refl _,rfl,by simp,fun hp=>absurd hp (by simp)⟩,fun y hy=>by cases hy⟩
  have hlm:len≤m:=by rw[hmm];split <;> omega
  have key:∀ i,i<len→∃ y,(∃ c,c.length=d.sz∧d.K w y c∧∀ j u,c[j]?=some u→w.cell? (a.add (i * d.sz+j))=some u)∧ok y:=by
    intro i hlt
    obtain ⟨cs',hc,ht'⟩:=hi i (by omega)
    obtain ⟨y,hK,ho⟩:=h _ _ _ _ _ _ _ _ _ ht'
    obtain ⟨_,hcl,hat⟩:=World.cells?_some hc
    refine ⟨y,⟨cs',d.K_len hK,hK,fun j u hu=>?_⟩,ho⟩
    have hj:j<cs'.length:=(List.getElem?_eq_some_iff.1 hu).1
    have:=hat j (by omega)
    rw[hC]at this
    rw[← Go.Deep.add_add,this,hu]
  obtain ⟨ys,hyl,hys⟩:=list_of len key
  refine ⟨ys,⟨some a,cap,by rw[hyl],by omega,rfl,?_,fun _=>⟨a,rfl,fun j p hp=>?_⟩⟩,fun y hy=>?_⟩
  · simp only[maxLen]at hm
    omega
  · exact (hys j p hp).1
  obtain ⟨i,hi',hget⟩:=List.getElem_of_mem hy
  exact (hys i y (by rw[List.getElem?_eq_getElem hi',hget])).2
theorem part_field {fs:Array Field} {d:Kd α} {ok:α→Prop} (i:Nat) (f:Field) {o:Nat} (hf:fs[i]?=some f) (ho:f.offset=o) (hC:P.cellsOf f.type=d.sz) (h:Opens P f.type d ok):Part P fs o d ok:=by
  intro H enc w base spare held n cs xs hl hx
  have h1:=hx i f hf
  rw[ho,hC]at h1
  have hi:i<xs.length:=by rw[hl];exact (Array.getElem?_eq_some_iff.1 hf).1
  rw[List.getElem?_eq_getElem hi]at h1
  exact h _ _ _ _ _ _ _ _ _ h1
theorem part_pair {fs:Array Field} {o:Nat} {a:Kd α} {b:Kd β} {oka:α→Prop} {okb:β→Prop} (ha:Part P fs o a oka) (hb:Part P fs (o+a.sz) b okb) :
    Part P fs o (Kd.pair a b) (fun y=>oka y.1∧okb y.2):=by
  intro H enc w base spare held n cs xs hl hx
  obtain ⟨y,hy,h1⟩:=ha _ _ _ _ _ _ _ cs xs hl hx
  obtain ⟨z,hz,h2⟩:=hb _ _ _ _ _ _ _ cs xs hl hx
  refine ⟨(y,z),⟨_,_,?_,hy,hz⟩,h1,h2⟩
  show (cs.drop o).take (a.sz+b.sz)=_
  rw[List.take_add,List.drop_drop]
theorem opens_struct {fs:Array Field} {d:Kd α} {ok:α→Prop} (ht:P.underlying t=some (.struct fs)) (hC:P.cellsOf t=d.sz) (h:Part P fs 0 d ok):Opens P t d ok:=by
  intro H enc w base spare held fuel cs x hx
  obtain ⟨xs,n,_,_,hlen,hxl,hf⟩:=DataW.trod_struct ht hx
  obtain ⟨y,hy,ho⟩:=h _ _ _ _ _ _ _ cs xs hxl hf
  rw[List.drop_zero,List.take_of_length_le (by omega)]at hy
  exact ⟨y,hy,ho⟩
theorem opens_iso {d:Kd α} {ok:α→Prop} (f:β→α) (g:α→β) (hfg:∀ a,f (g a)=a) (h:Opens P t d ok):Opens P t (Kd.iso d f) (fun b=>ok (f b)):=by
  intro H enc w base spare held fuel cs x hx
  obtain ⟨y,hy,ho⟩:=h _ _ _ _ _ _ _ cs x hx
  exact ⟨g y,by show d.K w (f (g y)) cs;rw[hfg];exact hy,by show ok (f (g y));rw[hfg];exact ho⟩
theorem open_param {H:Type} {enc:TypeId × Value→H} {w:World} {base:Nat} {spare:Nat→Bool} {held:Bool} {v:Value} {x:DataW H} {p:List MemPlace} {d:Kd α} {ok:α→Prop}
    (O:Opens P t d ok) (h:DataW.Trod enc P w base spare held t v x p):∃ y,d.K w y v.cells.toList∧ok y:=by
  obtain ⟨fuel,hf⟩:=h
  exact O _ _ _ _ _ _ _ _ _ hf
end
end Go.Proofs.YtkpeajafgldpbaaGreat.Open
