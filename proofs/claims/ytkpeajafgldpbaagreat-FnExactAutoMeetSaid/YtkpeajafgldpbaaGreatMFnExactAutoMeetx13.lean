import Derived.Test.YtkpeajafgldpbaaGreatMFnExactAutoMeetx0
import Derived.Test.YtkpeajafgldpbaaGreatMFnExactAutoMeetx12
namespace Go.Proofs.YtkpeajafgldpbaaGreat.MFnExactAutoMeet
open Go.RowKit Go.Proofs.YtkpeajafgldpbaaGreatW.PrintWords Go.Proofs.YtkpeajafgldpbaaGreatW.PrintLast Go.Proofs.YtkpeajafgldpbaaGreatW.PrintMore Go.Proofs.YtkpeajafgldpbaaGreat.Short6 Go.Proofs.YtkpeajafgldpbaaGreat.Short8
attribute [local go_sem] max2_int min2_int max_two min_two max_three min_three max_four min_four
set_option linter.unusedVariables false
set_option linter.unusedSimpArgs false
theorem mp.laid:laidOutB Tryz.prog=true:=by kernel_rfl
theorem mp.row:(68:TypeId)<Tryz.prog.types.size:=of_decide_eq_true (by kernel_rfl)
theorem mp.cells:Tryz.prog.cellsOf 68=2:=by kernel_rfl
theorem mp.cells3:Tryz.prog.cellsOf 3=1:=by kernel_rfl
theorem mp.wide:(match Tryz.prog.underlying 68 with|some (.array _ _)|some (.struct _)=>true|_=>false)=true:=by rw[Tryz.underlying68]
set_option maxRecDepth 100000 in
theorem mp.law:Go.Maps.Keyed Tryz.prog 68:=.of_law (deep_law_laid mp.laid (m:=2) (by omega) mp.row (by kernel_rfl) mp.wide)
theorem mp.zero (w:World):(zeroValue 3).run Tryz.prog w=.ok (.int .i64 0) w:=by kernel_rfl
theorem mp.kt:Tryz.prog.keyType 68=true:=by kernel_rfl
theorem mp.sz:∃ m,Tryz.prog.types.size=m+2:=by
 obtain ⟨k,hk⟩:=Nat.exists_eq_add_of_lt mp.row;exact ⟨68+k - 1,by rw[hk];show 68+k+1=68+k - 1+2;omega⟩
theorem mp.key_two {P : Program} {k e : TypeId} {q : IntKind} {f0 f1 : Field} (hu : P.underlying k = some (.struct #[f0, f1])) (hn : (f0.name != "_") = true ∧ (f1.name != "_") = true) (ht : f0.type = e ∧ f1.type = e ∧ f0.offset = 0 ∧ f1.offset = 1)
    (hc:P.cellsOf k=2) (hc1:P.cellsOf e=1) (hkt:P.keyType k=true) (he:P.underlying e=some (.int q)) (hsz:∃ m,P.types.size=m+2) {a b:Int} (wa:(Lit.int q a).wf=true) (wb:(Lit.int q b).wf=true) :
    keyOf P k (.agg #[.int q a,.int q b])=some (.string (keyBytes [.int q a,.int q b])):=by
 obtain ⟨m,hm⟩:=hsz;obtain ⟨t0,t1,o0,o1⟩:=ht;have e1:P.keyLits (m+2) e [.int q a]=some [.int q a]:=(by unfold Program.keyLits;simp[he,wa]);have e2:P.keyLits (m+2) e [.int q b]=some [.int q b]:=(by unfold Program.keyLits;simp[he,wb]);unfold keyOf;simp only[hu];rw[if_pos (by simp[hkt,Value.formed,hu,hc]),hm];unfold Program.keyLits;simp only[hu,Value.cells];rw[if_pos (by rw[hc];simp[hn])];simp[t0,t1,o0,o1,hc1,e1,e2]
def mp.kl (x y:Int):Lit:=.string (keyBytes [.int .i64 x,.int .i64 y])
def mp.ok (x:Int):Prop:=-9223372036854775808≤x∧x≤9223372036854775807
theorem mp.wf {x:Int} (h:mp.ok x):(Lit.int .i64 x).wf=true:=by
 unfold mp.ok at h;exact WalkArith.wf_i64 (by omega)
theorem mp.key {x y:Int} (hx:mp.ok x) (hy:mp.ok y):keyOf Tryz.prog 68 (.agg #[.int .i64 x,.int .i64 y])=some (mp.kl x y):=
  mp.key_two Tryz.underlying68 ⟨by decide,by decide⟩ ⟨rfl,rfl,rfl,rfl⟩ mp.cells mp.cells3 mp.kt Tryz.underlying3 mp.sz (mp.wf hx) (mp.wf hy)
theorem mp.inj {x y x' y':Int} (hx:mp.ok x) (hy:mp.ok y) (hx':mp.ok x') (hy':mp.ok y') (h:mp.kl x y=mp.kl x' y'):x=x'∧y=y':=by
 have e:=mp.law.inj (mp.key hx hy) (h ▸ mp.key hx' hy');simp at e;exact e
def mp (w:World) (b n:Nat) (f:Int→Int→Int):Prop:=
  ∃ D:DataW Unit,w.ownsMap Tryz.prog 68 (plainElem Tryz.prog 3) b n D∧∀ x y,mp.ok x→mp.ok y→D.atKey (mp.kl x y) (.lit (.int .i64 0))=.lit (.int .i64 (f x y))
theorem mp.made (w:World):mp (w.alloc (.map #[] 0)) w.heap.size 0 (fun _ _=>0):=⟨.map [],World.ownsMap_made _ _ _ _,fun _ _ _ _=>rfl⟩
theorem mp.grown {w w':World} {b n:Nat} {f:Int→Int→Int} {row:Option Nat} (h:mp w b n f) (hg:w.grownBy w' row) (hne:some b≠row):mp w' b n f:=by
 obtain ⟨D,h1,h2⟩:=h;exact ⟨D,h1.kept hg hne,h2⟩
theorem mp.same {w w':World} {b n:Nat} {f:Int→Int→Int} (h:mp w b n f) (hg:w'.heap[b]?=w.heap[b]?):mp w' b n f:=by
 obtain ⟨D,⟨es,clock,hb,F,hs,hD⟩,h2⟩:=h;exact ⟨D,⟨es,clock,hg.trans hb,F,hs,hD⟩,h2⟩
theorem mp.isb {w:World} {b n:Nat} {f:Int→Int→Int} (h:mp w b n f):∃ es clock,w.heap[b]?=some (.map es clock):=by
 obtain ⟨D,⟨es,clock,hb,F,hs,hD⟩,h2⟩:=h;exact ⟨es,clock,hb⟩
def mt.has (L:List S68) (x y:Int):Bool:=L.any fun q=>decide (q.f0=x) && decide (q.f1=y)
def mt.add (L:List S68) (x y:Int):List S68:=if mt.has L x y=true then L else L ++ [⟨x,y⟩]
def mt.at (L:List S68) (x y:Int):Int:=if mt.has L x y=true then 1 else 0
theorem mt.has_snoc (L:List S68) (x y a b:Int):mt.has (L ++ [⟨x,y⟩]) a b=(mt.has L a b || (decide (x=a) && decide (y=b))):=by
 unfold mt.has;simp
structure mt.St (ok:Nat→Prop) (gL gS gM:Nat) (w0 w:World) (L:List S68):Prop where
  B:Below w0.heap.size w0 w
  row:∃ v,w.heap[gL]?=some (.cells #[v] 65 (0,0))∧Kd.R k68 68 w w0.heap.size ok v L
  ptr:w.heap[gS]?=some (.cells #[.map (some gM)] 80 (0,0))
  map:mp w gM L.length (mt.at L)
  lo:w0.heap.size≤gL∧w0.heap.size≤gM
def mt.Fr (ok:Nat→Prop) (w w':World):Prop:=w.heap.size≤w'.heap.size∧∀ k cs t,w.heap[k]?=some (.cells cs t (0,0))→t≠65→(t=68→¬ ok k)→w'.heap[k]?=some (.cells cs t (0,0))
theorem mt.Fr.refl (ok:Nat→Prop) (w:World):mt.Fr ok w w:=⟨Nat.le_refl _,fun _ _ _ h _ _=>h⟩
theorem mt.Fr.trans {ok:Nat→Prop} {w w1 w2:World} (h:mt.Fr ok w w1) (h2:mt.Fr ok w1 w2):mt.Fr ok w w2:=
  ⟨Nat.le_trans h.1 h2.1,fun k cs t hk a b=>h2.2 k cs t (h.2 k cs t hk a b) a b⟩
theorem mt.Fr.of_below {ok:Nat→Prop} {w w1:World} (h:Below w.heap.size w w1):mt.Fr ok w w1:=⟨h.size,fun k _ _ hk _ _=>(h.block k (blk_lt hk)).trans hk⟩
theorem mt.Fr.row {ok:Nat→Prop} {w w1:World} {base:Nat} {v:Value} {xs:List Int} (h:mt.Fr ok w w1) (hr:Kd.R (Kd.int .i64) 3 w base (fun _=>True) v xs):Kd.R (Kd.int .i64) 3 w1 base (fun _=>True) v xs:=by
 refine Kd.R_mono (Kd.R_move (Kd.R_bound hr) (fun k hk=>?_)) (fun _ _=>trivial);obtain ⟨_,_,_,q,hq,cells,hc⟩:=hk;have hq:q=3:=(by simpa [Kd.int,Kd.scalar] using hq);subst hq;exact (h.2 k cells 3 hc (by decide) (fun e=>absurd e (by decide))).trans hc.symm
theorem mt.St.below {ok:Nat→Prop} {gL gS gM:Nat} {w0 w w1:World} {L:List S68} (h:mt.St ok gL gS gM w0 w L) (hb:Below w.heap.size w w1):mt.St ok gL gS gM w0 w1 L:=by
 obtain ⟨B,⟨v,hv,ho⟩,hp,hm,lo⟩:=h;refine ⟨below_then B B.size hb,⟨v,blk_below hv hb,Kd.R_below ho hb⟩,blk_below hp hb,hm.same (hb.block gM ?_),lo⟩;obtain ⟨es,c,h⟩:=hm.isb;exact blk_lt h
theorem mt.not_map {w:World} {g n:Nat} {cs:Array Value} {t:TypeId} {f:Nat × Nat} {D:DataW Unit} (hb:w.heap[g]?=some (.cells cs t f)) (h:w.ownsMap Tryz.prog 68 (plainElem Tryz.prog 3) g n D):False:=by
 obtain ⟨es,c,h,_⟩:=h;rw[hb]at h;injection h with h;cases h
theorem mt.R_map {w w1:World} {base gM:Nat} {ok:Nat→Prop} {v:Value} {L:List S68} {n:Nat} {D:DataW Unit} (h:Kd.R k68 68 w base ok v L) (hg:w.grownBy w1 (some gM)) (hm:w.ownsMap Tryz.prog 68 (plainElem Tryz.prog 3) gM n D):Kd.R k68 68 w1 base ok v L:=by
 refine Kd.R_mono (Kd.R_move (Kd.R_bound h) (fun k hk=>hg.block k hk.2.2.1 (fun e=>?_))) (fun _ hk=>hk.1);injection e with e;obtain ⟨_,_,_,q,hq,cells,hc⟩:=hk;exact mt.not_map hc (e ▸ hm)
theorem mt.St.push {ok:Nat→Prop} {gL gS gM:Nat} {w0 w w1 w2 w3:World} {L:List S68} {x y:Int} {v v3:Value} {D:DataW Unit} (hx:mp.ok x) (hy:mp.ok y)
    (hb0:Below w0.heap.size w0 w) (hv:w.heap[gL]?=some (.cells #[v] 65 (0,0))) (ho:Kd.R k68 68 w w0.heap.size ok v L) (hp:w.heap[gS]?=some (.cells #[.map (some gM)] 80 (0,0)))
    (hm:w.ownsMap Tryz.prog 68 (plainElem Tryz.prog 3) gM L.length D) (hat:∀ x y,mp.ok x→mp.ok y→D.atKey (mp.kl x y) (.lit (.int .i64 0))=.lit (.int .i64 (mt.at L x y))) (lo:w0.heap.size≤gL) (lo2:w0.heap.size≤gM)
    (hb1:Below w.heap.size w w1) (hm2:w2.ownsMap Tryz.prog 68 (plainElem Tryz.prog 3) gM (L.length+1) (D.put (mp.kl x y) (.lit (.int .i64 1)))) (hg2:w1.grownBy w2 (some gM))
    (ho3:Kd.R k68 68 w3 w0.heap.size ok v3 (L ++ [⟨x,y⟩])) (hb3:Below w0.heap.size w0 w3) (hg3:w2.grownBy w3 v.ownBlock) :
    mt.St ok gL gS gM w0 (w3.setCell ⟨gL,0,none⟩ v3) (L ++ [⟨x,y⟩])∧mt.Fr ok w (w3.setCell ⟨gL,0,none⟩ v3):=by
  have ne1:gS≠gL:=blk_ne hp hv (by decide)
  have nmL:gM≠gL:=fun e=>mt.not_map hv (e ▸ hm)
  have nmS:gM≠gS:=fun e=>mt.not_map hp (e ▸ hm)
  have nR:∀ k,some k=v.ownBlock→k≠gL∧k≠gS∧k≠gM:=by
    intro k hk
    have hb:=Kd.R_bound ho
    obtain ⟨_,_,_,q,hq,cells,hc⟩:=hb.1 k hk.symm
    have hq:q=68:=by simpa [k68,Kd.iso,Kd.pair,Kd.int,Kd.scalar] using hq
    subst hq
    exact ⟨blk_ne hc hv (by decide),blk_ne hc hp (by decide),fun e=>mt.not_map hc (e ▸ hm)⟩
  have hv3:w3.heap[gL]?=some (.cells #[v] 65 (0,0)):=blk_grown (blk_grown (blk_below hv hb1) hg2 (by simpa using Ne.symm nmL)) hg3 (fun e=>(nR gL e).1 rfl)
  have hp3:w3.heap[gS]?=some (.cells #[.map (some gM)] 80 (0,0)):=blk_grown (blk_grown (blk_below hp hb1) hg2 (by simpa using Ne.symm nmS)) hg3 (fun e=>(nR gS e).2.1 rfl)
  have hm3:=hm2.kept hg3 (fun e=>(nR gM e).2.2 rfl)
  refine ⟨⟨hb3.setCell (p:=⟨gL,0,none⟩) lo v3,⟨v3,?_,Kd.R_set ho3 hv3 (by simp[k68,Kd.iso,Kd.pair,Kd.int,Kd.scalar]) 0 v3⟩,blk_far hp3 (p:=⟨gL,0,none⟩) ne1 v3,?_,lo,lo2⟩,?_⟩
  · exact blk_set hv3 0 v3
  · rw[List.length_append,List.length_singleton]
    have hm4:mp w3 gM (L.length+1) (mt.at (L ++ [⟨x,y⟩])):=by
      refine ⟨_,hm3,fun a b ha hb=>?_⟩
      by_cases he:a=x∧b=y
      · obtain ⟨rfl,rfl⟩:=he
        rw[Go.Maps.atKey_put_same hm.isMap (mp.law.key (mp.key ha hb))]
        unfold mt.at
        rw[mt.has_snoc]
        simp
      rw[Go.Maps.atKey_put_other (fun e=>he (mp.inj ha hb hx hy e)),hat a b ha hb]
      unfold mt.at
      rw[mt.has_snoc]
      have:(decide (x=a) && decide (y=b))=false:=by
        rw[Bool.and_eq_false_iff,decide_eq_false_iff_not,decide_eq_false_iff_not]
        by_cases h1:x=a
        · exact .inr (fun h2=>he ⟨h1.symm,h2.symm⟩)
        exact .inl h1
      rw[this,Bool.or_false]
    exact hm4.same (Below.heap_setCell w3 ⟨gL,0,none⟩ v3 gM nmL)
  have hs:=Nat.le_trans hb1.size (Nat.le_trans hg2.size hg3.size)
  refine ⟨?_,fun k cs t hk h1 h2=>?_⟩
  · rw[World.size_setCell];exact hs
  have nk1:k≠gL:=blk_ne hk hv h1
  have nk2:k≠gM:=fun e=>mt.not_map hk (e ▸ hm)
  have nk3:some k≠v.ownBlock:=fun e=>by
    by_cases ht:t=68
    · exact h2 ht (ho.1 k e.symm)
    obtain ⟨_,_,_,q,hq,cells,hc⟩:=(Kd.R_bound ho).1 k e.symm
    have hq:q=68:=by simpa [k68,Kd.iso,Kd.pair,Kd.int,Kd.scalar] using hq
    subst hq
    exact blk_ne hc hk (Ne.symm ht) rfl
  exact blk_far (blk_grown (blk_grown (blk_below hk hb1) hg2 (by simpa using nk2)) hg3 nk3) nk1 _
theorem mt.info68:(Tryz.prog.info? 68).map (fun i=>(i.zero,i.size,i.bytes))=some (some (.agg #[(.int .i64 0),(.int .i64 0)]),2,16):=by kernel_rfl
set_option maxHeartbeats 8000000 in
set_option maxRecDepth 100000 in
theorem mt.add_calls {ok:Nat→Prop} {gL gS gM:Nat} {w0 w:World} {L:List S68} {x y:Int} (h:mt.St ok gL gS gM w0 w L) (hok:∀ k,w.heap.size≤k→ok k) (hx:mp.ok x) (hy:mp.ok y) (hl:L.length<1000000000) :
    Calls Tryz.prog 56 #[.agg #[.int .i64 x,.int .i64 y],.pointer (some ⟨gS,0,none⟩),.pointer (some ⟨gL,0,none⟩)] w fun e w'=>
      e=.returned (.tuple #[])∧mt.St ok gL gS gM w0 w' (mt.add L x y)∧mt.Fr ok w w':=by
  obtain ⟨B,⟨v,hv,ho⟩,hp,⟨D,hm,hat⟩,lo,lo2⟩:=h
  have hu68:=Tryz.underlying68
  have HB:=Aside0.mk B
  have HV:=Aside0.mk hv
  have HO:=Aside0.mk ho
  have HP:=Aside0.mk hp
  have HM:=Aside0.mk hm
  have HAT:=Aside0.mk (hat x y hx hy)
  have HK:=Aside0.mk (mp.key hx hy)
  clear B hv ho hp hm
  go_enter Tryz.func56,Tryz.ntmps56
  go_wp2_with (first
    | ((with_reducible refine gate_dst (N:=3) rfl ?_);refine bx_ 3 #[.int .i64 x,.int .i64 y] 68 ?_;intro gb hgb w1 hbk hb1;have HE:=Aside0.mk hgb;have BK:=Aside0.mk hbk;have HB1:=Aside0.mk hb1;have hpv:=Aside0.mk (blk_below HP.out hb1);have hcS:w1.cell? ⟨gS,0,none⟩=some (.map (some gM)):=blk_cell hpv.out 0;have hc0:w1.cell? ⟨gb,0,none⟩=some (.int .i64 x):=blk_cell hbk 0;have hc1:w1.cell? ⟨gb,1,none⟩=some (.int .i64 y):=blk_cell hbk 1;have HM1:=Aside0.mk (HM.out.kept (grown_of_below hb1 none) (by simp));clear hgb hbk hb1)
    | (at_lookup;refine wpList_lookup_own_int _ rfl _ _ 80 rfl 68 3 .i64 mp.law Tryz.underlying80 Tryz.underlying3 (mp.zero _) gM _ D rfl HM1.out _ _ rfl HK.out ?_;intro c hc hwc;have HC:=Aside0.mk hc;clear hc)
    | (at_mapUpdate;refine wpList_mapUpdate_own _ rfl _ _ _ 80 rfl 68 3 mp.law Tryz.underlying80 (plainElem Tryz.prog 3) gM L.length D rfl HM1.out (by unfold maxLen;omega) _ _ _ rfl rfl HK.out _ [] (plainElem_int Tryz.underlying3 (by decide)) ?_;intro w2 hown2 hgrow2;have hbk2:=blk_grown BK.out hgrow2 (fun e_=>by injection e_ with e_;exact mt.not_map BK.out (e_ ▸ HM1.out));have hc02:w2.cell? ⟨gb,0,none⟩=some (.int .i64 x):=blk_cell hbk2 0;have hc12:w2.cell? ⟨gb,1,none⟩=some (.int .i64 y):=blk_cell hbk2 1;have hv1:=blk_below HV.out HB1.out;have hv2:=blk_grown hv1 hgrow2 (fun e_=>by injection e_ with e_;exact mt.not_map hv1 (e_ ▸ HM1.out));have hcL2:w2.cell? ⟨gL,0,none⟩=some v:=blk_cell hv2 0;have hfL2:w2.frozen? ⟨gL,0,none⟩=false:=blk_frozen hv2 0;have HV2:=Aside0.mk hv2;have HM2:=Aside0.mk hown2;have HG2:=Aside0.mk hgrow2;clear hown2 hgrow2 hv1 hv2 hbk2)
    | (at_builtin;refine Kd.R_append k68 (w0:=w0) w0.heap.size rfl (.tmp 10) (.tmp 12) 65 68 (.agg #[(.int .i64 0),(.int .i64 0)]) 16 rfl Tryz.underlying65 mt.info68 rfl (by decide) (by omega) v L (⟨x,y⟩:S68) [.int .i64 x,.int .i64 y] ok (fun _=>False) rfl rfl (k68_mkM _ _ _ (⟨x,y⟩:S68)) (fun _ hk=>hk.elim) ?aF ?aO ?aB ?aS (by omega) ?_;(case aF=>exact fun k hk=>hok k (Nat.le_trans (Nat.le_trans HB1.out.size HG2.out.size) hk));(case aO=>exact mt.R_map (Kd.R_below HO.out HB1.out) HG2.out HM1.out);(case aB=>exact pw_below_grown (below_then HB.out HB.out.size HB1.out) (some gM) (Nat.le_trans HB.out.size HB1.out.size) HG2.out (fun k hk=>by injection hk with hk;omega));(case aS=>exact Nat.le_trans HB.out.size (Nat.le_trans HB1.out.size HG2.out.size));intro v3 w3 ho3 hb3 hg3 _;obtain ⟨A3,c3,e3⟩:=Kd.R_slice ho3;subst e3;have HO3:=Aside0.mk ho3;have HB3:=Aside0.mk hb3;have HG3:=Aside0.mk hg3;have hne:=Kd.R_ne (mt.R_map (Kd.R_below HO.out HB1.out) HG2.out HM1.out) HV2.out (by decide);have hv3:=blk_grown HV2.out hg3 hne;have hcL3:w3.cell? ⟨gL,0,none⟩=some v:=blk_cell hv3 0;have hfL3:w3.frozen? ⟨gL,0,none⟩=false:=blk_frozen hv3 0;clear ho3 hb3 hg3 hv3 hne)
    | go_in)
  ·
    have ec:c=0:=by simpa using (by assumption:(c == 0)=true)
    subst ec
    have hh:mt.has L x y=false:=by
      have e:=HAT.out.symm.trans HC.out
      injection e with e
      injection e with _ e
      unfold mt.at at e
      cases hq:mt.has L x y with
      | true=>rw[hq]at e;simp at e
      | false=>rfl
    go_end0
    have e:=mt.St.push hx hy HB.out HV.out HO.out HP.out HM.out hat lo lo2 HB1.out HM2.out HG2.out HO3.out HB3.out HG3.out
    rw[show (L ++ [(⟨x,y⟩:S68)]).length=L.length+1 by simp]at e
    refine ⟨rfl,?_⟩
    unfold mt.add
    rw[hh,if_neg (by simp)]
    exact e
  ·
    have ec:c≠0:=by simpa using (by assumption:(c == 0)=false)
    have hh:mt.has L x y=true:=by
      have e:=HAT.out.symm.trans HC.out
      injection e with e
      injection e with _ e
      unfold mt.at at e
      cases hq:mt.has L x y with
      | false=>rw[hq]at e;simp at e;exact absurd e.symm ec
      | true=>rfl
    go_end0
    refine ⟨rfl,?_,mt.Fr.of_below HB1.out⟩
    unfold mt.add
    rw[hh,if_pos rfl]
    exact mt.St.below ⟨HB.out,⟨v,HV.out,HO.out⟩,HP.out,⟨D,HM.out,hat⟩,lo,lo2⟩ HB1.out
theorem mt.St.mono {ok ok':Nat→Prop} {gL gS gM:Nat} {w0 w:World} {L:List S68} (h:mt.St ok gL gS gM w0 w L) (hk:∀ k,ok k→ok' k):mt.St ok' gL gS gM w0 w L:=by
 obtain ⟨B,⟨v,hv,ho⟩,hp,hm,lo⟩:=h;exact ⟨B,⟨v,hv,Kd.R_mono ho hk⟩,hp,hm,lo⟩
theorem mt.St.new {ok:Nat→Prop} {gL gS gM g:Nat} {w0 w w1:World} {L:List S68} (h:mt.St ok gL gS gM w0 w L) (hb:Below w.heap.size w w1) (hg:w.heap.size≤g):mt.St (fun k=>ok k∧k≠g) gL gS gM w0 w1 L:=by
 have h1:=h.below hb;obtain ⟨B,⟨v,hv,ho⟩,hp,hm,lo⟩:=h;obtain ⟨B1,_,hp1,hm1,_⟩:=h1;refine ⟨B1,⟨v,blk_below hv hb,?_⟩,hp1,hm1,lo⟩;exact Kd.R_below (Kd.R_mono (Kd.R_bound ho) (fun k hk=>⟨hk.1,by have:=hk.2.2.1;omega⟩)) hb
theorem mt.put2 {w W:World} {g t:Nat} {a b x y:Value} (hb:Below w.heap.size w W) (hg:w.heap.size≤g) (hk:W.heap[g]?=some (.cells #[a,b] t (0,0))) :
    Below w.heap.size w ((W.setCell ⟨g,0,none⟩ x).setCell ⟨g,1,none⟩ y)∧((W.setCell ⟨g,0,none⟩ x).setCell ⟨g,1,none⟩ y).heap[g]?=some (.cells #[x,y] t (0,0)):=
  ⟨(hb.setCell (p:=⟨g,0,none⟩) hg x).setCell (p:=⟨g,1,none⟩) hg y,blk_set (blk_set hk 0 x) 1 y⟩
theorem mt.put4 {w W:World} {g t:Nat} {a b c d x y z u:Value} (hb:Below w.heap.size w W) (hg:w.heap.size≤g) (hk:W.heap[g]?=some (.cells #[a,b,c,d] t (0,0))) :
    Below w.heap.size w ((((W.setCell ⟨g,0,none⟩ x).setCell ⟨g,1,none⟩ y).setCell ⟨g,2,none⟩ z).setCell ⟨g,3,none⟩ u)∧((((W.setCell ⟨g,0,none⟩ x).setCell ⟨g,1,none⟩ y).setCell ⟨g,2,none⟩ z).setCell ⟨g,3,none⟩ u).heap[g]?=some (.cells #[x,y,z,u] t (0,0)):=
  ⟨(((hb.setCell (p:=⟨g,0,none⟩) hg x).setCell (p:=⟨g,1,none⟩) hg y).setCell (p:=⟨g,2,none⟩) hg z).setCell (p:=⟨g,3,none⟩) hg u,blk_set (blk_set (blk_set (blk_set hk 0 x) 1 y) 2 z) 3 u⟩
theorem mt.map_event {P:Program} {ops:Array Oper} {o:Oper} {a:Act} {Q:Exit→Act→World→Prop} {rest:List Oper} {W:World} (hgd:o.guard=none)
    (hrun:(execOp a.eval o).run P W=.ok (.value (.map (some W.heap.size))) (W.alloc (.map #[] 0)))
    (h:∀ g,g=W.heap.size→∀ w1,mp w1 g 0 (fun _ _=>0)→Below W.heap.size W w1→g<w1.heap.size→wpList P ops Q rest (a.put o.dst (.map (some g))) w1):wpList P ops Q (o :: rest) a W:=
  Kd.event_run hgd hrun (h _ rfl _ (mp.made W) (below_alloc (Below.refl _ _) _) (by rw[World.size_alloc];exact Nat.lt_succ_self _))
def mt.one (p:S68) (e f:S58) (L:List S68):List S68:=if e.f0=p.f0∧f.f0=p.f1∧e.f1=f.f1 then mt.add L e.f2 f.f2 else L
def mt.step (l0 l1:List S58) (p:S68) (L:List S68):List S68:=l0.foldl (fun L e=>l1.foldl (fun L f=>mt.one p e f L) L) L
def mt.starts (la lb:List Int):List S68:=la.foldl (fun L s=>lb.foldl (fun L t=>mt.add L s t) L) []
def mt.go (l0 l1:List S58):Nat→Nat→List S68→List S68
  | 0,_,L=>L
  | n+1,i,L=>if i<L.length∧L.length≤31 then mt.go l0 l1 n (i+1) (mt.step l0 l1 (L.getD i z68) L) else L
theorem mt.add_le (L:List S68) (x y:Int):L.length≤(mt.add L x y).length:=by unfold mt.add;split <;> simp
theorem mt.one_le (p:S68) (e f:S58) (L:List S68):L.length≤(mt.one p e f L).length:=by unfold mt.one;split;exact mt.add_le _ _ _;exact Nat.le_refl _
theorem mt.fold_le {α:Type} (F:List S68→α→List S68) (hF:∀ L a,L.length≤(F L a).length):∀ (l:List α) (L:List S68),L.length≤(l.foldl F L).length
  | [],L=>Nat.le_refl _
  | a :: r,L=>Nat.le_trans (hF L a) (mt.fold_le F hF r (F L a))
theorem mt.step_le (l0 l1:List S58) (p:S68) (L:List S68):L.length≤(mt.step l0 l1 p L).length:=
  mt.fold_le _ (fun L e=>mt.fold_le _ (fun L f=>mt.one_le p e f L) l1 L) l0 L
theorem mt.go_le (l0 l1:List S58):∀ (n i:Nat) (L:List S68),L.length≤(mt.go l0 l1 n i L).length
  | 0,_,_=>Nat.le_refl _
  | n+1,i,L=>by
    unfold mt.go
    split
    · exact Nat.le_trans (mt.step_le l0 l1 _ L) (mt.go_le l0 l1 n (i+1) _)
    exact Nat.le_refl _
instance mp.okd (x:Int):Decidable (mp.ok x):=inferInstanceAs (Decidable (_∧_))
def impl_meets.f (k:Nat) (a0_0 a0_1 a0_2 a0_3:Int) (l0_4:List S58) (a1_0 a1_1 a1_2 a1_3:Int) (l1_4:List S58):Option (List S68):=
  (impl_SetList.f k a0_2).bind fun la=>(impl_SetList.f k a1_2).bind fun lb=>
    if ((∀ x∈la,mp.ok x)∧(∀ x∈lb,mp.ok x))∧(∀ e∈l0_4,mp.ok e.f2)∧(∀ e∈l1_4,mp.ok e.f2) then impl_pair_57.f (mt.go l0_4 l1_4 32 0 (mt.starts la lb)) else none
theorem mt.nx {i n:Nat} (h:i<n) (hn:n≤9223372036854775807):wrap64 ((i:Int)+1)=((i+1:Nat):Int):=by
 unfold wrap64;omega
theorem mt.rd_at (l:List Int) (i:Nat) (h:i<l.length):l[i]?=some (rd l i):=by
 unfold rd;simp[h]
theorem mt.drop_at (l:List Int) (i:Nat) (h:i<l.length):l.drop i=rd l i :: l.drop (i+1):=by
 rw[List.drop_eq_getElem_cons h];unfold rd;simp[h]
def mt.row1 (l1:List S58) (p:S68) (L:List S68) (e:S58):List S68:=l1.foldl (fun L f=>mt.one p e f L) L
theorem mt.mem58 (l:List S58) (i:Nat) (h:i<l.length):rd_T58 l i∈l:=by
 unfold rd_T58;simp[h]
theorem mt.drop58 (l:List S58) (i:Nat) (h:i<l.length):l.drop i=rd_T58 l i :: l.drop (i+1):=by
 rw[List.drop_eq_getElem_cons h];unfold rd_T58;simp[h]
theorem mt.go_step {l0 l1:List S58} {kq i:Nat} {M LF:List S68} {X:S68} (h:mt.go l0 l1 kq i M=LF) (hk:32≤i+kq∧i≤32) (hi:i<M.length) (hm:M.length≤31) (hX:M.getD i z68=X):(mt.step l0 l1 X M).length≤LF.length:=by
 (cases kq with|zero=>omega|succ n=>(unfold mt.go at h;rw[if_pos ⟨hi,hm⟩,hX]at h;rw[← h];exact mt.go_le _ _ _ _ _))
theorem mt.go_next {l0 l1:List S58} {kq i:Nat} {M LF:List S68} {X:S68} (h:mt.go l0 l1 kq i M=LF) (hk:32≤i+kq∧i≤32) (hi:i<M.length) (hm:M.length≤31) (hX:M.getD i z68=X):0<kq∧mt.go l0 l1 (kq - 1) (i+1) (mt.step l0 l1 X M)=LF:=by
 (cases kq with|zero=>omega|succ n=>(unfold mt.go at h;rw[if_pos ⟨hi,hm⟩,hX]at h;exact ⟨Nat.succ_pos _,h⟩))
theorem mt.go_end {l0 l1:List S58} {kq i:Nat} {M:List S68} (h:¬ (i<M.length∧M.length≤31)):mt.go l0 l1 kq i M=M:=by
 (cases kq with|zero=>rfl|succ n=>unfold mt.go;rw[if_neg h])
def mt.inner (lb:List Int) (L:List S68) (s:Int):List S68:=lb.foldl (fun L t=>mt.add L s t) L
theorem mt.St.start {gL gS gM:Nat} {w0 w w1:World} (hB:Below w0.heap.size w0 w) (hL:w0.heap.size≤gL) (hM:w0.heap.size≤gM) (hS:w0.heap.size≤gS) (bL:w.heap[gL]?=some (.cells #[.slice none 0 0] 65 (0,0)))
    (bS:w.heap[gS]?=some (.cells #[.map none] 80 (0,0))) (hm:mp w gM 0 (fun _ _=>0)) (hw:w1=w.setCell ⟨gS,0,none⟩ (.map (some gM))):mt.St (fun _=>True) gL gS gM w0 w1 []:=by
 subst hw;refine ⟨hB.setCell (p:=⟨gS,0,none⟩) hS _,⟨_,blk_far (p:=⟨gS,0,none⟩) bL (blk_ne bL bS (by decide)) _,Kd.R_nil _ _ _ _ _⟩,blk_set bS 0 _,?_,hL,hM⟩;refine mp.same (f:=mt.at []) hm (Below.heap_setCell w ⟨gS,0,none⟩ _ gM (fun e=>?_));obtain ⟨es,c,hc⟩:=hm.isb;have e:gM=gS:=e;rw[e,bS]at hc;injection hc with hc;cases hc
set_option maxHeartbeats 8000000 in
set_option maxRecDepth 100000 in
theorem impl_meets.calls (k:Nat) (a0_0 a0_1 a0_2 a0_3:Int) (A0_4:Option Addr) (c0_4:Nat) (l0_4:List S58) (a1_0 a1_1 a1_2 a1_3:Int) (A1_4:Option Addr) (c1_4:Nat) (l1_4:List S58) (r:List S68) (w:World)
    (hr0_4:Kd.C k58 w A0_4 l0_4.length l0_4) (hc0_4:l0_4.length≤c0_4) (hr1_4:Kd.C k58 w A1_4 l1_4.length l1_4) (hc1_4:l1_4.length≤c1_4) (h:impl_meets.f k a0_0 a0_1 a0_2 a0_3 l0_4 a1_0 a1_1 a1_2 a1_3 l1_4=some r) :
    Calls Tryz.prog 40 #[.agg #[.int .i64 a0_0,.int .i64 a0_1,.int .i64 a0_2,.int .i64 a0_3,.slice A0_4 l0_4.length c0_4],.agg #[.int .i64 a1_0,.int .i64 a1_1,.int .i64 a1_2,.int .i64 a1_3,.slice A1_4 l1_4.length c1_4]] w fun e w'=>
      ∃ v0_:Value,e=.returned v0_∧Kd.R k68 68 w' w.heap.size (fun _=>True) v0_ r∧Below w.heap.size w w':=by
  have HR0:=Aside0.mk hr0_4
  have HR1:=Aside0.mk hr1_4
  clear hr0_4 hr1_4
  unfold impl_meets.f at h
  obtain ⟨la,hla,h⟩:=Option.bind_eq_some_iff.1 h
  obtain ⟨lb,hlb,h⟩:=Option.bind_eq_some_iff.1 h
  by_cases hg:((∀ x∈la,mp.ok x)∧(∀ x∈lb,mp.ok x))∧(∀ e∈l0_4,mp.ok e.f2)∧(∀ e∈l1_4,mp.ok e.f2)
  case neg=>rw[if_neg hg]at h;cases h
  rw[if_pos hg]at h
  obtain ⟨⟨oka,okb⟩,ok0,ok1⟩:=hg
  have HLA:=Aside0.mk hla
  have HLB:=Aside0.mk hlb
  clear hla hlb
  have hlen:(mt.go l0_4 l1_4 32 0 (mt.starts la lb)).length<1048576:=by
    unfold impl_pair_57.f at h
    by_cases hl:(mt.go l0_4 l1_4 32 0 (mt.starts la lb)).length<1048576
    · exact hl
    rw[if_neg hl]at h;cases h
  have HEND:=Aside0.mk h
  clear h
  obtain ⟨LF,hLF⟩:∃ LF,LF=mt.go l0_4 l1_4 32 0 (mt.starts la lb):=⟨_,rfl⟩
  have HMON:=Aside0.mk (mt.go_le l0_4 l1_4 32 0 (mt.starts la lb))
  have HB:=Aside0.mk (Below.refl w.heap.size w)
  have hmf:∀ (fn:Fn) (first cap:Array Value) (w:World),(Instr.makeFunc fn first cap).run Tryz.prog w=.ok (.func fn first cap) w:=fun _ _ _ _=>rfl
  have hmm:=@run_makeMap Tryz.prog
  go_enter Tryz.func40,Tryz.ntmps40
  go_wp2_with (first
    | ((with_reducible refine gate_dst (N:=2) rfl ?_);refine bx_ 2 #[.int .i64 a0_0,.int .i64 a0_1,.int .i64 a0_2,.int .i64 a0_3,.slice A0_4 l0_4.length c0_4] 39 ?_;intro gA hgA w1 hbk hb1;have BA:=Aside0.mk hbk;have GA:=Aside0.mk hgA;replace HB:=Aside0.mk hb1;clear hgA hbk hb1)
    | ((with_reducible refine gate_dst (N:=3) rfl ?_);refine bx_ 3 #[.int .i64 a1_0,.int .i64 a1_1,.int .i64 a1_2,.int .i64 a1_3,.slice A1_4 l1_4.length c1_4] 39 ?_;intro gB hgB w2 hbk hb1;have BB:=Aside0.mk hbk;replace BA:=Aside0.mk (blk_below BA.out hb1);replace HB:=Aside0.mk (below_then HB.out HB.out.size hb1);clear hgB hbk hb1)
    | ((with_reducible refine gate_dst (N:=5) rfl ?_);refine bx_ 5 #[.slice none 0 0] 65 ?_;intro gL hgL w3 hbk hb1;have BL:=Aside0.mk hbk;have GL:=Aside0.mk (hgL ▸ HB.out.size);replace BA:=Aside0.mk (blk_below BA.out hb1);replace BB:=Aside0.mk (blk_below BB.out hb1);replace HB:=Aside0.mk (below_then HB.out HB.out.size hb1);clear hgL hbk hb1)
    | ((with_reducible refine gate_dst (N:=18) rfl ?_);refine mt.map_event ?hg ?hr ?_;(case hg=>rfl);(case hr=>first|(go_simp;done)|(go_simp;rfl));intro gM hgM w4 hmap hb1 hlt;have MM:=Aside0.mk hmap;have GM:=Aside0.mk (hgM ▸ HB.out.size);have GM2:=Aside0.mk hlt;replace BA:=Aside0.mk (blk_below BA.out hb1);replace BB:=Aside0.mk (blk_below BB.out hb1);replace BL:=Aside0.mk (blk_below BL.out hb1);replace HB:=Aside0.mk (below_then HB.out HB.out.size hb1);clear hgM hmap hb1 hlt)
    | ((with_reducible refine gate_dst (N:=6) rfl ?_);refine bx_ 6 #[.map none] 80 ?_;intro gS hgS w5 hbk hb1;have BS:=Aside0.mk hbk;have GS:=Aside0.mk (hgS ▸ HB.out.size);replace BA:=Aside0.mk (blk_below BA.out hb1);replace BB:=Aside0.mk (blk_below BB.out hb1);replace BL:=Aside0.mk (blk_below BL.out hb1);replace MM:=Aside0.mk (MM.out.same (hb1.block gM GM2.out));replace HB:=Aside0.mk (below_then HB.out HB.out.size hb1);have hcS:w5.cell? ⟨gS,0,none⟩=some (.map none):=blk_cell BS.out 0;have hfS:=blk_frozen BS.out 0;clear hgS hbk hb1)
    | ((with_reducible refine gate_store (t:=80) (p:=6) rfl ?_);refine store_event (t:=80) (p:=6) (v:=?vo) (w1:=(w5.setCell ⟨gS,0,none⟩ (.map (some gM)))) ?hg ?ho ?hn ?hr ?_;(case ho=>rfl);(case hg=>rfl);(case hn=>rfl);(case hr=>first|(go_simp;done)|(go_simp;rfl));intro w6 hw;have ST:=Aside0.mk (mt.St.start HB.out GL.out GM.out GS.out BL.out BS.out MM.out hw);replace BA:=Aside0.mk (hw ▸ blk_far (p:=⟨gS,0,none⟩) BA.out (blk_ne BA.out BS.out (by decide)) (.map (some gM)));replace BB:=Aside0.mk (hw ▸ blk_far (p:=⟨gS,0,none⟩) BB.out (blk_ne BB.out BS.out (by decide)) (.map (some gM)));clear hcS hfS hw BS BL MM HB;have hcA:w6.cell? ⟨gA,2,none⟩=some (.int .i64 a0_2):=blk_cell BA.out 2)
    | ((with_reducible refine gate_callee (f:=44) rfl ?_);refine goesL_ (some 22) rfl rfl Tryz.func44 (by kernel_rfl) rfl #[.int .i64 a0_2] rfl (by (try simp only[List.map_toArray,List.map_cons,List.map_nil]);first|done|rfl|(go_simp;rfl)) ?_;(with_reducible refine (impl_SetList.calls k a0_2 la _ HLA.out).mono ?_);rintro e w7 ⟨va,rfl,ho,hb⟩;refine ⟨_,rfl,?_⟩;obtain ⟨Aa,ca,ea⟩:=Kd.R_slice ho;subst ea;have RA:=Aside0.mk (Kd.R_lower ho ST.out.B.size);replace ST:=Aside0.mk (ST.out.below hb);replace BA:=Aside0.mk (blk_below BA.out hb);replace BB:=Aside0.mk (blk_below BB.out hb);clear ho hb hcA)
    | fail)
  go_loopg [24] la.length (fun kq aj w'=>∃ (i:Nat) (L:List S68),aj=.int .i64 (i:Int)∧Aside0 (i≤la.length∧la.length - i≤kq)∧Aside0 ((la.drop i).foldl (mt.inner lb) L=mt.starts la lb)∧Aside0 (mt.St (fun _=>True) gL gS gM w w' L)∧
    Aside0 (w'.heap[gA]?=some (.cells #[.int .i64 a0_0,.int .i64 a0_1,.int .i64 a0_2,.int .i64 a0_3,.slice A0_4 l0_4.length c0_4] 39 (0,0)))∧Aside0 (w'.heap[gB]?=some (.cells #[.int .i64 a1_0,.int .i64 a1_1,.int .i64 a1_2,.int .i64 a1_3,.slice A1_4 l1_4.length c1_4] 39 (0,0)))∧
    Aside0 (Kd.R (Kd.int .i64) 3 w' w.heap.size (fun _=>True) (.slice Aa la.length ca) la))
  case atStart=>exact ⟨0,[],rfl,⟨Nat.zero_le _,Nat.le_refl _⟩,⟨rfl⟩,ST,BA,BB,RA⟩
  case round=>
    clear ST BA BB RA
    obtain ⟨i,L,rfl,HI,HF,ST,BA,BB,RA⟩:=hrel
    by_cases hi:i<la.length
    · have q1:(i:Int)<(la.length:Int):=by omega
      obtain ⟨ad,ead,hx⟩:=Kd.at_int (Kd.R_reads' RA.out).2.2 (i:Int) (by omega) q1
      subst ead
      rw[Int.toNat_natCast]at hx
      have hcB:_=some (Value.int .i64 a1_2):=blk_cell BB.out 2
      have hxs:la[i]?=some (rd la i):=mt.rd_at la i hi
      have hdrop:la.drop i=rd la i :: la.drop (i+1):=mt.drop_at la i hi
      have hxo:mp.ok (rd la i):=oka _ (List.mem_of_getElem? hxs)
      generalize hX:rd la (i:Int)=X at *
      go_wp2_with (first
        | ((with_reducible refine gate_callee (f:=44) rfl ?_);refine goesL_ (some 30) rfl rfl Tryz.func44 (by kernel_rfl) rfl #[.int .i64 a1_2] rfl (by (try simp only[List.map_toArray,List.map_cons,List.map_nil]);first|done|rfl|(go_simp;rfl)) ?_;(with_reducible refine (impl_SetList.calls k a1_2 lb _ HLB.out).mono ?_);rintro e w8 ⟨vb,rfl,ho,hb⟩;refine ⟨_,rfl,?_⟩;obtain ⟨Ab,cb,eb⟩:=Kd.R_slice ho;subst eb;have RB:=Aside0.mk (Kd.R_lower ho ST.out.B.size);replace ST:=Aside0.mk (ST.out.below hb);replace BA:=Aside0.mk (blk_below BA.out hb);replace BB:=Aside0.mk (blk_below BB.out hb);replace RA:=Aside0.mk (Kd.R_below RA.out hb);clear ho hb hcB hx)
        | fail)
      obtain ⟨g1,hg1⟩:∃ g,g=gk:=⟨_,rfl⟩
      go_loopg [32] lb.length (fun kq ak w'=>∃ (j:Nat) (M:List S68),ak=.int .i64 (j:Int)∧Aside0 (j≤lb.length∧lb.length - j≤kq)∧Aside0 ((la.drop (i+1)).foldl (mt.inner lb) ((lb.drop j).foldl (fun L t=>mt.add L X t) M)=mt.starts la lb)∧Aside0 (mt.St (fun _=>True) gL gS gM w w' M)∧
        Aside0 (w'.heap[gA]?=some (.cells #[.int .i64 a0_0,.int .i64 a0_1,.int .i64 a0_2,.int .i64 a0_3,.slice A0_4 l0_4.length c0_4] 39 (0,0)))∧Aside0 (w'.heap[gB]?=some (.cells #[.int .i64 a1_0,.int .i64 a1_1,.int .i64 a1_2,.int .i64 a1_3,.slice A1_4 l1_4.length c1_4] 39 (0,0)))∧
        Aside0 (Kd.R (Kd.int .i64) 3 w' w.heap.size (fun _=>True) (.slice (some ad) la.length ca) la)∧Aside0 (Kd.R (Kd.int .i64) 3 w' w.heap.size (fun _=>True) (.slice Ab lb.length cb) lb))
      case atStart=>exact ⟨0,L,rfl,⟨Nat.zero_le _,Nat.le_refl _⟩,⟨by rw[hdrop]at HF;exact HF.out⟩,ST,BA,BB,RA,RB⟩
      case round=>
        clear ST BA BB RA RB HF
        obtain ⟨j,M,rfl,HJ,HF,ST,BA,BB,RA,RB⟩:=hrel
        by_cases hj:j<lb.length
        · have q2:(j:Int)<(lb.length:Int):=by omega
          obtain ⟨bd,ebd,hy⟩:=Kd.at_int (Kd.R_reads' RB.out).2.2 (j:Int) (by omega) q2
          subst ebd
          rw[Int.toNat_natCast]at hy
          have hyo:mp.ok (rd lb j):=okb _ (List.mem_of_getElem? (mt.rd_at lb j hj))
          have hdrop2:lb.drop j=rd lb j :: lb.drop (j+1):=mt.drop_at lb j hj
          generalize hY:rd lb (j:Int)=Y at *
          have hML:M.length<1000000000:=by
            have e:=HF.out
            have e1:=mt.fold_le (mt.inner lb) (fun L s=>mt.fold_le _ (fun L t=>mt.add_le L s t) lb L) (la.drop (i+1)) ((lb.drop j).foldl (fun L t=>mt.add L X t) M)
            have e2:=mt.fold_le (fun L t=>mt.add L X t) (fun L t=>mt.add_le L X t) (lb.drop j) M
            rw[e]at e1
            have:=HMON.out
            omega
          go_wp2_with (first
            | (go_at_call 56;refine (mt.add_calls ST.out (fun _ _=>trivial) hxo hyo hML).mono ?_;rintro e w9 ⟨rfl,st,fr⟩;replace ST:=Aside0.mk st;replace BA:=Aside0.mk (fr.2 gA _ _ BA.out (by decide) (fun e=>absurd e (by decide)));replace BB:=Aside0.mk (fr.2 gB _ _ BB.out (by decide) (fun e=>absurd e (by decide)));replace RA:=Aside0.mk (fr.row RA.out);replace RB:=Aside0.mk (fr.row RB.out);clear st fr hy)
            | fail)
          go_roundg (gk - 1)
          case measure=>have:=HJ.out;omega
          case rel=>
            refine ⟨j+1,mt.add M X Y,by rw[mt.nx hj (Kd.C_max (Kd.R_reads' RB.out).2.2)],⟨by have:=HJ.out;omega⟩,⟨?_⟩,ST,BA,BB,RA,RB⟩
            have e:=HF.out
            rw[hdrop2,List.foldl_cons]at e
            exact e
        have ej:j=lb.length:=by have:=HJ.out;omega
        subst ej
        go_wp2
        go_roundg (g1 - 1)
        case measure=>have:=HI.out;omega
        case rel=>
          refine ⟨i+1,M,by rw[mt.nx hi (Kd.C_max (Kd.R_reads' RA.out).2.2)],⟨by have:=HI.out;omega⟩,⟨?_⟩,ST,BA,BB,RA⟩
          have e:=HF.out
          rw[List.drop_length,List.foldl_nil]at e
          exact e
    have ei:i=la.length:=by have:=HI.out;omega
    subst ei
    have eL:L=mt.starts la lb:=by
      have e:=HF.out
      rw[List.drop_length,List.foldl_nil]at e
      exact e
    subst eL
    clear HI HF RA
    go_wp2
    rw[← hLF]at HMON hlen HEND
    replace hLF:=Aside0.mk hLF
    go_loopg [12] 32 (fun kq al w'=>∃ (i:Nat) (M:List S68),al=.int .i64 (i:Int)∧Aside0 (32≤i+kq∧i≤32)∧Aside0 (mt.go l0_4 l1_4 kq i M=LF)∧Aside0 (mt.St (fun _=>True) gL gS gM w w' M)∧
      Aside0 (w'.heap[gA]?=some (.cells #[.int .i64 a0_0,.int .i64 a0_1,.int .i64 a0_2,.int .i64 a0_3,.slice A0_4 l0_4.length c0_4] 39 (0,0)))∧Aside0 (w'.heap[gB]?=some (.cells #[.int .i64 a1_0,.int .i64 a1_1,.int .i64 a1_2,.int .i64 a1_3,.slice A1_4 l1_4.length c1_4] 39 (0,0))))
    case atStart=>exact ⟨0,_,rfl,⟨by omega⟩,⟨hLF.out.symm⟩,ST,BA,BB⟩
    case round=>
      clear ST BA BB
      obtain ⟨i,M,rfl,HI,HF,ST,BA,BB⟩:=hrel
      obtain ⟨vL,hvL,hoL⟩:=ST.out.row
      obtain ⟨AL,cL,eL⟩:=Kd.R_slice hoL
      subst eL
      have hcL:_=some (Value.slice AL M.length cL):=blk_cell hvL 0
      by_cases hi:i<M.length
      · by_cases hm:M.length≤31
        · have q1:(i:Int)<(M.length:Int):=by omega
          have q2:(M.length:Int)≤31:=by omega
          have d1:decide ((i:Int)<(M.length:Int))=true:=decide_eq_true q1
          have d2:decide ((M.length:Int)≤31)=true:=decide_eq_true q2
          obtain ⟨ad,ead,hx0,hx1⟩:=at_T68 (Kd.R_reads' hoL).2.2 (i:Int) (by omega) q1
          subst ead
          rw[Int.toNat_natCast]at hx0 hx1
          have hP:M.getD i z68=rd_T68 M i:=by unfold rd_T68;rw[Int.toNat_natCast]
          generalize rd_T68 M (i:Int)=X at *
          clear hoL
          have HVL:=Aside0.mk hvL
          clear hvL
          go_wp2_with (first
            | ((with_reducible refine gate_dst (N:=13) rfl ?_);refine bx_ 13 #[.int .i64 0,.int .i64 0] 68 ?_;intro gP hgP w9 hbk hb1;have GP:=Aside0.mk hgP;have BP:=Aside0.mk hbk;have HB9:=Aside0.mk hb1;have hc9:w9.cell? ⟨gP,0,none⟩=some (.int .i64 0):=blk_cell hbk 0;have hc9b:w9.cell? ⟨gP,1,none⟩=some (.int .i64 0):=blk_cell hbk 1;have hf9:=blk_frozen BP.out 0;have hf9b:=blk_frozen BP.out 1;clear hgP hbk hb1)
            | ((with_reducible refine gate_store (t:=68) (p:=13) rfl ?_);refine store_event (t:=68) (p:=13) (v:=?vo2) (w1:=((w9.setCell ⟨gP,0,none⟩ (.int .i64 X.f0)).setCell ⟨gP,1,none⟩ (.int .i64 X.f1))) ?hg ?ho ?hn ?hr ?_;(case ho=>rfl);(case hg=>rfl);(case hn=>rfl);(case hr=>first|(go_simp;done)|(go_simp;rfl));intro am hw;obtain ⟨hb10,hbk10⟩:=mt.put2 (x:=.int .i64 X.f0) (y:=.int .i64 X.f1) HB9.out (Nat.le_of_eq GP.out.symm) BP.out;rw[← hw]at hb10 hbk10;have ST2:=Aside0.mk (ST.out.new hb10 (Nat.le_of_eq GP.out.symm));replace BA:=Aside0.mk (blk_below BA.out hb10);replace BB:=Aside0.mk (blk_below BB.out hb10);replace BP:=Aside0.mk hbk10;clear hb10 hbk10 hc9 hc9b hf9 hf9b hx0 hx1 hcL HVL ST hw;have hcA4:am.cell? ⟨gA,4,none⟩=some (.slice A0_4 l0_4.length c0_4):=blk_cell BA.out 4)
            | fail)
          obtain ⟨g2,hg2⟩:∃ g,g=gk:=⟨_,rfl⟩
          go_loopg [61] l0_4.length (fun kq an w'=>∃ (j:Nat) (N:List S68),an=.int .i64 (j:Int)∧Aside0 (j≤l0_4.length∧l0_4.length - j≤kq)∧Aside0 ((l0_4.drop j).foldl (mt.row1 l1_4 X) N=mt.step l0_4 l1_4 X M)∧Aside0 (mt.St (fun k=>True∧k≠gP) gL gS gM w w' N)∧
            Aside0 (w'.heap[gA]?=some (.cells #[.int .i64 a0_0,.int .i64 a0_1,.int .i64 a0_2,.int .i64 a0_3,.slice A0_4 l0_4.length c0_4] 39 (0,0)))∧Aside0 (w'.heap[gB]?=some (.cells #[.int .i64 a1_0,.int .i64 a1_1,.int .i64 a1_2,.int .i64 a1_3,.slice A1_4 l1_4.length c1_4] 39 (0,0)))∧
            Aside0 (w'.heap[gP]?=some (.cells #[.int .i64 X.f0,.int .i64 X.f1] 68 (0,0))))
          case atStart=>exact ⟨0,M,rfl,⟨Nat.zero_le _,Nat.le_refl _⟩,⟨rfl⟩,ST2,BA,BB,BP⟩
          case round=>
            clear ST2 BA BB BP
            obtain ⟨j,N,rfl,HJ,HF2,ST,BA,BB,BP⟩:=hrel
            by_cases hj:j<l0_4.length
            · have q3:(j:Int)<(l0_4.length:Int):=by omega
              obtain ⟨ed,eed,he0,he1,he2,he3⟩:=at_T58 HR0.out (j:Int) (by omega) q3
              subst eed
              rw[Int.toNat_natCast]at he0 he1 he2 he3
              replace he0:=(ST.out.B.cell (World.block_lt_of_cell? w _ he0)).trans he0
              replace he1:=(ST.out.B.cell (World.block_lt_of_cell? w _ he1)).trans he1
              replace he2:=(ST.out.B.cell (World.block_lt_of_cell? w _ he2)).trans he2
              replace he3:=(ST.out.B.cell (World.block_lt_of_cell? w _ he3)).trans he3
              have hdr:l0_4.drop j=rd_T58 l0_4 j :: l0_4.drop (j+1):=mt.drop58 l0_4 j hj
              have hE:=ok0 _ (mt.mem58 l0_4 j hj)
              generalize rd_T58 l0_4 (j:Int)=E at *
              go_wp2_with (first
                | ((with_reducible refine gate_dst (N:=15) rfl ?_);refine bx_ 15 #[.int .i64 0,.int .i64 0,.int .i64 0,.int .i64 0] 58 ?_;intro gE hgE ah hbk hb1;have GE:=Aside0.mk hgE;have BE:=Aside0.mk hbk;have HB11:=Aside0.mk hb1;have hz0:ah.cell? ⟨gE,0,none⟩=some (.int .i64 0):=blk_cell hbk 0;have hz1:ah.cell? ⟨gE,1,none⟩=some (.int .i64 0):=blk_cell hbk 1;have hz2:ah.cell? ⟨gE,2,none⟩=some (.int .i64 0):=blk_cell hbk 2;have hz3:ah.cell? ⟨gE,3,none⟩=some (.int .i64 0):=blk_cell hbk 3;have ac:=blk_frozen BE.out 0;have ae:=blk_frozen BE.out 1;have af:=blk_frozen BE.out 2;have ag:=blk_frozen BE.out 3;clear hgE hbk hb1)
                | ((with_reducible refine gate_store (t:=58) (p:=15) rfl ?_);refine store_event (t:=58) (p:=15) (v:=?vo3) (w1:=((((ah.setCell ⟨gE,0,none⟩ (.int .i64 E.f0)).setCell ⟨gE,1,none⟩ (.int .i64 E.f1)).setCell ⟨gE,2,none⟩ (.int .i64 E.f2)).setCell ⟨gE,3,none⟩ (.int .i64 E.f3))) ?hg ?ho ?hn ?hr ?_;(case ho=>rfl);(case hg=>rfl);(case hn=>rfl);(case hr=>first|(go_simp;done)|(go_simp;rfl));intro ao hw;obtain ⟨hb12,hbk12⟩:=mt.put4 (x:=.int .i64 E.f0) (y:=.int .i64 E.f1) (z:=.int .i64 E.f2) (u:=.int .i64 E.f3) HB11.out (Nat.le_of_eq GE.out.symm) BE.out;rw[← hw]at hb12 hbk12;have ST3:=Aside0.mk (ST.out.below hb12);replace BA:=Aside0.mk (blk_below BA.out hb12);replace BB:=Aside0.mk (blk_below BB.out hb12);replace BP:=Aside0.mk (blk_below BP.out hb12);replace BE:=Aside0.mk hbk12;clear hb12 hbk12 hz0 hz1 hz2 hz3 ac ae af ag he0 he1 he2 he3 ST hw;have hcB4:ao.cell? ⟨gB,4,none⟩=some (.slice A1_4 l1_4.length c1_4):=blk_cell BB.out 4)
                | fail)
              obtain ⟨g3,hg3⟩:∃ g,g=gk:=⟨_,rfl⟩
              go_loopg [68] l1_4.length (fun kq ap w'=>∃ (m:Nat) (K:List S68),ap=.int .i64 (m:Int)∧Aside0 (m≤l1_4.length∧l1_4.length - m≤kq)∧Aside0 ((l1_4.drop m).foldl (fun L f=>mt.one X E f L) K=mt.row1 l1_4 X N E)∧Aside0 (mt.St (fun k=>True∧k≠gP) gL gS gM w w' K)∧
                Aside0 (w'.heap[gA]?=some (.cells #[.int .i64 a0_0,.int .i64 a0_1,.int .i64 a0_2,.int .i64 a0_3,.slice (some ed) l0_4.length c0_4] 39 (0,0)))∧Aside0 (w'.heap[gB]?=some (.cells #[.int .i64 a1_0,.int .i64 a1_1,.int .i64 a1_2,.int .i64 a1_3,.slice A1_4 l1_4.length c1_4] 39 (0,0)))∧
                Aside0 (w'.heap[gP]?=some (.cells #[.int .i64 X.f0,.int .i64 X.f1] 68 (0,0)))∧Aside0 (w'.heap[gE]?=some (.cells #[.int .i64 E.f0,.int .i64 E.f1,.int .i64 E.f2,.int .i64 E.f3] 58 (0,0))))
              case atStart=>exact ⟨0,N,rfl,⟨Nat.zero_le _,Nat.le_refl _⟩,⟨rfl⟩,ST3,BA,BB,BP,BE⟩
              case round=>
                clear ST3 BA BB BP BE
                obtain ⟨m,K,rfl,HM,HF3,ST,BA,BB,BP,BE⟩:=hrel
                by_cases hm2:m<l1_4.length
                · have q4:(m:Int)<(l1_4.length:Int):=by omega
                  obtain ⟨fd,efd,hf0,hf1,hf2,hf3⟩:=at_T58 HR1.out (m:Int) (by omega) q4
                  subst efd
                  rw[Int.toNat_natCast]at hf0 hf1 hf2 hf3
                  replace hf0:=(ST.out.B.cell (World.block_lt_of_cell? w _ hf0)).trans hf0
                  replace hf1:=(ST.out.B.cell (World.block_lt_of_cell? w _ hf1)).trans hf1
                  replace hf2:=(ST.out.B.cell (World.block_lt_of_cell? w _ hf2)).trans hf2
                  replace hf3:=(ST.out.B.cell (World.block_lt_of_cell? w _ hf3)).trans hf3
                  have hdr2:l1_4.drop m=rd_T58 l1_4 m :: l1_4.drop (m+1):=mt.drop58 l1_4 m hm2
                  have hF:=ok1 _ (mt.mem58 l1_4 m hm2)
                  generalize rd_T58 l1_4 (m:Int)=F at *
                  have hKL:K.length<1000000000:=by
                    have e:=HF3.out
                    have e1:=mt.fold_le (fun L f=>mt.one X E f L) (fun L f=>mt.one_le X E f L) (l1_4.drop m) K
                    rw[e]at e1
                    have f:=HF2.out
                    rw[hdr,List.foldl_cons]at f
                    have e2:=mt.fold_le (mt.row1 l1_4 X) (fun L e=>mt.fold_le _ (fun L f=>mt.one_le X e f L) l1_4 L) (l0_4.drop (j+1)) (mt.row1 l1_4 X N E)
                    rw[f]at e2
                    have e3:=mt.go_step HF.out HI.out hi hm hP
                    omega
                  rcases hb1:(E.f0 == X.f0) with _|_
                  · skip
                    go_wp2_with (first
                      | ((with_reducible refine gate_dst (N:=17) rfl ?_);refine bx_ 17 #[.int .i64 0,.int .i64 0,.int .i64 0,.int .i64 0] 58 ?_;intro gF hgF ab hbk hb1;have GF:=Aside0.mk hgF;have BF:=Aside0.mk hbk;have HB13:=Aside0.mk hb1;have hz0:ab.cell? ⟨gF,0,none⟩=some (.int .i64 0):=blk_cell hbk 0;have hz1:ab.cell? ⟨gF,1,none⟩=some (.int .i64 0):=blk_cell hbk 1;have hz2:ab.cell? ⟨gF,2,none⟩=some (.int .i64 0):=blk_cell hbk 2;have hz3:ab.cell? ⟨gF,3,none⟩=some (.int .i64 0):=blk_cell hbk 3;have ac:=blk_frozen BF.out 0;have ae:=blk_frozen BF.out 1;have af:=blk_frozen BF.out 2;have ag:=blk_frozen BF.out 3;clear hgF hbk hb1)
                      | ((with_reducible refine gate_store (t:=58) (p:=17) rfl ?_);refine store_event (t:=58) (p:=17) (v:=?vo4) (w1:=((((ab.setCell ⟨gF,0,none⟩ (.int .i64 F.f0)).setCell ⟨gF,1,none⟩ (.int .i64 F.f1)).setCell ⟨gF,2,none⟩ (.int .i64 F.f2)).setCell ⟨gF,3,none⟩ (.int .i64 F.f3))) ?hg ?ho ?hn ?hr ?_;(case ho=>rfl);(case hg=>rfl);(case hn=>rfl);(case hr=>first|(go_simp;done)|(go_simp;rfl));intro aa hw;obtain ⟨hb14,hbk14⟩:=mt.put4 (x:=.int .i64 F.f0) (y:=.int .i64 F.f1) (z:=.int .i64 F.f2) (u:=.int .i64 F.f3) HB13.out (Nat.le_of_eq GF.out.symm) BF.out;rw[← hw]at hb14 hbk14;have ST4:=Aside0.mk (ST.out.below hb14);replace BA:=Aside0.mk (blk_below BA.out hb14);replace BB:=Aside0.mk (blk_below BB.out hb14);replace BP:=Aside0.mk (blk_below BP.out hb14);replace BE:=Aside0.mk (blk_below BE.out hb14);replace BF:=Aside0.mk hbk14;clear hb14 hbk14 hz0 hz1 hz2 hz3 ac ae af ag hf0 hf1 hf2 hf3 ST hw;have he0:aa.cell? ⟨gE,0,none⟩=some (.int .i64 E.f0):=blk_cell BE.out 0;have he1:aa.cell? ⟨gE,1,none⟩=some (.int .i64 E.f1):=blk_cell BE.out 1;have he2:aa.cell? ⟨gE,2,none⟩=some (.int .i64 E.f2):=blk_cell BE.out 2;have hf0:aa.cell? ⟨gF,0,none⟩=some (.int .i64 F.f0):=blk_cell BF.out 0;have hf1:aa.cell? ⟨gF,1,none⟩=some (.int .i64 F.f1):=blk_cell BF.out 1;have hf2:aa.cell? ⟨gF,2,none⟩=some (.int .i64 F.f2):=blk_cell BF.out 2;have hp0:aa.cell? ⟨gP,0,none⟩=some (.int .i64 X.f0):=blk_cell BP.out 0;have hp1:aa.cell? ⟨gP,1,none⟩=some (.int .i64 X.f1):=blk_cell BP.out 1)
                      | fail)
                    go_roundg (gk - 1)
                    case measure=>have:=HM.out;omega
                    case rel=>
                      refine ⟨m+1,K,by rw[mt.nx hm2 (Kd.C_max HR1.out)],⟨by have:=HM.out;omega⟩,⟨?_⟩,ST4,BA,BB,BP,BE⟩
                      have e:=HF3.out
                      rw[hdr2,List.foldl_cons]at e
                      rw[show mt.one X E F K=K from if_neg (by intro hh;simp[hh.1]at hb1)]at e
                      exact e
                  rcases hb2:(F.f0 == X.f1) with _|_
                  · skip
                    go_wp2_with (first
                      | ((with_reducible refine gate_dst (N:=17) rfl ?_);refine bx_ 17 #[.int .i64 0,.int .i64 0,.int .i64 0,.int .i64 0] 58 ?_;intro gF hgF ab hbk hb1;have GF:=Aside0.mk hgF;have BF:=Aside0.mk hbk;have HB13:=Aside0.mk hb1;have hz0:ab.cell? ⟨gF,0,none⟩=some (.int .i64 0):=blk_cell hbk 0;have hz1:ab.cell? ⟨gF,1,none⟩=some (.int .i64 0):=blk_cell hbk 1;have hz2:ab.cell? ⟨gF,2,none⟩=some (.int .i64 0):=blk_cell hbk 2;have hz3:ab.cell? ⟨gF,3,none⟩=some (.int .i64 0):=blk_cell hbk 3;have ac:=blk_frozen BF.out 0;have ae:=blk_frozen BF.out 1;have af:=blk_frozen BF.out 2;have ag:=blk_frozen BF.out 3;clear hgF hbk hb1)
                      | ((with_reducible refine gate_store (t:=58) (p:=17) rfl ?_);refine store_event (t:=58) (p:=17) (v:=?vo5) (w1:=((((ab.setCell ⟨gF,0,none⟩ (.int .i64 F.f0)).setCell ⟨gF,1,none⟩ (.int .i64 F.f1)).setCell ⟨gF,2,none⟩ (.int .i64 F.f2)).setCell ⟨gF,3,none⟩ (.int .i64 F.f3))) ?hg ?ho ?hn ?hr ?_;(case ho=>rfl);(case hg=>rfl);(case hn=>rfl);(case hr=>first|(go_simp;done)|(go_simp;rfl));intro aa hw;obtain ⟨hb14,hbk14⟩:=mt.put4 (x:=.int .i64 F.f0) (y:=.int .i64 F.f1) (z:=.int .i64 F.f2) (u:=.int .i64 F.f3) HB13.out (Nat.le_of_eq GF.out.symm) BF.out;rw[← hw]at hb14 hbk14;have ST4:=Aside0.mk (ST.out.below hb14);replace BA:=Aside0.mk (blk_below BA.out hb14);replace BB:=Aside0.mk (blk_below BB.out hb14);replace BP:=Aside0.mk (blk_below BP.out hb14);replace BE:=Aside0.mk (blk_below BE.out hb14);replace BF:=Aside0.mk hbk14;clear hb14 hbk14 hz0 hz1 hz2 hz3 ac ae af ag hf0 hf1 hf2 hf3 ST hw;have he0:aa.cell? ⟨gE,0,none⟩=some (.int .i64 E.f0):=blk_cell BE.out 0;have he1:aa.cell? ⟨gE,1,none⟩=some (.int .i64 E.f1):=blk_cell BE.out 1;have he2:aa.cell? ⟨gE,2,none⟩=some (.int .i64 E.f2):=blk_cell BE.out 2;have hf0:aa.cell? ⟨gF,0,none⟩=some (.int .i64 F.f0):=blk_cell BF.out 0;have hf1:aa.cell? ⟨gF,1,none⟩=some (.int .i64 F.f1):=blk_cell BF.out 1;have hf2:aa.cell? ⟨gF,2,none⟩=some (.int .i64 F.f2):=blk_cell BF.out 2;have hp0:aa.cell? ⟨gP,0,none⟩=some (.int .i64 X.f0):=blk_cell BP.out 0;have hp1:aa.cell? ⟨gP,1,none⟩=some (.int .i64 X.f1):=blk_cell BP.out 1)
                      | fail)
                    go_roundg (gk - 1)
                    case measure=>have:=HM.out;omega
                    case rel=>
                      refine ⟨m+1,K,by rw[mt.nx hm2 (Kd.C_max HR1.out)],⟨by have:=HM.out;omega⟩,⟨?_⟩,ST4,BA,BB,BP,BE⟩
                      have e:=HF3.out
                      rw[hdr2,List.foldl_cons]at e
                      rw[show mt.one X E F K=K from if_neg (by intro hh;simp[hh.2.1]at hb2)]at e
                      exact e
                  rcases hb3:(E.f1 == F.f1) with _|_
                  · skip
                    go_wp2_with (first
                      | ((with_reducible refine gate_dst (N:=17) rfl ?_);refine bx_ 17 #[.int .i64 0,.int .i64 0,.int .i64 0,.int .i64 0] 58 ?_;intro gF hgF ab hbk hb1;have GF:=Aside0.mk hgF;have BF:=Aside0.mk hbk;have HB13:=Aside0.mk hb1;have hz0:ab.cell? ⟨gF,0,none⟩=some (.int .i64 0):=blk_cell hbk 0;have hz1:ab.cell? ⟨gF,1,none⟩=some (.int .i64 0):=blk_cell hbk 1;have hz2:ab.cell? ⟨gF,2,none⟩=some (.int .i64 0):=blk_cell hbk 2;have hz3:ab.cell? ⟨gF,3,none⟩=some (.int .i64 0):=blk_cell hbk 3;have ac:=blk_frozen BF.out 0;have ae:=blk_frozen BF.out 1;have af:=blk_frozen BF.out 2;have ag:=blk_frozen BF.out 3;clear hgF hbk hb1)
                      | ((with_reducible refine gate_store (t:=58) (p:=17) rfl ?_);refine store_event (t:=58) (p:=17) (v:=?vo6) (w1:=((((ab.setCell ⟨gF,0,none⟩ (.int .i64 F.f0)).setCell ⟨gF,1,none⟩ (.int .i64 F.f1)).setCell ⟨gF,2,none⟩ (.int .i64 F.f2)).setCell ⟨gF,3,none⟩ (.int .i64 F.f3))) ?hg ?ho ?hn ?hr ?_;(case ho=>rfl);(case hg=>rfl);(case hn=>rfl);(case hr=>first|(go_simp;done)|(go_simp;rfl));intro aa hw;obtain ⟨hb14,hbk14⟩:=mt.put4 (x:=.int .i64 F.f0) (y:=.int .i64 F.f1) (z:=.int .i64 F.f2) (u:=.int .i64 F.f3) HB13.out (Nat.le_of_eq GF.out.symm) BF.out;rw[← hw]at hb14 hbk14;have ST4:=Aside0.mk (ST.out.below hb14);replace BA:=Aside0.mk (blk_below BA.out hb14);replace BB:=Aside0.mk (blk_below BB.out hb14);replace BP:=Aside0.mk (blk_below BP.out hb14);replace BE:=Aside0.mk (blk_below BE.out hb14);replace BF:=Aside0.mk hbk14;clear hb14 hbk14 hz0 hz1 hz2 hz3 ac ae af ag hf0 hf1 hf2 hf3 ST hw;have he0:aa.cell? ⟨gE,0,none⟩=some (.int .i64 E.f0):=blk_cell BE.out 0;have he1:aa.cell? ⟨gE,1,none⟩=some (.int .i64 E.f1):=blk_cell BE.out 1;have he2:aa.cell? ⟨gE,2,none⟩=some (.int .i64 E.f2):=blk_cell BE.out 2;have hf0:aa.cell? ⟨gF,0,none⟩=some (.int .i64 F.f0):=blk_cell BF.out 0;have hf1:aa.cell? ⟨gF,1,none⟩=some (.int .i64 F.f1):=blk_cell BF.out 1;have hf2:aa.cell? ⟨gF,2,none⟩=some (.int .i64 F.f2):=blk_cell BF.out 2;have hp0:aa.cell? ⟨gP,0,none⟩=some (.int .i64 X.f0):=blk_cell BP.out 0;have hp1:aa.cell? ⟨gP,1,none⟩=some (.int .i64 X.f1):=blk_cell BP.out 1)
                      | fail)
                    go_roundg (gk - 1)
                    case measure=>have:=HM.out;omega
                    case rel=>
                      refine ⟨m+1,K,by rw[mt.nx hm2 (Kd.C_max HR1.out)],⟨by have:=HM.out;omega⟩,⟨?_⟩,ST4,BA,BB,BP,BE⟩
                      have e:=HF3.out
                      rw[hdr2,List.foldl_cons]at e
                      rw[show mt.one X E F K=K from if_neg (by intro hh;simp[hh.2.2]at hb3)]at e
                      exact e
                  go_wp2_with (first
                    | ((with_reducible refine gate_dst (N:=17) rfl ?_);refine bx_ 17 #[.int .i64 0,.int .i64 0,.int .i64 0,.int .i64 0] 58 ?_;intro gF hgF ab hbk hb1;have GF:=Aside0.mk hgF;have BF:=Aside0.mk hbk;have HB13:=Aside0.mk hb1;have hz0:ab.cell? ⟨gF,0,none⟩=some (.int .i64 0):=blk_cell hbk 0;have hz1:ab.cell? ⟨gF,1,none⟩=some (.int .i64 0):=blk_cell hbk 1;have hz2:ab.cell? ⟨gF,2,none⟩=some (.int .i64 0):=blk_cell hbk 2;have hz3:ab.cell? ⟨gF,3,none⟩=some (.int .i64 0):=blk_cell hbk 3;have ac:=blk_frozen BF.out 0;have ae:=blk_frozen BF.out 1;have af:=blk_frozen BF.out 2;have ag:=blk_frozen BF.out 3;clear hgF hbk hb1)
                    | ((with_reducible refine gate_store (t:=58) (p:=17) rfl ?_);refine store_event (t:=58) (p:=17) (v:=?vo7) (w1:=((((ab.setCell ⟨gF,0,none⟩ (.int .i64 F.f0)).setCell ⟨gF,1,none⟩ (.int .i64 F.f1)).setCell ⟨gF,2,none⟩ (.int .i64 F.f2)).setCell ⟨gF,3,none⟩ (.int .i64 F.f3))) ?hg ?ho ?hn ?hr ?_;(case ho=>rfl);(case hg=>rfl);(case hn=>rfl);(case hr=>first|(go_simp;done)|(go_simp;rfl));intro aa hw;obtain ⟨hb14,hbk14⟩:=mt.put4 (x:=.int .i64 F.f0) (y:=.int .i64 F.f1) (z:=.int .i64 F.f2) (u:=.int .i64 F.f3) HB13.out (Nat.le_of_eq GF.out.symm) BF.out;rw[← hw]at hb14 hbk14;have ST4:=Aside0.mk (ST.out.below hb14);replace BA:=Aside0.mk (blk_below BA.out hb14);replace BB:=Aside0.mk (blk_below BB.out hb14);replace BP:=Aside0.mk (blk_below BP.out hb14);replace BE:=Aside0.mk (blk_below BE.out hb14);replace BF:=Aside0.mk hbk14;clear hb14 hbk14 hz0 hz1 hz2 hz3 ac ae af ag hf0 hf1 hf2 hf3 ST hw;have he0:aa.cell? ⟨gE,0,none⟩=some (.int .i64 E.f0):=blk_cell BE.out 0;have he1:aa.cell? ⟨gE,1,none⟩=some (.int .i64 E.f1):=blk_cell BE.out 1;have he2:aa.cell? ⟨gE,2,none⟩=some (.int .i64 E.f2):=blk_cell BE.out 2;have hf0:aa.cell? ⟨gF,0,none⟩=some (.int .i64 F.f0):=blk_cell BF.out 0;have hf1:aa.cell? ⟨gF,1,none⟩=some (.int .i64 F.f1):=blk_cell BF.out 1;have hf2:aa.cell? ⟨gF,2,none⟩=some (.int .i64 F.f2):=blk_cell BF.out 2;have hp0:aa.cell? ⟨gP,0,none⟩=some (.int .i64 X.f0):=blk_cell BP.out 0;have hp1:aa.cell? ⟨gP,1,none⟩=some (.int .i64 X.f1):=blk_cell BP.out 1)
                    | (go_at_call 56;refine (mt.add_calls ST4.out (fun k hk=>⟨trivial,fun e=>by have:=blk_lt BP.out;omega⟩) hE hF hKL).mono ?_;rintro e aq ⟨rfl,st,fr⟩;replace ST4:=Aside0.mk st;replace BA:=Aside0.mk (fr.2 gA _ _ BA.out (by decide) (fun e=>absurd e (by decide)));replace BB:=Aside0.mk (fr.2 gB _ _ BB.out (by decide) (fun e=>absurd e (by decide)));replace BE:=Aside0.mk (fr.2 gE _ _ BE.out (by decide) (fun e=>absurd e (by decide)));replace BP:=Aside0.mk (fr.2 gP _ _ BP.out (by decide) (fun _ h=>h.2 rfl));clear st fr)
                    | fail)
                  go_roundg (gk - 1)
                  case measure=>have:=HM.out;omega
                  case rel=>
                    refine ⟨m+1,mt.add K E.f2 F.f2,by rw[mt.nx hm2 (Kd.C_max HR1.out)],⟨by have:=HM.out;omega⟩,⟨?_⟩,ST4,BA,BB,BP,BE⟩
                    have e:=HF3.out
                    rw[hdr2,List.foldl_cons]at e
                    rw[show mt.one X E F K=mt.add K E.f2 F.f2 from if_pos ⟨by simpa using hb1,by simpa using hb2,by simpa using hb3⟩]at e
                    exact e
                have em:m=l1_4.length:=by have:=HM.out;omega
                subst em
                go_wp2
                go_roundg (g3 - 1)
                case measure=>have:=HJ.out;omega
                case rel=>
                  refine ⟨j+1,K,by rw[mt.nx hj (Kd.C_max HR0.out)],⟨by have:=HJ.out;omega⟩,⟨?_⟩,ST,BA,BB,BP⟩
                  have e:=HF3.out
                  rw[List.drop_length,List.foldl_nil]at e
                  have f:=HF2.out
                  rw[hdr,List.foldl_cons,← e]at f
                  exact f
            have ej:j=l0_4.length:=by have:=HJ.out;omega
            subst ej
            have eN:N=mt.step l0_4 l1_4 X M:=by
              have e:=HF2.out
              rw[List.drop_length,List.foldl_nil]at e
              exact e
            obtain ⟨hk0,hnext⟩:=mt.go_next HF.out HI.out hi hm hP
            go_wp2
            go_roundg (g2 - 1)
            case measure=>omega
            case rel=>
              refine ⟨i+1,N,by first|rfl|simp,⟨by have:=HI.out;omega⟩,⟨?_⟩,Aside0.mk (ST.out.mono (fun _ h=>h.1)),BA,BB⟩
              rw[eN,hg2]
              exact hnext
        have EM:Aside0 (M=LF):=Aside0.mk ((mt.go_end (fun h=>hm h.2)).symm.trans HF.out)
        have q1:decide ((i:Int)<(M.length:Int))=true:=decide_eq_true (by omega)
        have q2:decide ((M.length:Int)≤31)=false:=decide_eq_false (by omega)
        have HVL:=Aside0.mk hvL
        have HOL:=Aside0.mk hoL
        clear hvL hoL
        go_wp2_with (first
          | ((with_reducible refine gate_callee (f:=57) rfl ?_);refine goesL_ (some 101) rfl rfl Tryz.func57 (by kernel_rfl) rfl #[.slice AL M.length cL,.func (.func 58) #[] #[]] rfl (by (try simp only[List.map_toArray,List.map_cons,List.map_nil]);first|done|rfl|(go_simp;rfl)) ?_;(with_reducible refine (impl_pair_57.calls (fun k=>True∧k≠gL) _ M r w _ ST.out.B (Kd.R_types HOL.out HVL.out (by decide)) (EM.out.symm ▸ HEND.out)).mono ?_);rintro e ai ⟨rfl,ho,hb,hk⟩;refine ⟨_,rfl,?_⟩;have HO:=Aside0.mk ho;have HBB:=Aside0.mk hb;have hcL2:ai.cell? ⟨gL,0,none⟩=some (.slice AL M.length cL):=blk_cell (blk_kept HVL.out hk (fun h=>h.2 rfl)) 0;clear ho hb hk)
          | fail)
        go_ret
        exact ⟨_,rfl,Kd.R_mono HO.out (fun _ _=>trivial),HBB.out⟩
      have EM:Aside0 (M=LF):=Aside0.mk ((mt.go_end (fun h=>hi h.1)).symm.trans HF.out)
      have q1:decide ((i:Int)<(M.length:Int))=false:=decide_eq_false (by omega)
      have HVL:=Aside0.mk hvL
      have HOL:=Aside0.mk hoL
      clear hvL hoL
      go_wp2_with (first
        | ((with_reducible refine gate_callee (f:=57) rfl ?_);refine goesL_ (some 101) rfl rfl Tryz.func57 (by kernel_rfl) rfl #[.slice AL M.length cL,.func (.func 58) #[] #[]] rfl (by (try simp only[List.map_toArray,List.map_cons,List.map_nil]);first|done|rfl|(go_simp;rfl)) ?_;(with_reducible refine (impl_pair_57.calls (fun k=>True∧k≠gL) _ M r w _ ST.out.B (Kd.R_types HOL.out HVL.out (by decide)) (EM.out.symm ▸ HEND.out)).mono ?_);rintro e ai ⟨rfl,ho,hb,hk⟩;refine ⟨_,rfl,?_⟩;have HO:=Aside0.mk ho;have HBB:=Aside0.mk hb;have hcL2:ai.cell? ⟨gL,0,none⟩=some (.slice AL M.length cL):=blk_cell (blk_kept HVL.out hk (fun h=>h.2 rfl)) 0;clear ho hb hk)
        | fail)
      go_ret
      exact ⟨_,rfl,Kd.R_mono HO.out (fun _ _=>trivial),HBB.out⟩
end Go.Proofs.YtkpeajafgldpbaaGreat.MFnExactAutoMeet
