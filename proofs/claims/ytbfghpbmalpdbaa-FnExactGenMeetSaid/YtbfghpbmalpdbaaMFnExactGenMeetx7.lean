import Derived.Test.YtbfghpbmalpdbaaMFnExactGenMeetx0
namespace Go.Proofs.Ytbfghpbmalpdbaa.MFnExactGenMeet
open Go.RowKit Go.Proofs.YtbfghpbmalpdbaaW.PrintWords Go.Proofs.YtbfghpbmalpdbaaW.PrintLast Go.Proofs.YtbfghpbmalpdbaaW.PrintMore Go.Proofs.Ytbfghpbmalpdbaa.Short6
attribute [local go_sem] max2_int min2_int max_two min_two max_three min_three max_four min_four
set_option linter.unusedVariables false
set_option linter.unusedSimpArgs false
def laws_toGEdge.f (a0_0:Int) (a0_1:Int) (a0_2:Int) (a0_3:Int):Option (Int × Int × Int × Int):=some (a0_0,a0_1,a0_2,a0_3)
open Go.Proofs.Ytbfghpbmalpdbaa.Short2 in
set_option maxHeartbeats 8000000 in
set_option maxRecDepth 100000 in
theorem laws_toGEdge.calls (a0_0:Int) (a0_1:Int) (a0_2:Int) (a0_3:Int) (r1:Int) (r2:Int) (r3:Int) (r4:Int) (w:World) (h:laws_toGEdge.f a0_0 a0_1 a0_2 a0_3=some (r1,r2,r3,r4)) :
  Calls Try.prog 30 #[.agg #[.int .i64 a0_0,.int .i64 a0_1,.int .i64 a0_2,.int .i64 a0_3]] w fun e w'=>e=.returned (.agg #[.int .i64 r1,.int .i64 r2,.int .i64 r3,.int .i64 r4])∧Below w.heap.size w w':=by
 have hu57:=Try.underlying57;have hu43:=Try.underlying43;have HB:=Aside0.mk (Below.refl w.heap.size w);have H:(some (a0_0,a0_1,a0_2,a0_3))=some (r1,r2,r3,r4):=h;clear h;simp only[Option.some.injEq,Prod.mk.injEq]at H;obtain ⟨rfl,rfl,rfl,rfl⟩:=H;go_enter Try.func30,Try.ntmps30;go_wp2_with (first|((with_reducible refine gate_dst (N:=1) rfl ?_);refine bx_ 1 #[.int .i64 a0_0,.int .i64 a0_1,.int .i64 a0_2,.int .i64 a0_3] 57 ?_;intro aK hg w2 hbox hb;have aa:=Aside0.mk (hbox);have aL:=xG HB hg;have aM:=xG HB hg;replace HB:=xS HB hb;clear hb hbox hg)|((with_reducible refine gate_dst (N:=2) rfl ?_);refine bx_ 2 #[.int .i64 0,.int .i64 0,.int .i64 0,.int .i64 0] 43 ?_;intro ag hg w3 hbox hb;have ac:=Aside0.mk (hbox);have aN:=xG HB hg;have aO:=xG HB hg;replace HB:=xS HB hb;have ad:=xN aa hg;have ai:=xM aa hg;replace aa:=xB aa hb;clear hb hbox hg)|((with_reducible refine gate_dst (N:=3) rfl ?_);refine bx_ 3 #[.int .i64 0,.int .i64 0,.int .i64 0,.int .i64 0] 43 ?_;intro aP hg w4 hbox hb;have ah:=Aside0.mk (hbox);have aQ:=xG HB hg;have aR:=xG HB hg;replace HB:=xS HB hb;have ae:=xN aa hg;have aj:=xM aa hg;replace aa:=xB aa hb;have ab:=xN ac hg;have af:=xM ac hg;replace ac:=xB ac hb;clear hb hbox hg;obtain ⟨aS,aT⟩:=nn ad;obtain ⟨aU,aV⟩:=nn ae;obtain ⟨au,av,aw,ax,ay,az,aA,aB⟩:=cz4 aa;obtain ⟨aW,aX⟩:=nn af;obtain ⟨aC,aD,aE,aF,aG,aH,aI,aJ⟩:=cz4 ah;obtain ⟨ak,al,am,an,ao,ap,aq,ar⟩:=cz4 ac));refine bodyPost_ret (results_cell_row rfl _ _ ag 43 #[.int .i64 a0_0,.int .i64 a0_1,.int .i64 a0_2,.int .i64 a0_3] (0,0) _ rfl (by (with_reducible repeat (first|refine blk_drewN ?_ _|refine blk_drew ?_|refine blk_alloc ?_ _));refine blk_put (cs:=#[.int .i64 a0_0,.int .i64 a0_1,.int .i64 a0_2,.int .i64 0]) ?_ 3 _ rfl;(with_reducible repeat (first|refine blk_drewN ?_ _|refine blk_drew ?_|refine blk_alloc ?_ _));refine blk_put (cs:=#[.int .i64 a0_0,.int .i64 a0_1,.int .i64 0,.int .i64 0]) ?_ 2 _ rfl;(with_reducible repeat (first|refine blk_drewN ?_ _|refine blk_drew ?_|refine blk_alloc ?_ _));refine blk_put (cs:=#[.int .i64 a0_0,.int .i64 0,.int .i64 0,.int .i64 0]) ?_ 1 _ rfl;(with_reducible repeat (first|refine blk_drewN ?_ _|refine blk_drew ?_|refine blk_alloc ?_ _));refine blk_put (cs:=#[.int .i64 0,.int .i64 0,.int .i64 0,.int .i64 0]) ?_ 0 _ rfl;(with_reducible repeat (first|refine blk_drewN ?_ _|refine blk_drew ?_|refine blk_alloc ?_ _));refine blk_far ?_ ab.out _;(with_reducible repeat (first|refine blk_drewN ?_ _|refine blk_drew ?_|refine blk_alloc ?_ _));refine blk_far ?_ ab.out _;(with_reducible repeat (first|refine blk_drewN ?_ _|refine blk_drew ?_|refine blk_alloc ?_ _));refine blk_far ?_ ab.out _;(with_reducible repeat (first|refine blk_drewN ?_ _|refine blk_drew ?_|refine blk_alloc ?_ _));refine blk_far ?_ ab.out _;(with_reducible repeat (first|refine blk_drewN ?_ _|refine blk_drew ?_|refine blk_alloc ?_ _));exact ac.out) Try.underlying43 rfl (by kernel_rfl)) rfl ?_;exact ⟨vw,zS HB.out⟩
def laws_toGEdgeS.l0:Nat→List (S57)→List (S43)→Int→Option ((List (S43)))
 | 0,_,_,_=>none
 | k+1,x0,x3,x4=>if x4<(x0.length:Int) then (if 0≤x4 then ((laws_toGEdge.f ((rd_T57 x0 x4).f0) ((rd_T57 x0 x4).f1) ((rd_T57 x0 x4).f2) ((rd_T57 x0 x4).f3)).bind fun bt219=>(if x4<(x3.length:Int) then (laws_toGEdgeS.l0 k x0 (x3.set (x4:Int).toNat (⟨bt219.1,bt219.2.1,bt219.2.2.1,bt219.2.2.2⟩:S43)) (wrap64 (x4+1))) else (none))) else (none)) else (some x3)
def laws_toGEdgeS.f (k:Nat) (l0:List (S57)):Option ((List (S43))):=if 0≤(l0.length:Int) then (if ((l0.length:Int):Int).toNat≤8796093022208 then (laws_toGEdgeS.l0 k l0 (List.replicate ((l0.length:Int):Int).toNat z43) 0) else (none)) else (none)
theorem laws_toGEdgeS.mono_l:∀ k,(∀ y0 y1 y2,LeO (laws_toGEdgeS.l0 k y0 y1 y2) (laws_toGEdgeS.l0 (k+1) y0 y1 y2))
 | 0=>fun _ _ _ r h=>by simp[laws_toGEdgeS.l0]at h
 | k+1=>by
  have ih0:=laws_toGEdgeS.mono_l k
  ·intro y0 y1 y2;unfold laws_toGEdgeS.l0;repeat' first
   | (with_reducible exact ih0 _ _ _)
   | (with_reducible exact LeO.refl _)
   | (with_reducible exact LeO.none _)
   | (with_reducible refine LeO.ite ?_ ?_)
   | (with_reducible refine LeO.bind ?_ (fun _=>?_))
   | exact ih0 _ _ _
   | exact LeO.none _
   | refine LeO.ite ?_ ?_
   | refine LeO.bind ?_ (fun _=>?_)
theorem laws_toGEdgeS.mono:∀ a0 k,LeO (laws_toGEdgeS.f k a0) (laws_toGEdgeS.f (k+1) a0):=by
 intro a0 k;have ih0:=laws_toGEdgeS.mono_l k;unfold laws_toGEdgeS.f;repeat' first
   | (with_reducible exact ih0 _ _ _)
   | (with_reducible exact LeO.refl _)
   | (with_reducible exact LeO.none _)
   | (with_reducible refine LeO.ite ?_ ?_)
   | (with_reducible refine LeO.bind ?_ (fun _=>?_))
   | exact ih0 _ _ _
   | exact LeO.none _
   | refine LeO.ite ?_ ?_
   | refine LeO.bind ?_ (fun _=>?_)
open Go.Proofs.Ytbfghpbmalpdbaa.Short2 in
set_option maxHeartbeats 8000000 in
set_option maxRecDepth 100000 in
theorem laws_toGEdgeS.calls (k:Nat) (A0:Option Addr) (c0:Nat) (l0:List (S57)) (r:List (S43)) (w:World) (hr0:Kd.C k57 w A0 l0.length l0) (hc0:l0.length≤c0) (h:laws_toGEdgeS.f k l0=some r) :
  Calls Try.prog 17 #[.slice A0 l0.length c0] w fun e w'=>∃ v0_:Value,e=.returned (v0_)∧Kd.R k43 43 w' w.heap.size (fun _=>True) v0_ r∧Below w.heap.size w w':=by
 have hu57:=Try.underlying57;have hu43:=Try.underlying43;have HR0:=Aside0.mk hr0;have HC0:=Aside0.mk hc0;clear hr0 hc0;have HB:=Aside0.mk (Below.refl w.heap.size w);have H:(if 0≤(l0.length:Int) then (if ((l0.length:Int):Int).toNat≤8796093022208 then (laws_toGEdgeS.l0 k l0 (List.replicate ((l0.length:Int):Int).toNat z43) 0) else (none)) else (none))=some r:=h;clear h;by_cases c2:0≤(l0.length:Int)
 ·rw[if_pos c2]at H;have aE:=eq_true c2;have aF:decide (0≤(l0.length:Int))=true:=decide_eq_true c2;clear c2;by_cases c3:((l0.length:Int):Int).toNat≤8796093022208
  ·rw[if_pos c3]at H;have aG:=eq_true c3;have aH:decide (((l0.length:Int):Int).toNat≤8796093022208)=true:=decide_eq_true c3;clear c3;obtain ⟨ap,ag⟩:∃ y_:List (S43),y_=(List.replicate ((l0.length:Int):Int).toNat z43):=⟨_,rfl⟩;replace H:(laws_toGEdgeS.l0 k l0 ap 0)=some r:=by first|(rw[ag];with_reducible exact H)|(have H2_:=(Option.bind_some _ _).symm.trans H;rw[ag];with_reducible exact H2_)|(have H2_:=(Option.bind_some _ _).symm.trans H;with_reducible exact H2_)|with_reducible exact H|(rw[ag];exact H)|exact H
   have ao:=Aside0.mk ag;clear ag;have H':=Aside0.mk H;clear H;go_enter Try.func17,Try.ntmps17;go_wp2_with (first|((with_reducible refine gate_dst (N:=7) rfl ?_);refine Kd.R_make k43 _ 43 rfl (N:=7) rfl 26 _ _ rfl (l0.length:Int) rfl rfl Try.underlying26 (.agg #[(.int .i64 0),(.int .i64 0),(.int .i64 0),(.int .i64 0)]) 32 info43 rfl (by decide) (by omega) z43 (ok:=fun _=>True) (okp:=fun _=>True) (k43_mkM _ _ _ z43 ) (fun _ hk=>hk) trivial (oD) (Nat.le_trans (Nat.mul_le_mul_right _ (oD:(l0.length:Int).toNat≤8796093022208)) (by omega)) (Below.refl _ _) (Nat.le_refl _) ?_;intro aI w4 ho5 hb hg_ hnew_;clear hg_ hnew_;(first|rw[← ao.out]at ho5|(simp only[Int.reduceToNat]at ho5;rw[← ao.out]at ho5));have aB:=rW0 ho5 HB;replace HB:=xS HB hb;clear hb ho5));go_loopg [4] k (fun kq v4 w'=>∃ (x3_1:List (S43)) (x4_1:Int),v4=.int .i64 x4_1∧Aside0 (laws_toGEdgeS.l0 kq l0 x3_1 x4_1=some r)∧Aside0 (kq≤k)∧Aside0 (Kd.R k43 43 w' w.heap.size (fun _=>True) aI x3_1)∧Aside0 (Below w.heap.size w w'))
   case atStart=>exact ⟨(ap),(0),vv,H',⟨Nat.le_refl _⟩,⟨zR aB.out⟩,⟨zS HB.out⟩⟩
   case round=>
    clear H';try clear c1
    try clear c2
    try clear aE
    try clear aF
    try clear p2
    try clear c3
    try clear aG
    try clear aH
    obtain ⟨x3_1,x4_1,rfl,HA,HK1,aa,HB⟩:=hrel
    cases gk with
    | zero=>exact absurd HA.out (by simp[laws_toGEdgeS.l0])
    | succ k1=>
     have H:=HA.out;clear HA;simp only[laws_toGEdgeS.l0]at H;by_cases c6:x4_1<(l0.length:Int)
     ·rw[if_pos c6]at H;have aJ:decide (x4_1<(l0.length:Int))=true:=decide_eq_true c6;clear c6;by_cases c7:0≤x4_1
      ·rw[if_pos c7]at H;have aO:decide (0≤x4_1)=true:=decide_eq_true c7;clear c7;replace H:=bI H;obtain ⟨⟨ac,ad,ae,af⟩,aD,H⟩:=H;replace H:(if x4_1<(x3_1.length:Int) then (laws_toGEdgeS.l0 k1 l0 (x3_1.set (x4_1:Int).toNat (⟨ac,ad,ae,af⟩:S43)) (wrap64 (x4_1+1))) else (none))=some r:=H;have A8:=Aside0.mk aD;clear aD;by_cases c9:x4_1<(x3_1.length:Int)
       ·rw[if_pos c9]at H;have aP:decide (x4_1<(x3_1.length:Int))=true:=decide_eq_true c9;clear c9;obtain ⟨am,ah⟩:∃ y_:List (S43),y_=(x3_1.set (x4_1:Int).toNat (⟨ac,ad,ae,af⟩:S43)):=⟨_,rfl⟩;replace H:(laws_toGEdgeS.l0 k1 l0 am (wrap64 (x4_1+1)))=some r:=by first|(rw[ah];with_reducible exact H)|(have H2_:=(Option.bind_some _ _).symm.trans H;rw[ah];with_reducible exact H2_)|(have H2_:=(Option.bind_some _ _).symm.trans H;with_reducible exact H2_)|with_reducible exact H|(rw[ah];exact H)|exact H
        have aC:=Aside0.mk ah;clear ah;have H':=Aside0.mk H;clear H;have an:0≤(x4_1:Int):=oD;have q218:x4_1<(l0.length:Int):=oD;obtain ⟨ad218,e218,ai,aj,ak,al⟩:=at_T57 HR0.out x4_1 an q218
        cases e218
        replace ai:=ct_ HB ai;replace aj:=ct_ HB aj;replace ak:=ct_ HB ak;replace al:=ct_ HB al;replace an:=eq_true an;replace q218:=eq_true q218;go_wp2_with (first|((with_reducible refine gate_callee (f:=30) rfl ?_);refine gl_ (some 20) Try.func30 #[.agg #[.int .i64 ((rd_T57 l0 x4_1).f0),.int .i64 ((rd_T57 l0 x4_1).f1),.int .i64 ((rd_T57 l0 x4_1).f2),.int .i64 ((rd_T57 l0 x4_1).f3)]] ?_;(with_reducible refine (laws_toGEdge.calls ((rd_T57 l0 x4_1).f0) ((rd_T57 l0 x4_1).f1) ((rd_T57 l0 x4_1).f2) ((rd_T57 l0 x4_1).f3) ac ad ae af _ A8.out).mono ?_);rintro e ab ⟨rfl,hb⟩;refine ⟨_,rfl,?_⟩;replace aa:=xR aa hb;replace HB:=xS HB hb;(try clear hb);(try clear hb2);(try clear hk);(try clear hi);have aq:0≤(x4_1:Int):=oD;have q10:(x4_1:Int)<((x3_1.length:Int):Int):=oD;obtain ⟨go10,ar,au,av,gl10,cl10,HG10⟩:=Kd.R_form aa.out (by omega);(first|cases au|(injection au with ea_ en_ ec_;(first|subst ea_|(injection ea_ with ea_;subst ea_));subst ec_;clear en_));have GB10:=Aside0.mk av;have GG10:=Aside0.mk HG10;clear av gl10 HG10;obtain ⟨ce10,hcl10,hM10,hcc10,hfr10⟩:=Kd.R_elem aa.out z43 (x4_1:Int) aq q10;obtain rfl:=k43_openM hM10;have aK:ab.cell? ⟨go10,(x4_1:Int).toNat * 4,none⟩=some (.int .i64 ((rd_T43 x3_1 x4_1).f0)):=hcc10 0 _ rfl;have aL:ab.cell? ⟨go10,(x4_1:Int).toNat * 4+1,none⟩=some (.int .i64 ((rd_T43 x3_1 x4_1).f1)):=hcc10 1 _ rfl;have aM:ab.cell? ⟨go10,(x4_1:Int).toNat * 4+2,none⟩=some (.int .i64 ((rd_T43 x3_1 x4_1).f2)):=hcc10 2 _ rfl;have aN:ab.cell? ⟨go10,(x4_1:Int).toNat * 4+3,none⟩=some (.int .i64 ((rd_T43 x3_1 x4_1).f3)):=hcc10 3 _ rfl;have hf10_0:ab.frozen? ⟨go10,(x4_1:Int).toNat * 4,none⟩=false:=hfr10 0;have hf10_1:ab.frozen? ⟨go10,(x4_1:Int).toNat * 4+1,none⟩=false:=hfr10 1;have hf10_2:ab.frozen? ⟨go10,(x4_1:Int).toNat * 4+2,none⟩=false:=hfr10 2;have hf10_3:ab.frozen? ⟨go10,(x4_1:Int).toNat * 4+3,none⟩=false:=hfr10 3;clear hcl10 hcc10 hfr10 hM10;replace aq:=eq_true aq;replace q10:=eq_true q10;have HX12:=Aside0.mk (show Kd.R k43 43 ab w.heap.size (fun _=>True) (.slice (some ⟨go10,0,none⟩) x3_1.length ar) x3_1 from (zR aa.out));obtain ⟨ce12,hcl12,hM12,hcc12,hfr12⟩:=Kd.R_elem HX12.out z43 (x4_1:Int) (oD) (by have h_:(x4_1:Int)<((x3_1.length:Int):Int):=oD;first|exact h_|(have e_:=(Kd.R_reads' aa.out).1;omega)|simpa using h_);obtain rfl:=k43_openM hM12;have HP12:=Kd.R_seg HX12.out (x4_1:Int) (oD) (by have h_:(x4_1:Int)<((x3_1.length:Int):Int):=oD;first|exact h_|(have e_:=(Kd.R_reads' aa.out).1;omega)|simpa using h_) (seg:=[.int .i64 ac,.int .i64 ad,.int .i64 ae,.int .i64 af]) (j:=0) hcl12 hcc12 (show 4≤4 from by decide) (x':=(⟨ac,ad,ae,af⟩:S43)) (k43_mkM _ _ _ (⟨ac,ad,ae,af⟩:S43) ) (fun _ hk=>hk);have aw:=hcc12 0 _ rfl;(try simp only[show (k43).sz=4 from rfl,Nat.mul_one,Nat.add_zero]at aw);have hf12_0:=hfr12 0;(try simp only[show (k43).sz=4 from rfl,Nat.mul_one,Nat.add_zero]at hf12_0);have ax:=hcc12 1 _ rfl;(try simp only[show (k43).sz=4 from rfl,Nat.mul_one,Nat.add_zero]at ax);have hf12_1:=hfr12 1;(try simp only[show (k43).sz=4 from rfl,Nat.mul_one,Nat.add_zero]at hf12_1);have ay:=hcc12 2 _ rfl;(try simp only[show (k43).sz=4 from rfl,Nat.mul_one,Nat.add_zero]at ay);have hf12_2:=hfr12 2;(try simp only[show (k43).sz=4 from rfl,Nat.mul_one,Nat.add_zero]at hf12_2);have az:=hcc12 3 _ rfl;(try simp only[show (k43).sz=4 from rfl,Nat.mul_one,Nat.add_zero]at az);have hf12_3:=hfr12 3;(try simp only[show (k43).sz=4 from rfl,Nat.mul_one,Nat.add_zero]at hf12_3);clear hcl12 hcc12 hfr12 hM12)|((with_reducible refine gate_store (t:=43) (p:=21) rfl ?_);refine store_event (t:=43) (p:=21) (v:=?vo_w13) (w1:=((((ab.setCell ⟨go10,(x4_1:Int).toNat * 4,none⟩ (.int .i64 ac)).setCell ⟨go10,(x4_1:Int).toNat * 4+1,none⟩ (.int .i64 ad)).setCell ⟨go10,(x4_1:Int).toNat * 4+2,none⟩ (.int .i64 ae)).setCell ⟨go10,(x4_1:Int).toNat * 4+3,none⟩ (.int .i64 af))) ?hg ?ho ?hn ?hr ?_;(case ho=>rfl);(case hg=>rfl);(case hn=>rfl);(case hr=>first|(go_simp;done)|(go_simp;rfl));intro aA hw;have hg:ab.grownBy aA (some go10):=(by rw[hw];exact HP12.2);have hp_:Kd.R k43 43 aA w.heap.size (fun _=>True) (.slice (some ⟨go10,0,none⟩) x3_1.length ar) am:=(by rw[hw,aC.out];exact HP12.1);clear HP12;replace aa:=Aside0.mk (hp_);replace HB:=Aside0.mk ((by rw[hw];exact below_set (below_set (below_set (below_set (HB.out) GB10.out) GB10.out) GB10.out) GB10.out:Below w.heap.size w aA));clear hg hw hp_))
        go_roundg k1
        case measure=>have:=HK1.out;omega
        case rel=>exact ⟨(am),(wrap64 (x4_1+1)),vv,H',⟨by have:=HK1.out;omega⟩,⟨zR aa.out⟩,⟨zS HB.out⟩⟩
       rw[if_neg c9]at H;exact absurd H (by simp)
      rw[if_neg c7]at H;exact absurd H (by simp)
     rw[if_neg c6]at H;have aJ:decide (x4_1<(l0.length:Int))=false:=decide_eq_false c6;clear c6;obtain rfl:=Option.some.inj H;go_wp2;go_ret;exact ⟨_,vw,by (with_reducible repeat (first|apply Kd.R_alloc|apply Kd.R_drewN|apply Kd.R_drew));exact aa.out,zS HB.out⟩
  rw[if_neg c3]at H;exact absurd H (by simp)
 rw[if_neg c2]at H;exact absurd H (by simp)
def laws_toGen.f (k:Nat) (a0_0:Int) (a0_1:Int) (a0_2:Int) (a0_3:Int) (l0_4:List (S57)):Option (Int × Int × Int × Int × (List (S43))):=(laws_toGEdgeS.f k l0_4).bind fun t227=>(some (a0_0,a0_1,a0_2,a0_3,t227))
theorem laws_toGen.mono:∀ a0 a1 a2 a3 a4 k,LeO (laws_toGen.f k a0 a1 a2 a3 a4) (laws_toGen.f (k+1) a0 a1 a2 a3 a4):=by
 intro a0 a1 a2 a3 a4 k;unfold laws_toGen.f;repeat' first
   | (with_reducible exact laws_toGEdgeS.mono _ _)
   | (with_reducible exact LeO.refl _)
   | (with_reducible exact LeO.none _)
   | (with_reducible refine LeO.ite ?_ ?_)
   | (with_reducible refine LeO.bind ?_ (fun _=>?_))
   | exact laws_toGEdgeS.mono _ _
   | exact LeO.none _
   | refine LeO.ite ?_ ?_
   | refine LeO.bind ?_ (fun _=>?_)
open Go.Proofs.Ytbfghpbmalpdbaa.Short2 in
set_option maxHeartbeats 8000000 in
set_option maxRecDepth 100000 in
theorem laws_toGen.calls (k:Nat) (a0_0:Int) (a0_1:Int) (a0_2:Int) (a0_3:Int) (A0_4:Option Addr) (c0_4:Nat) (l0_4:List (S57)) (r1:Int) (r2:Int) (r3:Int) (r4:Int) (r5:List (S43)) (w:World) (hr0_4:Kd.C k57 w A0_4 l0_4.length l0_4) (hc0_4:l0_4.length≤c0_4) (h:laws_toGen.f k a0_0 a0_1 a0_2 a0_3 l0_4=some (r1,r2,r3,r4,r5)) :
  Calls Try.prog 6 #[.agg #[.int .i64 a0_0,.int .i64 a0_1,.int .i64 a0_2,.int .i64 a0_3,.slice A0_4 l0_4.length c0_4]] w fun e w'=>∃ v4_:Value,e=.returned (.agg #[.int .i64 r1,.int .i64 r2,.int .i64 r3,.int .i64 r4,v4_])∧Kd.R k43 43 w' w.heap.size (fun _=>True) v4_ r5∧Below w.heap.size w w':=by
 have hu24:=Try.underlying24;have hu28:=Try.underlying28;have HR0_4:=Aside0.mk hr0_4;have HC0_4:=Aside0.mk hc0_4;clear hr0_4 hc0_4;have HB:=Aside0.mk (Below.refl w.heap.size w);have H:((laws_toGEdgeS.f k l0_4).bind fun ad=>(some (a0_0,a0_1,a0_2,a0_3,ad)))=some (r1,r2,r3,r4,r5):=h;clear h;replace H:=bI H;obtain ⟨ad,an,H⟩:=H;replace H:(some (a0_0,a0_1,a0_2,a0_3,ad))=some (r1,r2,r3,r4,r5):=H;have A2:=Aside0.mk an;clear an;simp only[Option.some.injEq,Prod.mk.injEq]at H;obtain ⟨rfl,rfl,rfl,rfl,rfl⟩:=H;go_enter Try.func6,Try.ntmps6;go_wp2_with (first|((with_reducible refine gate_dst (N:=1) rfl ?_);refine bx_ 1 #[.int .i64 a0_0,.int .i64 a0_1,.int .i64 a0_2,.int .i64 a0_3,.slice A0_4 l0_4.length c0_4] 24 ?_;intro bh hg w3 hbox hb;have aa:=Aside0.mk (hbox);have bi:=xG HB hg;have bj:=xG HB hg;replace HB:=xS HB hb;clear hb hbox hg)|((with_reducible refine gate_dst (N:=2) rfl ?_);refine bx_ 2 #[.int .i64 0,.int .i64 0,.int .i64 0,.int .i64 0,.slice none 0 0] 28 ?_;intro ac hg w4 hbox hb;have ab:=Aside0.mk (hbox);have bk:=xG HB hg;have bl:=xG HB hg;replace HB:=xS HB hb;have af:=xN aa hg;have ao:=xM aa hg;replace aa:=xB aa hb;clear hb hbox hg)|((with_reducible refine gate_dst (N:=3) rfl ?_);refine bx_ 3 #[.int .i64 0,.int .i64 0,.int .i64 0,.int .i64 0,.slice none 0 0] 28 ?_;intro al hg w5 hbox hb;have ae:=Aside0.mk (hbox);have bm:=xG HB hg;have bn:=xG HB hg;replace HB:=xS HB hb;have ag:=xN aa hg;have ap:=xM aa hg;replace aa:=xB aa hb;have ah:=xN ab hg;have ai:=xM ab hg;replace ab:=xB ab hb;clear hb hbox hg;obtain ⟨bo,bp⟩:=nn af;obtain ⟨bq,br⟩:=nn ag;obtain ⟨aX,aY,aZ,ba,bb,bc,bd,be,bf,bg⟩:=cz5 aa;obtain ⟨bs,bt⟩:=nn ai;obtain ⟨ar,au,av,aw,ax,ay,az,aA,aB,aC⟩:=cz5 ae)|((with_reducible refine gate_callee (f:=17) rfl ?_);refine gl_ (some 18) Try.func17 #[.slice A0_4 l0_4.length c0_4] ?_;(with_reducible refine (laws_toGEdgeS.calls k _ _ l0_4 ad _ ?side1 ?side2 A2.out).mono ?_);(case side1=>exact Kd.C_below HR0_4.out (zS HB.out));(case side2=>exact HC0_4.out);rintro e bv ⟨bu,rfl,ho0,hb⟩;refine ⟨_,rfl,?_⟩;have am:=rW0 ho0 HB;replace aa:=xB aa hb;replace ab:=xB ab hb;replace ae:=Aside0.mk (blk_below (g:=al) (o:=.cells #[.int .i64 a0_0,.int .i64 a0_1,.int .i64 a0_2,.int .i64 a0_3,.slice none 0 0] 28 (0,0)) (by (with_reducible repeat (first|refine blk_drewN ?_ _|refine blk_drew ?_|refine blk_alloc ?_ _));refine blk_put (cs:=#[.int .i64 a0_0,.int .i64 a0_1,.int .i64 a0_2,.int .i64 0,.slice none 0 0]) ?_ 3 _ rfl;(with_reducible repeat (first|refine blk_drewN ?_ _|refine blk_drew ?_|refine blk_alloc ?_ _));refine blk_put (cs:=#[.int .i64 a0_0,.int .i64 a0_1,.int .i64 0,.int .i64 0,.slice none 0 0]) ?_ 2 _ rfl;(with_reducible repeat (first|refine blk_drewN ?_ _|refine blk_drew ?_|refine blk_alloc ?_ _));refine blk_put (cs:=#[.int .i64 a0_0,.int .i64 0,.int .i64 0,.int .i64 0,.slice none 0 0]) ?_ 1 _ rfl;(with_reducible repeat (first|refine blk_drewN ?_ _|refine blk_drew ?_|refine blk_alloc ?_ _));refine blk_put (cs:=#[.int .i64 0,.int .i64 0,.int .i64 0,.int .i64 0,.slice none 0 0]) ?_ 0 _ rfl;(with_reducible repeat (first|refine blk_drewN ?_ _|refine blk_drew ?_|refine blk_alloc ?_ _));exact ae.out) hb);replace HB:=xS HB hb;(try clear hb);(try clear hb2);(try clear hk);(try clear hi);(try clear ho0);obtain ⟨aj,ak,aq⟩:=Kd.R_slice am.out;subst aq;obtain ⟨aD,aE,aF,aG,aH,aI,aJ,aK,aL,aM⟩:=cz5 ae;obtain ⟨aN,aO,aP,aQ,aR,aS,aT,aU,aV,aW⟩:=cz5 ab))
 refine bodyPost_ret (results_cell_row rfl _ _ ac 28 #[.int .i64 a0_0,.int .i64 a0_1,.int .i64 a0_2,.int .i64 a0_3,.slice aj ad.length ak] (0,0) _ rfl (by (with_reducible repeat (first|refine blk_drewN ?_ _|refine blk_drew ?_|refine blk_alloc ?_ _));refine blk_put (cs:=#[.int .i64 a0_0,.int .i64 a0_1,.int .i64 a0_2,.int .i64 a0_3,.slice none 0 0]) ?_ 4 _ rfl;(with_reducible repeat (first|refine blk_drewN ?_ _|refine blk_drew ?_|refine blk_alloc ?_ _));refine blk_put (cs:=#[.int .i64 a0_0,.int .i64 a0_1,.int .i64 a0_2,.int .i64 0,.slice none 0 0]) ?_ 3 _ rfl;(with_reducible repeat (first|refine blk_drewN ?_ _|refine blk_drew ?_|refine blk_alloc ?_ _));refine blk_put (cs:=#[.int .i64 a0_0,.int .i64 a0_1,.int .i64 0,.int .i64 0,.slice none 0 0]) ?_ 2 _ rfl;(with_reducible repeat (first|refine blk_drewN ?_ _|refine blk_drew ?_|refine blk_alloc ?_ _));refine blk_put (cs:=#[.int .i64 a0_0,.int .i64 0,.int .i64 0,.int .i64 0,.slice none 0 0]) ?_ 1 _ rfl;(with_reducible repeat (first|refine blk_drewN ?_ _|refine blk_drew ?_|refine blk_alloc ?_ _));refine blk_put (cs:=#[.int .i64 0,.int .i64 0,.int .i64 0,.int .i64 0,.slice none 0 0]) ?_ 0 _ rfl;(with_reducible repeat (first|refine blk_drewN ?_ _|refine blk_drew ?_|refine blk_alloc ?_ _));refine blk_far ?_ ah.out _;(with_reducible repeat (first|refine blk_drewN ?_ _|refine blk_drew ?_|refine blk_alloc ?_ _));exact ab.out) Try.underlying28 rfl (by kernel_rfl)) rfl ?_;exact ⟨_,vw,by (with_reducible repeat (first|apply Kd.R_alloc|apply Kd.R_drewN|apply Kd.R_drew));exact Kd.R_mono (Kd.R_far (p:=⟨ac,4,none⟩) (Kd.R_far (p:=⟨ac,3,none⟩) (Kd.R_far (p:=⟨ac,2,none⟩) (Kd.R_far (p:=⟨ac,1,none⟩) (Kd.R_far (p:=⟨ac,0,none⟩) (Kd.R_far (p:=⟨al,4,none⟩) (Kd.R_types (Kd.R_types am.out ae.out (by decide)) ab.out (by decide)) (fun _ hk=>hk.1.2) (.slice aj ad.length ak)) (fun _ hk=>hk.2) (.int .i64 a0_0)) (fun _ hk=>hk.2) (.int .i64 a0_1)) (fun _ hk=>hk.2) (.int .i64 a0_2)) (fun _ hk=>hk.2) (.int .i64 a0_3)) (fun _ hk=>hk.2) (.slice aj ad.length ak)) (fun _ hk=>trivial),zS HB.out⟩
def impl_only.f (a0:Int):Option (Int):=if 0≤(IntKind.u64.wrap (a0)) then (some (shl .i64 1 (IntKind.u64.wrap (a0)))) else (none)
set_option maxHeartbeats 8000000 in
set_option maxRecDepth 100000 in
theorem impl_only.calls (a0:Int) (r:Int) (w:World) (h:impl_only.f a0=some r) :
    Calls Try.prog 21 #[.int .i64 a0] w fun e w'=>e=.returned (.int .i64 r)∧Drawn0 w w':=by
  have H:(if 0≤(IntKind.u64.wrap (a0)) then (some (shl .i64 1 (IntKind.u64.wrap (a0)))) else (none))=some r:=h;clear h;obtain ⟨ji2,hji2⟩:∃ j_:Int,(IntKind.u64.wrap (a0))=j_:=⟨_,rfl⟩;replace H:(if 0≤(ji2) then (some (shl .i64 1 (ji2))) else (none))=some r:=by first|(rw[hji2]at H;exact H)|(simp only[hji2]at H ⊢;exact H)
  by_cases c3:0≤(ji2)
  · rw[if_pos c3]at H;have aa:=eq_true c3;have ab:decide (0≤(ji2))=true:=decide_eq_true c3;clear c3;obtain ⟨ji4,hji4⟩:∃ j_:Int,(shl .i64 1 (ji2))=j_:=⟨_,rfl⟩;replace H:(some ji4)=some r:=by first|(rw[hji4]at H;exact H)|(simp only[hji4]at H ⊢;exact H)
    have hji4_:(IntKind.i64.wrap (1 * 2 ^ min (ji2).toNat 64))=ji4:=hji4;have hji4z:(ji2)≤64→(IntKind.i64.wrap (1 * 2 ^ (ji2).toNat))=ji4:=shl_small hji4;have hji4u:(IntKind.i64.wrap (2 ^ min (ji2).toNat 64))=ji4:=by have h_:=hji4_;rw[Int.one_mul]at h_;exact h_
    have hji4v:(ji2)≤64→(IntKind.i64.wrap (2 ^ (ji2).toNat))=ji4:=fun hle_=>by have h_:=hji4z hle_;rw[Int.one_mul]at h_;exact h_
    have hji4y:(wrap64 (1 * 2 ^ min (ji2).toNat 64))=ji4:=(i64_w _).symm.trans hji4_;have hji4x:(ji2)≤64→(wrap64 (1 * 2 ^ (ji2).toNat))=ji4:=fun h_=>(i64_w _).symm.trans (hji4z h_)
    obtain rfl:=Option.some.inj H;go_enter Try.func21,Try.ntmps21;go_wp2;go_ret;exact ⟨by first|rfl|(simp;done)|(simp only[← hji2,← hji4] <;> (first|rfl|simp))|(simp[*];done),by repeat (first|exact Drawn0.refl _|apply Drawn0.step)⟩
  rw[if_neg c3]at H;exact absurd H (by simp)
def impl_inRange.f (a0:Int) (a1:Int) (a2:Int):Option (Bool):=if a0 ≥ a1 then (some (decide (a0≤a2))) else (some false)
set_option maxHeartbeats 8000000 in
set_option maxRecDepth 100000 in
theorem impl_inRange.calls (a0:Int) (a1:Int) (a2:Int) (r:Bool) (w:World) (h:impl_inRange.f a0 a1 a2=some r) :
    Calls Try.prog 32 #[.int .i64 a0,.int .i64 a1,.int .i64 a2] w fun e w'=>e=.returned (.bool r)∧Drawn0 w w':=by
  have H:(if a0 ≥ a1 then (some (decide (a0≤a2))) else (some false))=some r:=h;clear h;by_cases c4:a0 ≥ a1
  · rw[if_pos c4]at H;have aa:decide (a1≤a0)=true:=decide_eq_true c4;clear c4;obtain rfl:=Option.some.inj H;go_enter Try.func32,Try.ntmps32;go_wp2;go_ret;exact ⟨by first|rfl|(simp;done)|(simp[*];done),by repeat (first|exact Drawn0.refl _|apply Drawn0.step)⟩
  rw[if_neg c4]at H;have aa:decide (a1≤a0)=false:=decide_eq_false c4;clear c4;obtain rfl:=Option.some.inj H;go_enter Try.func32,Try.ntmps32;go_wp2;go_ret;exact ⟨by first|rfl|(simp;done)|(simp[*];done),by repeat (first|exact Drawn0.refl _|apply Drawn0.step)⟩
def impl_isLetters.f (a0:Int):Option (Bool):=(impl_inRange.f a0 1 8).bind fun t230=>(some t230)
set_option maxHeartbeats 8000000 in
set_option maxRecDepth 100000 in
theorem impl_isLetters.calls (a0:Int) (r:Bool) (w:World) (h:impl_isLetters.f a0=some r) :
    Calls Try.prog 44 #[.int .i64 a0] w fun e w'=>e=.returned (.bool r)∧Drawn0 w w':=by
  have H:((impl_inRange.f a0 1 8).bind fun aa=>(some aa))=some r:=h;clear h;replace H:=bI H;obtain ⟨aa,ab,H⟩:=H;replace H:(some aa)=some r:=H;have A2:=Aside0.mk ab;clear ab;obtain rfl:=Option.some.inj H;go_enter Try.func44,Try.ntmps44;go_wp2_with (first|((with_reducible refine gate_callee (f:=32) rfl ?_);refine goesL_ (some 4) rfl rfl Try.func32 (by kernel_rfl) rfl #[.int .i64 a0,.int .i64 1,.int .i64 8] rfl (by (try simp only[List.map_toArray,List.map_cons,List.map_nil]);first|done|rfl|(simp only[List.length_drop,List.length_take];rfl)) ?_;(with_reducible refine (impl_inRange.calls a0 1 8 aa _ A2.out).mono ?_);rintro e w' ⟨rfl,⟨nd,rfl⟩⟩;refine ⟨_,rfl,?_⟩));go_ret;exact ⟨by first|rfl|(simp;done)|(simp[*];done),by repeat (first|exact Drawn0.refl _|apply Drawn0.step)⟩
def impl_SetOk.f (a0:Int):Option (Bool):=(impl_inRange.f a0 0 2147483647).bind fun t231=>(some t231)
set_option maxHeartbeats 8000000 in
set_option maxRecDepth 100000 in
theorem impl_SetOk.calls (a0:Int) (r:Bool) (w:World) (h:impl_SetOk.f a0=some r) :
    Calls Try.prog 45 #[.int .i64 a0] w fun e w'=>e=.returned (.bool r)∧Drawn0 w w':=by
  have H:((impl_inRange.f a0 0 2147483647).bind fun aa=>(some aa))=some r:=h;clear h;replace H:=bI H;obtain ⟨aa,ab,H⟩:=H;replace H:(some aa)=some r:=H;have A2:=Aside0.mk ab;clear ab;obtain rfl:=Option.some.inj H;go_enter Try.func45,Try.ntmps45;go_wp2_with (first|((with_reducible refine gate_callee (f:=32) rfl ?_);refine goesL_ (some 4) rfl rfl Try.func32 (by kernel_rfl) rfl #[.int .i64 a0,.int .i64 0,.int .i64 2147483647] rfl (by (try simp only[List.map_toArray,List.map_cons,List.map_nil]);first|done|rfl|(simp only[List.length_drop,List.length_take];rfl)) ?_;(with_reducible refine (impl_inRange.calls a0 0 2147483647 aa _ A2.out).mono ?_);rintro e w' ⟨rfl,⟨nd,rfl⟩⟩;refine ⟨_,rfl,?_⟩));go_ret;exact ⟨by first|rfl|(simp;done)|(simp[*];done),by repeat (first|exact Drawn0.refl _|apply Drawn0.step)⟩
def impl_headOk.f (a0:Int) (a1:Int) (a2:Int):Option (Bool):=(impl_isLetters.f a0).bind fun t232=>(if t232=true then ((impl_inRange.f a1 0 31).bind fun t233=>(if t233=true then ((impl_SetOk.f a2).bind fun t234=>(if t234=true then ((impl_only.f a1).bind fun t235=>(some (decide (a2<t235)))) else (some false))) else (some false))) else (some false))
open Go.Proofs.Ytbfghpbmalpdbaa.Short2 in
set_option maxHeartbeats 8000000 in
set_option maxRecDepth 100000 in
theorem impl_headOk.calls (a0:Int) (a1:Int) (a2:Int) (r:Bool) (w:World) (h:impl_headOk.f a0 a1 a2=some r) :
  Calls Try.prog 31 #[.int .i64 a0,.int .i64 a1,.int .i64 a2] w fun e w'=>e=.returned (.bool r)∧Drawn0 w w':=by
 have H:((impl_isLetters.f a0).bind fun ad=>(if ad=true then ((impl_inRange.f a1 0 31).bind fun ac=>(if ac=true then ((impl_SetOk.f a2).bind fun ab=>(if ab=true then ((impl_only.f a1).bind fun aa=>(some (decide (a2<aa)))) else (some false))) else (some false))) else (some false)))=some r:=h;clear h;replace H:=bI H;obtain ⟨ad,af,H⟩:=H;replace H:(if ad=true then ((impl_inRange.f a1 0 31).bind fun ac=>(if ac=true then ((impl_SetOk.f a2).bind fun ab=>(if ab=true then ((impl_only.f a1).bind fun aa=>(some (decide (a2<aa)))) else (some false))) else (some false))) else (some false))=some r:=H;have A4:=Aside0.mk af;clear af;by_cases c5:ad=true
 ·subst c5;have H1:((impl_inRange.f a1 0 31).bind fun ac=>(if ac=true then ((impl_SetOk.f a2).bind fun ab=>(if ab=true then ((impl_only.f a1).bind fun aa=>(some (decide (a2<aa)))) else (some false))) else (some false)))=some r:=by rw[if_pos rfl]at H;exact H
  clear H;have H:=H1;clear H1;replace H:=bI H;obtain ⟨ac,ag,H⟩:=H;replace H:(if ac=true then ((impl_SetOk.f a2).bind fun ab=>(if ab=true then ((impl_only.f a1).bind fun aa=>(some (decide (a2<aa)))) else (some false))) else (some false))=some r:=H;have A6:=Aside0.mk ag;clear ag;by_cases c7:ac=true
  ·subst c7;have H1:((impl_SetOk.f a2).bind fun ab=>(if ab=true then ((impl_only.f a1).bind fun aa=>(some (decide (a2<aa)))) else (some false)))=some r:=by rw[if_pos rfl]at H;exact H
   clear H;have H:=H1;clear H1;replace H:=bI H;obtain ⟨ab,ah,H⟩:=H;replace H:(if ab=true then ((impl_only.f a1).bind fun aa=>(some (decide (a2<aa)))) else (some false))=some r:=H;have A8:=Aside0.mk ah;clear ah;by_cases c9:ab=true
   ·subst c9;have H1:((impl_only.f a1).bind fun aa=>(some (decide (a2<aa))))=some r:=by rw[if_pos rfl]at H;exact H
    clear H;have H:=H1;clear H1;replace H:=bI H;obtain ⟨aa,ae,H⟩:=H;replace H:(some (decide (a2<aa)))=some r:=H;have ai:=Aside0.mk ae;clear ae;obtain rfl:=Option.some.inj H;go_enter Try.func31,Try.ntmps31;go_wp2_with (first|((with_reducible refine gate_callee (f:=44) rfl ?_);refine gl_ (some 8) Try.func44 #[.int .i64 a0] ?_;(with_reducible refine (impl_isLetters.calls a0 true _ A4.out).mono ?_);rintro e w' ⟨rfl,⟨nd,rfl⟩⟩;refine ⟨_,rfl,?_⟩)|(go_at_call 32;(with_reducible refine (impl_inRange.calls a1 0 31 true _ A6.out).mono ?_);rintro e w' ⟨rfl,⟨nd,rfl⟩⟩)|(go_at_call 45;(with_reducible refine (impl_SetOk.calls a2 true _ A8.out).mono ?_);rintro e w' ⟨rfl,⟨nd,rfl⟩⟩)|(go_at_call 21;(with_reducible refine (impl_only.calls a1 aa _ ai.out).mono ?_);rintro e w' ⟨rfl,⟨nd,rfl⟩⟩));go_ret;exact ⟨by first|rfl|(simp;done)|(simp[*];done),by repeat (first|exact Drawn0.refl _|apply Drawn0.step)⟩
   replace c9:=Bool.eq_false_iff.mpr c9;subst c9;have H1:(some false)=some r:=by rw[if_neg (show ¬ (false=true) by decide)]at H;exact H
   clear H;have H:=H1;clear H1;obtain rfl:=Option.some.inj H;go_enter Try.func31,Try.ntmps31;go_wp2_with (first|((with_reducible refine gate_callee (f:=44) rfl ?_);refine gl_ (some 8) Try.func44 #[.int .i64 a0] ?_;(with_reducible refine (impl_isLetters.calls a0 true _ A4.out).mono ?_);rintro e w' ⟨rfl,⟨nd,rfl⟩⟩;refine ⟨_,rfl,?_⟩)|(go_at_call 32;(with_reducible refine (impl_inRange.calls a1 0 31 true _ A6.out).mono ?_);rintro e w' ⟨rfl,⟨nd,rfl⟩⟩)|(go_at_call 45;(with_reducible refine (impl_SetOk.calls a2 false _ A8.out).mono ?_);rintro e w' ⟨rfl,⟨nd,rfl⟩⟩));go_ret;exact ⟨by first|rfl|(simp;done)|(simp[*];done),by repeat (first|exact Drawn0.refl _|apply Drawn0.step)⟩
  replace c7:=Bool.eq_false_iff.mpr c7;subst c7;have H1:(some false)=some r:=by rw[if_neg (show ¬ (false=true) by decide)]at H;exact H
  clear H;have H:=H1;clear H1;obtain rfl:=Option.some.inj H;go_enter Try.func31,Try.ntmps31;go_wp2_with (first|((with_reducible refine gate_callee (f:=44) rfl ?_);refine gl_ (some 8) Try.func44 #[.int .i64 a0] ?_;(with_reducible refine (impl_isLetters.calls a0 true _ A4.out).mono ?_);rintro e w' ⟨rfl,⟨nd,rfl⟩⟩;refine ⟨_,rfl,?_⟩)|(go_at_call 32;(with_reducible refine (impl_inRange.calls a1 0 31 false _ A6.out).mono ?_);rintro e w' ⟨rfl,⟨nd,rfl⟩⟩));go_ret;exact ⟨by first|rfl|(simp;done)|(simp[*];done),by repeat (first|exact Drawn0.refl _|apply Drawn0.step)⟩
 replace c5:=Bool.eq_false_iff.mpr c5;subst c5;have H1:(some false)=some r:=by rw[if_neg (show ¬ (false=true) by decide)]at H;exact H
 clear H;have H:=H1;clear H1;obtain rfl:=Option.some.inj H;go_enter Try.func31,Try.ntmps31;go_wp2_with (first|((with_reducible refine gate_callee (f:=44) rfl ?_);refine gl_ (some 8) Try.func44 #[.int .i64 a0] ?_;(with_reducible refine (impl_isLetters.calls a0 false _ A4.out).mono ?_);rintro e w' ⟨rfl,⟨nd,rfl⟩⟩;refine ⟨_,rfl,?_⟩));go_ret;exact ⟨by first|rfl|(simp;done)|(simp[*];done),by repeat (first|exact Drawn0.refl _|apply Drawn0.step)⟩
def cmp_Or_int.l0:Nat→Int→List Int→Int→Int→Option (Int)
 | 0,_,_,_,_=>none
 | k+1,x3,x6,x7,x8=>if x8<x7 then (if 0≤x8 then (if x8<(x6.length:Int) then (if (rd x6 x8)=x3 then (cmp_Or_int.l0 k x3 x6 x7 (wrap64 (x8+1))) else (some (rd x6 x8))) else (none)) else (none)) else (some x3)
def cmp_Or_int.f (k:Nat) (l0:List Int):Option (Int):=cmp_Or_int.l0 k 0 l0 (l0.length:Int) 0
theorem cmp_Or_int.mono_l:∀ k,(∀ y0 y1 y2 y3,LeO (cmp_Or_int.l0 k y0 y1 y2 y3) (cmp_Or_int.l0 (k+1) y0 y1 y2 y3))
 | 0=>fun _ _ _ _ r h=>by simp[cmp_Or_int.l0]at h
 | k+1=>by
  have ih0:=cmp_Or_int.mono_l k
  ·intro y0 y1 y2 y3;unfold cmp_Or_int.l0;repeat' first
   | (with_reducible exact ih0 _ _ _ _)
   | (with_reducible exact LeO.refl _)
   | (with_reducible exact LeO.none _)
   | (with_reducible refine LeO.ite ?_ ?_)
   | (with_reducible refine LeO.bind ?_ (fun _=>?_))
   | exact ih0 _ _ _ _
   | exact LeO.none _
   | refine LeO.ite ?_ ?_
   | refine LeO.bind ?_ (fun _=>?_)
theorem cmp_Or_int.mono:∀ a0 k,LeO (cmp_Or_int.f k a0) (cmp_Or_int.f (k+1) a0):=by
 intro a0 k;have ih0:=cmp_Or_int.mono_l k;unfold cmp_Or_int.f;repeat' first
   | (with_reducible exact ih0 _ _ _ _)
   | (with_reducible exact LeO.refl _)
   | (with_reducible exact LeO.none _)
   | (with_reducible refine LeO.ite ?_ ?_)
   | (with_reducible refine LeO.bind ?_ (fun _=>?_))
   | exact ih0 _ _ _ _
   | exact LeO.none _
   | refine LeO.ite ?_ ?_
   | refine LeO.bind ?_ (fun _=>?_)
open Go.Proofs.Ytbfghpbmalpdbaa.Short2 in
set_option maxHeartbeats 8000000 in
set_option maxRecDepth 100000 in
theorem cmp_Or_int.calls (k:Nat) (A0:Option Addr) (c0:Nat) (l0:List Int) (r:Int) (w:World) (hr0:Kd.C (Kd.int .i64) w A0 l0.length l0) (hc0:l0.length≤c0) (h:cmp_Or_int.f k l0=some r) :
  Calls Try.prog 38 #[.slice A0 l0.length c0] w fun e w'=>e=.returned (.int .i64 r)∧Drawn0 w w':=by
 have HR0:=Aside0.mk hr0;have HC0:=Aside0.mk hc0;clear hr0 hc0;have H:(cmp_Or_int.l0 k 0 l0 (l0.length:Int) 0)=some r:=h;clear h;have H':=Aside0.mk H;clear H;go_enter Try.func38,Try.ntmps38;go_wp2;go_loopg [8] k (fun kq v8 w'=>∃ (x8_1:Int),v8=.int .i64 x8_1∧Aside0 (cmp_Or_int.l0 kq 0 l0 (l0.length:Int) x8_1=some r)∧Aside0 (kq≤k)∧Drawn0 w w')
 case atStart=>exact ⟨(0),vv,H',⟨Nat.le_refl _⟩,by repeat (first|exact Drawn0.refl _|apply Drawn0.step)⟩
 case round=>
  clear H';obtain ⟨x8_1,rfl,HA,HK1,⟨m1,rfl⟩⟩:=hrel
  cases gk with
  | zero=>exact absurd HA.out (by simp[cmp_Or_int.l0])
  | succ k1=>
   have H:=HA.out;clear HA;simp only[cmp_Or_int.l0]at H;by_cases c2:x8_1<(l0.length:Int)
   ·rw[if_pos c2]at H;have ac:decide (x8_1<(l0.length:Int))=true:=decide_eq_true c2;clear c2;by_cases c3:0≤x8_1
    ·rw[if_pos c3]at H;have af:decide (0≤x8_1)=true:=decide_eq_true c3;clear c3;by_cases c4:x8_1<(l0.length:Int)
     ·rw[if_pos c4]at H;have ag:decide (x8_1<(l0.length:Int))=true:=decide_eq_true c4;clear c4;by_cases c5:(rd l0 x8_1)=0
      ·rw[if_pos c5]at H;have ad:((rd l0 x8_1) == 0)=true:=beq_iff_eq.mpr c5;have ae:((rd l0 x8_1) != 0)=false:=bne_eq_false_iff_eq.mpr c5;clear c5;have H':=Aside0.mk H;clear H;have aa:0≤(x8_1:Int):=oD;have q236:x8_1<(l0.length:Int):=oD;obtain ⟨ad236,e236,ab⟩:=Kd.at_int HR0.out x8_1 aa q236
       cases e236
       replace aa:=eq_true aa;replace q236:=eq_true q236;go_wp2;go_roundg k1
       case measure=>have:=HK1.out;omega
       case rel=>exact ⟨(wrap64 (x8_1+1)),vv,H',⟨by have:=HK1.out;omega⟩,by repeat (first|exact Drawn0.refl _|apply Drawn0.step)⟩
      rw[if_neg c5]at H;have ad:((rd l0 x8_1) == 0)=false:=beq_eq_false_iff_ne.mpr c5;have ae:((rd l0 x8_1) != 0)=true:=bne_iff_ne.mpr c5;obtain rfl:=Option.some.inj H;have aa:0≤(x8_1:Int):=oD;have q236:x8_1<(l0.length:Int):=oD;obtain ⟨ad236,e236,ab⟩:=Kd.at_int HR0.out x8_1 aa q236
      cases e236
      replace aa:=eq_true aa;replace q236:=eq_true q236;go_wp2;go_ret;exact ⟨by first|rfl|(simp;done)|(simp[*];done),by repeat (first|exact Drawn0.refl _|apply Drawn0.step)⟩
     rw[if_neg c4]at H;exact absurd H (by simp)
    rw[if_neg c3]at H;exact absurd H (by simp)
   rw[if_neg c2]at H;have ac:decide (x8_1<(l0.length:Int))=false:=decide_eq_false c2;clear c2;obtain rfl:=Option.some.inj H;go_wp2;go_ret;exact ⟨by first|rfl|(simp;done)|(simp[*];done),by repeat (first|exact Drawn0.refl _|apply Drawn0.step)⟩
def cmp_isNaN_int.f (a0:Int):Option (Bool):=some (a0 != a0)
set_option maxHeartbeats 8000000 in
set_option maxRecDepth 100000 in
theorem cmp_isNaN_int.calls (a0:Int) (r:Bool) (w:World) (h:cmp_isNaN_int.f a0=some r) :
    Calls Try.prog 48 #[.int .i64 a0] w fun e w'=>e=.returned (.bool r)∧Drawn0 w w':=by
  have H:(some (a0 != a0))=some r:=h;clear h;obtain rfl:=Option.some.inj H;go_enter Try.func48,Try.ntmps48;go_wp2;go_ret;exact ⟨by first|rfl|(simp;done)|(simp[*];done),by repeat (first|exact Drawn0.refl _|apply Drawn0.step)⟩
def cmp_Compare_int.f (a0:Int) (a1:Int):Option (Int):=(cmp_isNaN_int.f a0).bind fun t237=>((cmp_isNaN_int.f a1).bind fun t238=>(if t237=true then (if t238=true then (some 0) else (some (-1))) else (if t238=true then (some 1) else (if a0<a1 then (some (-1)) else (if a0>a1 then (some 1) else (some 0))))))
open Go.Proofs.Ytbfghpbmalpdbaa.Short2 in
set_option maxHeartbeats 8000000 in
set_option maxRecDepth 100000 in
theorem cmp_Compare_int.calls (a0:Int) (a1:Int) (r:Int) (w:World) (h:cmp_Compare_int.f a0 a1=some r) :
  Calls Try.prog 39 #[.int .i64 a0,.int .i64 a1] w fun e w'=>e=.returned (.int .i64 r)∧Drawn0 w w':=by
 have H:((cmp_isNaN_int.f a0).bind fun ab=>((cmp_isNaN_int.f a1).bind fun aa=>(if ab=true then (if aa=true then (some 0) else (some (-1))) else (if aa=true then (some 1) else (if a0<a1 then (some (-1)) else (if a0>a1 then (some 1) else (some 0)))))))=some r:=h;clear h;replace H:=bI H;obtain ⟨ab,ac,H⟩:=H;replace H:((cmp_isNaN_int.f a1).bind fun aa=>(if ab=true then (if aa=true then (some 0) else (some (-1))) else (if aa=true then (some 1) else (if a0<a1 then (some (-1)) else (if a0>a1 then (some 1) else (some 0))))))=some r:=H;have A3:=Aside0.mk ac;clear ac;replace H:=bI H;obtain ⟨aa,ad,H⟩:=H;replace H:(if ab=true then (if aa=true then (some 0) else (some (-1))) else (if aa=true then (some 1) else (if a0<a1 then (some (-1)) else (if a0>a1 then (some 1) else (some 0)))))=some r:=H;have A4:=Aside0.mk ad;clear ad;by_cases c5:ab=true
 ·subst c5;have H1:(if aa=true then (some 0) else (some (-1)))=some r:=by rw[if_pos rfl]at H;exact H
  clear H;have H:=H1;clear H1;by_cases c6:aa=true
  ·subst c6;have H1:(some 0)=some r:=by rw[if_pos rfl]at H;exact H
   clear H;have H:=H1;clear H1;obtain rfl:=Option.some.inj H;go_enter Try.func39,Try.ntmps39;go_wp2_with (first|((with_reducible refine gate_callee (f:=48) rfl ?_);refine gl_ (some 8) Try.func48 #[.int .i64 a0] ?_;(with_reducible refine (cmp_isNaN_int.calls a0 true _ A3.out).mono ?_);rintro e w' ⟨rfl,⟨nd,rfl⟩⟩;refine ⟨_,rfl,?_⟩)|((with_reducible refine gate_callee (f:=48) rfl ?_);refine gl_ (some 10) Try.func48 #[.int .i64 a1] ?_;(with_reducible refine (cmp_isNaN_int.calls a1 true _ A4.out).mono ?_);rintro e w' ⟨rfl,⟨nd,rfl⟩⟩;refine ⟨_,rfl,?_⟩));go_ret;exact ⟨by first|rfl|(simp;done)|(simp[*];done),by repeat (first|exact Drawn0.refl _|apply Drawn0.step)⟩
  replace c6:=Bool.eq_false_iff.mpr c6;subst c6;have H1:(some (-1))=some r:=by rw[if_neg (show ¬ (false=true) by decide)]at H;exact H
  clear H;have H:=H1;clear H1;obtain rfl:=Option.some.inj H;go_enter Try.func39,Try.ntmps39;go_wp2_with (first|((with_reducible refine gate_callee (f:=48) rfl ?_);refine gl_ (some 8) Try.func48 #[.int .i64 a0] ?_;(with_reducible refine (cmp_isNaN_int.calls a0 true _ A3.out).mono ?_);rintro e w' ⟨rfl,⟨nd,rfl⟩⟩;refine ⟨_,rfl,?_⟩)|((with_reducible refine gate_callee (f:=48) rfl ?_);refine gl_ (some 10) Try.func48 #[.int .i64 a1] ?_;(with_reducible refine (cmp_isNaN_int.calls a1 false _ A4.out).mono ?_);rintro e w' ⟨rfl,⟨nd,rfl⟩⟩;refine ⟨_,rfl,?_⟩));go_ret;exact ⟨by first|rfl|(simp;done)|(simp[*];done),by repeat (first|exact Drawn0.refl _|apply Drawn0.step)⟩
 replace c5:=Bool.eq_false_iff.mpr c5;subst c5;have H1:(if aa=true then (some 1) else (if a0<a1 then (some (-1)) else (if a0>a1 then (some 1) else (some 0))))=some r:=by rw[if_neg (show ¬ (false=true) by decide)]at H;exact H
 clear H;have H:=H1;clear H1;by_cases c7:aa=true
 ·subst c7;have H1:(some 1)=some r:=by rw[if_pos rfl]at H;exact H
  clear H;have H:=H1;clear H1;obtain rfl:=Option.some.inj H;go_enter Try.func39,Try.ntmps39;go_wp2_with (first|((with_reducible refine gate_callee (f:=48) rfl ?_);refine gl_ (some 8) Try.func48 #[.int .i64 a0] ?_;(with_reducible refine (cmp_isNaN_int.calls a0 false _ A3.out).mono ?_);rintro e w' ⟨rfl,⟨nd,rfl⟩⟩;refine ⟨_,rfl,?_⟩)|((with_reducible refine gate_callee (f:=48) rfl ?_);refine gl_ (some 10) Try.func48 #[.int .i64 a1] ?_;(with_reducible refine (cmp_isNaN_int.calls a1 true _ A4.out).mono ?_);rintro e w' ⟨rfl,⟨nd,rfl⟩⟩;refine ⟨_,rfl,?_⟩));go_ret;exact ⟨by first|rfl|(simp;done)|(simp[*];done),by repeat (first|exact Drawn0.refl _|apply Drawn0.step)⟩
 replace c7:=Bool.eq_false_iff.mpr c7;subst c7;have H1:(if a0<a1 then (some (-1)) else (if a0>a1 then (some 1) else (some 0)))=some r:=by rw[if_neg (show ¬ (false=true) by decide)]at H;exact H
 clear H;have H:=H1;clear H1;by_cases c8:a0<a1
 ·rw[if_pos c8]at H;have ae:decide (a0<a1)=true:=decide_eq_true c8;clear c8;obtain rfl:=Option.some.inj H;go_enter Try.func39,Try.ntmps39;go_wp2_with (first|((with_reducible refine gate_callee (f:=48) rfl ?_);refine gl_ (some 8) Try.func48 #[.int .i64 a0] ?_;(with_reducible refine (cmp_isNaN_int.calls a0 false _ A3.out).mono ?_);rintro e w' ⟨rfl,⟨nd,rfl⟩⟩;refine ⟨_,rfl,?_⟩)|((with_reducible refine gate_callee (f:=48) rfl ?_);refine gl_ (some 10) Try.func48 #[.int .i64 a1] ?_;(with_reducible refine (cmp_isNaN_int.calls a1 false _ A4.out).mono ?_);rintro e w' ⟨rfl,⟨nd,rfl⟩⟩;refine ⟨_,rfl,?_⟩));go_ret;exact ⟨by first|rfl|(simp;done)|(simp[*];done),by repeat (first|exact Drawn0.refl _|apply Drawn0.step)⟩
 rw[if_neg c8]at H;have ae:decide (a0<a1)=false:=decide_eq_false c8;clear c8;by_cases c9:a0>a1
 ·rw[if_pos c9]at H;have af:decide (a1<a0)=true:=decide_eq_true c9;clear c9;obtain rfl:=Option.some.inj H;go_enter Try.func39,Try.ntmps39;go_wp2_with (first|((with_reducible refine gate_callee (f:=48) rfl ?_);refine gl_ (some 8) Try.func48 #[.int .i64 a0] ?_;(with_reducible refine (cmp_isNaN_int.calls a0 false _ A3.out).mono ?_);rintro e w' ⟨rfl,⟨nd,rfl⟩⟩;refine ⟨_,rfl,?_⟩)|((with_reducible refine gate_callee (f:=48) rfl ?_);refine gl_ (some 10) Try.func48 #[.int .i64 a1] ?_;(with_reducible refine (cmp_isNaN_int.calls a1 false _ A4.out).mono ?_);rintro e w' ⟨rfl,⟨nd,rfl⟩⟩;refine ⟨_,rfl,?_⟩));go_ret;exact ⟨by first|rfl|(simp;done)|(simp[*];done),by repeat (first|exact Drawn0.refl _|apply Drawn0.step)⟩
 rw[if_neg c9]at H;have af:decide (a1<a0)=false:=decide_eq_false c9;clear c9;obtain rfl:=Option.some.inj H;go_enter Try.func39,Try.ntmps39;go_wp2_with (first|((with_reducible refine gate_callee (f:=48) rfl ?_);refine gl_ (some 8) Try.func48 #[.int .i64 a0] ?_;(with_reducible refine (cmp_isNaN_int.calls a0 false _ A3.out).mono ?_);rintro e w' ⟨rfl,⟨nd,rfl⟩⟩;refine ⟨_,rfl,?_⟩)|((with_reducible refine gate_callee (f:=48) rfl ?_);refine gl_ (some 10) Try.func48 #[.int .i64 a1] ?_;(with_reducible refine (cmp_isNaN_int.calls a1 false _ A4.out).mono ?_);rintro e w' ⟨rfl,⟨nd,rfl⟩⟩;refine ⟨_,rfl,?_⟩));go_ret;exact ⟨by first|rfl|(simp;done)|(simp[*];done),by repeat (first|exact Drawn0.refl _|apply Drawn0.step)⟩
section
open Go.Proofs.Ytbfghpbmalpdbaa.Short2.T
abbrev impl_compareGEdges.bl0:Array Bool:=#[f,f,f,f,f,f,f,f,f,f,f,f,f,f,f,f,f,f]
abbrev impl_compareGEdges.bl1:Array Bool:=#[t,f,f,f,f,f,f,f,f,f,f,f,f,f,f,f,f,f]
abbrev impl_compareGEdges.bl2:Array Bool:=#[t,f,t,f,f,f,f,f,f,f,f,f,f,f,f,f,f,f]
abbrev impl_compareGEdges.bl3:Array Bool:=#[t,f,t,f,f,t,f,f,f,f,f,f,f,f,f,f,f,f]
abbrev impl_compareGEdges.bl4:Array Bool:=#[t,f,t,f,f,t,f,t,f,f,f,f,f,f,f,f,f,f]
abbrev impl_compareGEdges.bl5:Array Bool:=#[t,f,t,f,f,t,f,t,f,f,t,f,f,f,f,f,f,f]
abbrev impl_compareGEdges.bl6:Array Bool:=#[t,f,t,f,f,t,f,t,f,f,t,f,t,f,f,f,f,f]
abbrev impl_compareGEdges.bl7:Array Bool:=#[t,t,t,f,f,t,f,t,f,f,t,f,t,f,f,f,f,f]
abbrev impl_compareGEdges.bl8:Array Bool:=#[t,t,t,t,f,t,f,t,f,f,t,f,t,f,f,f,f,f]
abbrev impl_compareGEdges.bl9:Array Bool:=#[t,t,t,t,f,t,t,t,f,f,t,f,t,f,f,f,f,f]
abbrev impl_compareGEdges.bl10:Array Bool:=#[t,t,t,t,f,t,t,t,t,f,t,f,t,f,f,f,f,f]
abbrev impl_compareGEdges.bl11:Array Bool:=#[t,t,t,t,f,t,t,t,t,f,t,t,t,f,f,f,f,f]
abbrev impl_compareGEdges.bl12:Array Bool:=#[t,t,t,t,f,t,t,t,t,f,t,t,t,t,f,f,f,f]
abbrev impl_compareGEdges.bl13:Array Bool:=#[t,t,t,t,t,t,t,t,t,f,t,t,t,t,f,f,f,f]
abbrev impl_compareGEdges.bl14:Array Bool:=#[t,t,t,t,t,t,t,t,t,t,t,t,t,t,f,f,f,f]
abbrev impl_compareGEdges.bl15:Array Bool:=#[t,t,t,t,t,t,t,t,t,t,t,t,t,t,t,f,f,f]
abbrev impl_compareGEdges.bl16:Array Bool:=#[t,t,t,t,t,t,t,t,t,t,t,t,t,t,t,t,f,f]
abbrev impl_compareGEdges.bl17:Array Bool:=#[t,t,t,t,t,t,t,t,t,t,t,t,t,t,t,t,t,f]
abbrev impl_compareGEdges.bl18:Array Bool:=#[t,t,t,t,t,t,t,t,t,t,t,t,t,t,t,t,t,t]
end
def impl_compareGEdges.f (k:Nat) (a0_0:Int) (a0_1:Int) (a0_2:Int) (a0_3:Int) (a1_0:Int) (a1_1:Int) (a1_2:Int) (a1_3:Int):Option (Int):=(cmp_Compare_int.f a0_0 a1_0).bind fun t241=>((cmp_Compare_int.f a0_1 a1_1).bind fun t242=>((cmp_Compare_int.f a0_2 a1_2).bind fun t243=>((cmp_Or_int.f k (([t241,t242,t243]:List Int))).bind fun t247=>(some t247))))
theorem impl_compareGEdges.mono:∀ a0 a1 a2 a3 a4 a5 a6 a7 k,LeO (impl_compareGEdges.f k a0 a1 a2 a3 a4 a5 a6 a7) (impl_compareGEdges.f (k+1) a0 a1 a2 a3 a4 a5 a6 a7):=by
 intro a0 a1 a2 a3 a4 a5 a6 a7 k;unfold impl_compareGEdges.f;repeat' first
   | (with_reducible exact cmp_Or_int.mono _ _)
   | (with_reducible exact LeO.refl _)
   | (with_reducible exact LeO.none _)
   | (with_reducible refine LeO.ite ?_ ?_)
   | (with_reducible refine LeO.bind ?_ (fun _=>?_))
   | exact cmp_Or_int.mono _ _
   | exact LeO.none _
   | refine LeO.ite ?_ ?_
   | refine LeO.bind ?_ (fun _=>?_)
def impl_compareGEdges.T1:Bool × List (List Nat × List Nat):=(true,[([],[]),([0],[0]),([],[]),([2],[2]),([1,3],[1,3]),([],[]),([5],[5]),([],[]),([7],[7]),([6,8,4],[6,8]),([],[]),([10],[10]),([],[]),([12],[12]),([11,13,9],[11,13]),([4,9,14],[4,9,14]),([15,14],[15]),([16,16,0,1,2,3,4,5,6,7,8,9,10,11,12,13,14,15,16],[16])])
def impl_compareGEdges.B1:List Nat:=[0,1,0,4,15,0,32,0,128,511,0,1024,0,4096,16383,32767,65535,131071]
theorem impl_compareGEdges.tab1:rtab .any (opsOf Try.f33 1)=impl_compareGEdges.T1:=by kernel_rfl
theorem impl_compareGEdges.bits1:waitsOk impl_compareGEdges.T1.2 impl_compareGEdges.B1=true:=by kernel_rfl
open Go.Proofs.Ytbfghpbmalpdbaa.Short2 in
set_option maxHeartbeats 8000000 in
set_option maxRecDepth 100000 in
theorem impl_compareGEdges.calls (k:Nat) (a0_0:Int) (a0_1:Int) (a0_2:Int) (a0_3:Int) (a1_0:Int) (a1_1:Int) (a1_2:Int) (a1_3:Int) (r:Int) (w:World) (h:impl_compareGEdges.f k a0_0 a0_1 a0_2 a0_3 a1_0 a1_1 a1_2 a1_3=some r) :
  Calls Try.prog 33 #[.agg #[.int .i64 a0_0,.int .i64 a0_1,.int .i64 a0_2,.int .i64 a0_3],.agg #[.int .i64 a1_0,.int .i64 a1_1,.int .i64 a1_2,.int .i64 a1_3]] w fun e w'=>e=.returned (.int .i64 r)∧Below w.heap.size w w':=by
 have hu43:=Try.underlying43;have HB:=Aside0.mk (Below.refl w.heap.size w);have H:((cmp_Compare_int.f a0_0 a1_0).bind fun af=>((cmp_Compare_int.f a0_1 a1_1).bind fun ad=>((cmp_Compare_int.f a0_2 a1_2).bind fun ac=>((cmp_Or_int.f k (([af,ad,ac]:List Int))).bind fun ae=>(some ae)))))=some r:=h;clear h;replace H:=bI H;obtain ⟨af,an,H⟩:=H;replace H:((cmp_Compare_int.f a0_1 a1_1).bind fun ad=>((cmp_Compare_int.f a0_2 a1_2).bind fun ac=>((cmp_Or_int.f k (([af,ad,ac]:List Int))).bind fun ae=>(some ae))))=some r:=H;have A3:=Aside0.mk an;clear an;replace H:=bI H;obtain ⟨ad,ao,H⟩:=H;replace H:((cmp_Compare_int.f a0_2 a1_2).bind fun ac=>((cmp_Or_int.f k (([af,ad,ac]:List Int))).bind fun ae=>(some ae)))=some r:=H;have A4:=Aside0.mk ao;clear ao;replace H:=bI H;obtain ⟨ac,ap,H⟩:=H;replace H:((cmp_Or_int.f k (([af,ad,ac]:List Int))).bind fun ae=>(some ae))=some r:=H;have A5:=Aside0.mk ap;clear ap;obtain ⟨ak,ag⟩:∃ y_:List Int,y_=(([af,ad,ac]:List Int)):=⟨_,rfl⟩;replace H:((cmp_Or_int.f k ak).bind fun ae=>(some ae))=some r:=by first|(rw[ag];with_reducible exact H)|(have H2_:=(Option.bind_some _ _).symm.trans H;rw[ag];with_reducible exact H2_)|(have H2_:=(Option.bind_some _ _).symm.trans H;with_reducible exact H2_)|with_reducible exact H|(rw[ag];exact H)|exact H
 have al:=Aside0.mk ag;clear ag;replace H:=bI H;obtain ⟨ae,aq,H⟩:=H;replace H:(some ae)=some r:=H;have A6:=Aside0.mk aq;clear aq;obtain rfl:=Option.some.inj H;go_enter Try.func33,Try.ntmps33;try go_wp2_with (first|((with_reducible refine gate_dst (N:=2) rfl ?_);refine bx_ 2 #[.int .i64 a0_0,.int .i64 a0_1,.int .i64 a0_2,.int .i64 a0_3] 43 ?_;intro ah hg w7 hbox hb;have aa:=Aside0.mk (hbox);have ax:=xG HB hg;have ay:=xG HB hg;replace HB:=xS HB hb;clear hb hbox hg)|((with_reducible refine gate_dst (N:=3) rfl ?_);refine bx_ 3 #[.int .i64 a1_0,.int .i64 a1_1,.int .i64 a1_2,.int .i64 a1_3] 43 ?_;intro ai hg w8 hbox hb;have ab:=Aside0.mk (hbox);have az:=xG HB hg;have aA:=xG HB hg;replace HB:=xS HB hb;have ar:=xN aa hg;have au:=xM aa hg;replace aa:=xB aa hb;clear hb hbox hg))
 replace aa:=Aside0.mk (blk_drew aa.out);replace ab:=Aside0.mk (blk_drew ab.out);replace HB:=Aside0.mk (below_drew1 HB.out);refine start_ (n:=18) (S:=fun w'=>w'.cell? ⟨ah,0,none⟩=some (.int .i64 a0_0)∧w'.cell? ⟨ah,1,none⟩=some (.int .i64 a0_1)∧w'.cell? ⟨ah,2,none⟩=some (.int .i64 a0_2)∧w'.cell? ⟨ah,3,none⟩=some (.int .i64 a0_3)∧w'.cell? ⟨ai,0,none⟩=some (.int .i64 a1_0)∧w'.cell? ⟨ai,1,none⟩=some (.int .i64 a1_1)∧w'.cell? ⟨ai,2,none⟩=some (.int .i64 a1_2)∧w'.cell? ⟨ai,3,none⟩=some (.int .i64 a1_3)) (ds:=[]) bl0 (by kernel_rfl) rfl rfl ⟨b1 aa 0,b1 aa 1,b1 aa 2,b1 aa 3,b1 ab 0,b1 ab 1,b1 ab 2,b1 ab 3⟩ (fun hHeld=>?_);refine with_tabW impl_compareGEdges.tab1 impl_compareGEdges.bits1 (fun HT_ HW_=>?_);generalize w8.drew=w9 at aa ab HB hHeld ⊢;refine pv_ 0 (some 5) bl1 HT_ ?_
 refine pv_ 2 (some 7) bl2 HT_ ?_
 refine pv_ 5 (some 10) bl3 HT_ ?_
 refine pv_ 7 (some 12) bl4 HT_ ?_
 refine pv_ 10 (some 15) bl5 HT_ ?_
 refine pv_ 12 (some 17) bl6 HT_ ?_
 refine tk_ 1 (some 6) bl7 HT_ HW_ hHeld ?_
 refine tk_ 3 (some 8) bl8 HT_ HW_ hHeld ?_
 refine tk_ 6 (some 11) bl9 HT_ HW_ hHeld ?_
 refine tk_ 8 (some 13) bl10 HT_ HW_ hHeld ?_
 refine tk_ 11 (some 16) bl11 HT_ HW_ hHeld ?_
 refine tk_ 13 (some 18) bl12 HT_ HW_ hHeld ?_
 refine on_ 4 (some 9) bl13 HT_ (fun K hK=>?_);refine gs_ Try.func39 #[.int .i64 a0_0,.int .i64 a1_0] ?_
 with_reducible refine (cmp_Compare_int.calls a0_0 a1_0 af _ A3.out).mono ?_
 rintro e w' ⟨rfl,⟨nd,rfl⟩⟩;refine ⟨_,rfl,?_⟩;refine hK.out _ _ ⟨b1 aa 0,b1 aa 1,b1 aa 2,b1 aa 3,b1 ab 0,b1 ab 1,b1 ab 2,b1 ab 3⟩ (fun hHeld=>?_);clear hK K;refine nr_ (some 9) ?_
 refine on_ 9 (some 14) bl14 HT_ (fun K hK=>?_);refine gs_ Try.func39 #[.int .i64 a0_1,.int .i64 a1_1] ?_
 with_reducible refine (cmp_Compare_int.calls a0_1 a1_1 ad _ A4.out).mono ?_
 rintro e w' ⟨rfl,⟨nd,rfl⟩⟩;refine ⟨_,rfl,?_⟩;refine hK.out _ _ ⟨b1 aa 0,b1 aa 1,b1 aa 2,b1 aa 3,b1 ab 0,b1 ab 1,b1 ab 2,b1 ab 3⟩ (fun hHeld=>?_);clear hK K;refine nr_ (some 14) ?_
 refine on_ 14 (some 19) bl15 HT_ (fun K hK=>?_);refine gs_ Try.func39 #[.int .i64 a0_2,.int .i64 a1_2] ?_
 with_reducible refine (cmp_Compare_int.calls a0_2 a1_2 ac _ A5.out).mono ?_
 rintro e w' ⟨rfl,⟨nd,rfl⟩⟩;refine ⟨_,rfl,?_⟩;refine hK.out _ _ ⟨b1 aa 0,b1 aa 1,b1 aa 2,b1 aa 3,b1 ab 0,b1 ab 1,b1 ab 2,b1 ab 3⟩ (fun hHeld=>?_);clear hK K;refine nr_ (some 19) ?_
 refine on_ 15 (some 20) bl16 HT_ (fun K hK=>?_);refine rl_ (Kd.int .i64) 3 20 ([af,ad,ac]:List Int) [.int .i64 af,.int .i64 ad,.int .i64 ac] (Reps.one (show Kd.M (Kd.int .i64) _ _ _ af [.int .i64 af] from rfl) (Reps.one (show Kd.M (Kd.int .i64) _ _ _ ad [.int .i64 ad] from rfl) (Reps.one (show Kd.M (Kd.int .i64) _ _ _ ac [.int .i64 ac] from rfl) (Reps.none _ _)))) ?_
 intro aB aC ho11 hb hg_ hnew_;clear hg_ hnew_;(first|rw[← al.out]at ho11|(simp only[Int.reduceToNat]at ho11;rw[← al.out]at ho11));have aj:=rW0 ho11 HB;replace aa:=xB aa hb;replace ab:=xB ab hb;replace HB:=xS HB hb;clear hb ho11;obtain ⟨av,aw,am⟩:=Kd.R_slice aj.out;(first|subst am|(injection am with f1_ f2_ f3_;have f4_:=f1_.symm;have f5_:=f3_.symm;clear f1_ f2_ f3_;subst f4_;subst f5_));refine hK.out _ _ ⟨b1 aa 0,b1 aa 1,b1 aa 2,b1 aa 3,b1 ab 0,b1 ab 1,b1 ab 2,b1 ab 3⟩ (fun hHeld=>?_);clear hK K;refine nr_ (some 20) ?_
 refine on_ 16 (some 21) bl17 HT_ (fun K hK=>?_);refine gs_ Try.func38 #[.slice av ak.length aw] ?_
 with_reducible refine (cmp_Or_int.calls k _ _ ak ae _ ?side1 ?side2 A6.out).mono ?_
 (case side1=>exact sC aj);(case side2=>exact sL aj);rintro e w' ⟨rfl,⟨nd,rfl⟩⟩;refine ⟨_,rfl,?_⟩;refine hK.out _ _ ⟨b1 aa 0,b1 aa 1,b1 aa 2,b1 aa 3,b1 ab 0,b1 ab 1,b1 ab 2,b1 ab 3⟩ (fun hHeld=>?_);clear hK K;refine nr_ (some 21) ?_
 refine pv_ 17 (some 4) bl18 HT_ ?_
 refine done_ (done_of HT_.out (by kernel_rfl)) ?_
 try go_wp2
 go_ret;exact ⟨vw,zS HB.out⟩
end Go.Proofs.Ytbfghpbmalpdbaa.MFnExactGenMeet
