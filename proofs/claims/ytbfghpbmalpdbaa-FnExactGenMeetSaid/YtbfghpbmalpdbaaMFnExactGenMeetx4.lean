import Derived.Test.YtbfghpbmalpdbaaMFnExactGenMeetx0
import Derived.Test.YtbfghpbmalpdbaaMFnExactGenMeetx3
namespace Go.Proofs.Ytbfghpbmalpdbaa.MFnExactGenMeet
open Go.RowKit Go.Proofs.YtbfghpbmalpdbaaW.PrintWords Go.Proofs.YtbfghpbmalpdbaaW.PrintLast Go.Proofs.YtbfghpbmalpdbaaW.PrintMore Go.Proofs.Ytbfghpbmalpdbaa.Short6
attribute [local go_sem] max2_int min2_int max_two min_two max_three min_three max_four min_four
set_option linter.unusedVariables false
set_option linter.unusedSimpArgs false
section
open Go.Proofs.Ytbfghpbmalpdbaa.Short2.T
abbrev spec_l5Pairs.bl0:Array Bool:=#[f,f,f,f,f,f,f,f,f,f,f,f,f,f,f,f,f,f]
abbrev spec_l5Pairs.bl1:Array Bool:=#[t,f,f,f,f,f,f,f,f,f,f,f,f,f,f,f,f,f]
abbrev spec_l5Pairs.bl2:Array Bool:=#[t,t,f,f,f,f,f,f,f,f,f,f,f,f,f,f,f,f]
abbrev spec_l5Pairs.bl3:Array Bool:=#[t,t,t,f,f,f,f,f,f,f,f,f,f,f,f,f,f,f]
abbrev spec_l5Pairs.bl4:Array Bool:=#[t,t,t,f,t,f,f,f,f,f,f,f,f,f,f,f,f,f]
abbrev spec_l5Pairs.bl5:Array Bool:=#[t,t,t,f,t,t,f,f,f,f,f,f,f,f,f,f,f,f]
abbrev spec_l5Pairs.bl6:Array Bool:=#[t,t,t,f,t,t,t,f,f,f,f,f,f,f,f,f,f,f]
abbrev spec_l5Pairs.bl7:Array Bool:=#[t,t,t,t,t,t,t,f,f,f,f,f,f,f,f,f,f,f]
abbrev spec_l5Pairs.bl8:Array Bool:=#[t,t,t,t,t,t,t,t,f,f,f,f,f,f,f,f,f,f]
abbrev spec_l5Pairs.bl9:Array Bool:=#[t,t,t,t,t,t,t,t,t,f,f,f,f,f,f,f,f,f]
abbrev spec_l5Pairs.bl10:Array Bool:=#[t,t,t,t,t,t,t,t,t,t,f,f,f,f,f,f,f,f]
abbrev spec_l5Pairs.bl11:Array Bool:=#[t,t,t,t,t,t,t,t,t,t,f,t,f,f,f,f,f,f]
abbrev spec_l5Pairs.bl12:Array Bool:=#[t,t,t,t,t,t,t,t,t,t,f,t,t,f,f,f,f,f]
abbrev spec_l5Pairs.bl13:Array Bool:=#[t,t,t,t,t,t,t,t,t,t,f,t,t,t,f,f,f,f]
abbrev spec_l5Pairs.bl14:Array Bool:=#[t,t,t,t,t,t,t,t,t,t,t,t,t,t,f,f,f,f]
abbrev spec_l5Pairs.bl15:Array Bool:=#[t,t,t,t,t,t,t,t,t,t,t,t,t,t,t,f,f,f]
abbrev spec_l5Pairs.bl16:Array Bool:=#[t,t,t,t,t,t,t,t,t,t,t,t,t,t,t,t,f,f]
abbrev spec_l5Pairs.bl17:Array Bool:=#[t,t,t,t,t,t,t,t,t,t,t,t,t,t,t,t,t,f]
abbrev spec_l5Pairs.bl18:Array Bool:=#[t,t,t,t,t,t,t,t,t,t,t,t,t,t,t,t,t,t]
abbrev spec_l5Pairs.bl19:Array Bool:=#[t,t,t,t,t,t,t,t,t,t,t,f,f,f,f,f,f,f]
abbrev spec_l5Pairs.bl20:Array Bool:=#[t,t,t,t,t,t,t,t,t,t,t,t,f,f,f,f,f,f]
abbrev spec_l5Pairs.bl21:Array Bool:=#[t,t,t,t,t,t,t,t,t,t,t,t,t,f,f,f,f,f]
abbrev spec_l5Pairs.bl22:Array Bool:=#[f,f,f,f,f,f,f,f,f,f,f,f,f,f,f,f]
abbrev spec_l5Pairs.bl23:Array Bool:=#[t,f,f,f,f,f,f,f,f,f,f,f,f,f,f,f]
abbrev spec_l5Pairs.bl24:Array Bool:=#[t,t,f,f,f,f,f,f,f,f,f,f,f,f,f,f]
abbrev spec_l5Pairs.bl25:Array Bool:=#[t,t,t,f,f,f,f,f,f,f,f,f,f,f,f,f]
abbrev spec_l5Pairs.bl26:Array Bool:=#[t,t,t,t,f,f,f,f,f,f,f,f,f,f,f,f]
abbrev spec_l5Pairs.bl27:Array Bool:=#[t,t,t,t,t,f,f,f,f,f,f,f,f,f,f,f]
abbrev spec_l5Pairs.bl28:Array Bool:=#[t,t,t,t,t,t,f,f,f,f,f,f,f,f,f,f]
abbrev spec_l5Pairs.bl29:Array Bool:=#[t,t,t,t,t,t,t,f,f,f,f,f,f,f,f,f]
abbrev spec_l5Pairs.bl30:Array Bool:=#[t,t,t,t,t,t,t,f,t,f,f,f,f,f,f,f]
abbrev spec_l5Pairs.bl31:Array Bool:=#[t,t,t,t,t,t,t,f,t,t,f,f,f,f,f,f]
abbrev spec_l5Pairs.bl32:Array Bool:=#[t,t,t,t,t,t,t,f,t,t,t,f,f,f,f,f]
abbrev spec_l5Pairs.bl33:Array Bool:=#[t,t,t,t,t,t,t,f,t,t,t,f,t,f,f,f]
abbrev spec_l5Pairs.bl34:Array Bool:=#[t,t,t,t,t,t,t,t,t,t,t,f,t,f,f,f]
abbrev spec_l5Pairs.bl35:Array Bool:=#[t,t,t,t,t,t,t,t,t,t,t,t,t,f,f,f]
abbrev spec_l5Pairs.bl36:Array Bool:=#[t,t,t,t,t,t,t,t,t,t,t,t,t,t,f,f]
abbrev spec_l5Pairs.bl37:Array Bool:=#[t,t,t,t,t,t,t,t,t,t,t,t,t,t,t,f]
abbrev spec_l5Pairs.bl38:Array Bool:=#[t,t,t,t,t,t,t,t,t,t,t,t,t,t,t,t]
abbrev spec_l5Pairs.bl39:Array Bool:=#[t,t,t,t,t,t,t,t,f,f,f,f,f,f,f,f]
abbrev spec_l5Pairs.bl40:Array Bool:=#[t,t,t,t,t,t,t,t,t,f,f,f,f,f,f,f]
abbrev spec_l5Pairs.bl41:Array Bool:=#[t,t,t,t,t,t,t,t,t,t,f,f,f,f,f,f]
abbrev spec_l5Pairs.bl42:Array Bool:=#[t,t,t,t,t,t,t,t,t,t,t,f,f,f,f,f]
abbrev spec_l5Pairs.bl43:Array Bool:=#[t,t,t,t,t,t,t,t,t,t,t,t,f,f,f,f]
abbrev spec_l5Pairs.bl44:Array Bool:=#[f,f,f,f,f,f,f,f,f,f,f,f,f,f,f,f,f,f,f,f,f,f,f]
abbrev spec_l5Pairs.bl45:Array Bool:=#[t,f,f,f,f,f,f,f,f,f,f,f,f,f,f,f,f,f,f,f,f,f,f]
abbrev spec_l5Pairs.bl46:Array Bool:=#[t,f,t,f,f,f,f,f,f,f,f,f,f,f,f,f,f,f,f,f,f,f,f]
abbrev spec_l5Pairs.bl47:Array Bool:=#[t,t,t,f,f,f,f,f,f,f,f,f,f,f,f,f,f,f,f,f,f,f,f]
abbrev spec_l5Pairs.bl48:Array Bool:=#[t,t,t,t,f,f,f,f,f,f,f,f,f,f,f,f,f,f,f,f,f,f,f]
abbrev spec_l5Pairs.bl49:Array Bool:=#[t,t,t,t,t,f,f,f,f,f,f,f,f,f,f,f,f,f,f,f,f,f,f]
abbrev spec_l5Pairs.bl50:Array Bool:=#[t,t,t,t,t,t,f,f,f,f,f,f,f,f,f,f,f,f,f,f,f,f,f]
abbrev spec_l5Pairs.bl51:Array Bool:=#[t,t,t,t,t,t,t,f,f,f,f,f,f,f,f,f,f,f,f,f,f,f,f]
abbrev spec_l5Pairs.bl52:Array Bool:=#[t,t,t,t,t,t,t,f,t,f,f,f,f,f,f,f,f,f,f,f,f,f,f]
abbrev spec_l5Pairs.bl53:Array Bool:=#[t,t,t,t,t,t,t,f,t,t,f,f,f,f,f,f,f,f,f,f,f,f,f]
abbrev spec_l5Pairs.bl54:Array Bool:=#[t,t,t,t,t,t,t,f,t,t,t,f,f,f,f,f,f,f,f,f,f,f,f]
abbrev spec_l5Pairs.bl55:Array Bool:=#[t,t,t,t,t,t,t,f,t,t,t,f,t,f,f,f,f,f,f,f,f,f,f]
abbrev spec_l5Pairs.bl56:Array Bool:=#[t,t,t,t,t,t,t,t,t,t,t,f,t,f,f,f,f,f,f,f,f,f,f]
abbrev spec_l5Pairs.bl57:Array Bool:=#[t,t,t,t,t,t,t,t,t,t,t,t,t,f,f,f,f,f,f,f,f,f,f]
abbrev spec_l5Pairs.bl58:Array Bool:=#[t,t,t,t,t,t,t,t,t,t,t,t,t,t,f,f,f,f,f,f,f,f,f]
abbrev spec_l5Pairs.bl59:Array Bool:=#[t,t,t,t,t,t,t,t,t,t,t,t,t,t,t,f,f,f,f,f,f,f,f]
abbrev spec_l5Pairs.bl60:Array Bool:=#[t,t,t,t,t,t,t,t,t,t,t,t,t,t,t,t,f,f,f,f,f,f,f]
abbrev spec_l5Pairs.bl61:Array Bool:=#[t,t,t,t,t,t,t,t,t,t,t,t,t,t,t,t,t,f,f,f,f,f,f]
abbrev spec_l5Pairs.bl62:Array Bool:=#[t,t,t,t,t,t,t,t,t,t,t,t,t,t,t,t,t,t,f,f,f,f,f]
abbrev spec_l5Pairs.bl63:Array Bool:=#[t,t,t,t,t,t,t,t,t,t,t,t,t,t,t,t,t,t,t,f,f,f,f]
abbrev spec_l5Pairs.bl64:Array Bool:=#[t,t,t,t,t,t,t,t,t,t,t,t,t,t,t,t,t,t,t,t,f,f,f]
abbrev spec_l5Pairs.bl65:Array Bool:=#[t,t,t,t,t,t,t,t,t,t,t,t,t,t,t,t,t,t,t,t,t,f,f]
abbrev spec_l5Pairs.bl66:Array Bool:=#[t,t,t,t,t,t,t,t,t,t,t,t,t,t,t,t,t,t,t,t,t,t,f]
abbrev spec_l5Pairs.bl67:Array Bool:=#[t,t,t,t,t,t,t,t,t,t,t,t,t,t,t,t,t,t,t,t,t,t,t]
abbrev spec_l5Pairs.bl68:Array Bool:=#[t,t,t,t,t,t,t,t,f,f,f,f,f,f,f,f,f,f,f,f,f,f,f]
abbrev spec_l5Pairs.bl69:Array Bool:=#[t,t,t,t,t,t,t,t,t,f,f,f,f,f,f,f,f,f,f,f,f,f,f]
abbrev spec_l5Pairs.bl70:Array Bool:=#[t,t,t,t,t,t,t,t,t,t,f,f,f,f,f,f,f,f,f,f,f,f,f]
abbrev spec_l5Pairs.bl71:Array Bool:=#[t,t,t,t,t,t,t,t,t,t,t,f,f,f,f,f,f,f,f,f,f,f,f]
abbrev spec_l5Pairs.bl72:Array Bool:=#[t,t,t,t,t,t,t,t,t,t,t,t,f,f,f,f,f,f,f,f,f,f,f]
end
mutual
def spec_l5Pairs.l0:Nat→Int→List Bool→Int→Int→Int→Int→Int→List (S43)→Int→Int→Int→Int→List (S43)→Option (List Int × Int)
 | 0,_,_,_,_,_,_,_,_,_,_,_,_,_=>none
 | k+1,x6,x7,x8,x128000,x128001,x128002,x128003,x128004,x129000,x129001,x129002,x129003,x129004=>if x8<(x7.length:Int) then (if x6=0 then (none) else ((spec_l1Has.f x128002 (wrap64 (Int.tdiv x8 x6))).bind fun t132=>(if t132=true then ((spec_l1Has.f x129002 (Int.tmod x8 x6)).bind fun t133=>(if 0≤x8 then (spec_l5Pairs.l0 k x6 (x7.set (x8:Int).toNat t133) (wrap64 (x8+1)) x128000 x128001 x128002 x128003 x128004 x129000 x129001 x129002 x129003 x129004) else (none))) else (if 0≤x8 then (spec_l5Pairs.l0 k x6 (x7.set (x8:Int).toNat false) (wrap64 (x8+1)) x128000 x128001 x128002 x128003 x128004 x129000 x129001 x129002 x129003 x129004) else (none))))) else (spec_l5Pairs.l1 k x6 x7 (([]:List Int)) 0 x128000 x128001 x128002 x128003 x128004 x129000 x129001 x129002 x129003 x129004)
def spec_l5Pairs.l1:Nat→Int→List Bool→List Int→Int→Int→Int→Int→Int→List (S43)→Int→Int→Int→Int→List (S43)→Option (List Int × Int)
 | 0,_,_,_,_,_,_,_,_,_,_,_,_,_,_=>none
 | k+1,x6,x7,x9,x10,x128000,x128001,x128002,x128003,x128004,x129000,x129001,x129002,x129003,x129004=>if x10<(x7.length:Int) then (if 0≤x10 then (if rdOf false x7 x10=true then (if x9.length<17592186044416 then (spec_l5Pairs.l1 k x6 x7 (x9 ++ [x10]) (wrap64 (x10+1)) x128000 x128001 x128002 x128003 x128004 x129000 x129001 x129002 x129003 x129004) else (none)) else (spec_l5Pairs.l1 k x6 x7 x9 (wrap64 (x10+1)) x128000 x128001 x128002 x128003 x128004 x129000 x129001 x129002 x129003 x129004)) else (none)) else (spec_l5Pairs.l2 k x6 x7 x9 0 x128000 x128001 x128002 x128003 x128004 x129000 x129001 x129002 x129003 x129004)
def spec_l5Pairs.l2:Nat→Int→List Bool→List Int→Int→Int→Int→Int→Int→List (S43)→Int→Int→Int→Int→List (S43)→Option (List Int × Int)
 | 0,_,_,_,_,_,_,_,_,_,_,_,_,_,_=>none
 | k+1,x6,x7,x9,x11,x128000,x128001,x128002,x128003,x128004,x129000,x129001,x129002,x129003,x129004=>if x11<(x9.length:Int) then (spec_l5Pairs.l3 k x6 x7 x9 x11 0 x128000 x128001 x128002 x128003 x128004 x129000 x129001 x129002 x129003 x129004) else (spec_l5Pairs.l5 k x7 (([]:List Int)) 0 0)
def spec_l5Pairs.l3:Nat→Int→List Bool→List Int→Int→Int→Int→Int→Int→Int→List (S43)→Int→Int→Int→Int→List (S43)→Option (List Int × Int)
 | 0,_,_,_,_,_,_,_,_,_,_,_,_,_,_,_=>none
 | k+1,x6,x7,x9,x11,x12,x128000,x128001,x128002,x128003,x128004,x129000,x129001,x129002,x129003,x129004=>if x12<(x128004.length:Int) then (if 0≤x12 then (spec_l5Pairs.l4 k x6 x7 x9 x11 x12 0 x128000 x128001 x128002 x128003 x128004 x129000 x129001 x129002 x129003 x129004 ((rd_T43 x128004 x12).f0) ((rd_T43 x128004 x12).f1) ((rd_T43 x128004 x12).f2) ((rd_T43 x128004 x12).f3)) else (none)) else (spec_l5Pairs.l2 k x6 x7 x9 (wrap64 (x11+1)) x128000 x128001 x128002 x128003 x128004 x129000 x129001 x129002 x129003 x129004)
def spec_l5Pairs.l4:Nat→Int→List Bool→List Int→Int→Int→Int→Int→Int→Int→Int→List (S43)→Int→Int→Int→Int→List (S43)→Int→Int→Int→Int→Option (List Int × Int)
 | 0,_,_,_,_,_,_,_,_,_,_,_,_,_,_,_,_,_,_,_,_=>none
 | k+1,x6,x7,x9,x11,x12,x14,x128000,x128001,x128002,x128003,x128004,x129000,x129001,x129002,x129003,x129004,x145000,x145001,x145002,x145003=>if x14<(x129004.length:Int) then (if 0≤x11 then (if x11<(x9.length:Int) then (if x6=0 then (none) else (spec_l5Pairs.j5 k x6 x7 x9 x11 x12 x14 (x145000 == (wrap64 (Int.tdiv (rd x9 x11) x6))) x128000 x128001 x128002 x128003 x128004 x129000 x129001 x129002 x129003 x129004 x145000 x145001 x145002 x145003)) else (none)) else (none)) else (spec_l5Pairs.j5 k x6 x7 x9 x11 x12 x14 false x128000 x128001 x128002 x128003 x128004 x129000 x129001 x129002 x129003 x129004 x145000 x145001 x145002 x145003)
def spec_l5Pairs.j5:Nat→Int→List Bool→List Int→Int→Int→Int→Bool→Int→Int→Int→Int→List (S43)→Int→Int→Int→Int→List (S43)→Int→Int→Int→Int→Option (List Int × Int)
 | 0,_,_,_,_,_,_,_,_,_,_,_,_,_,_,_,_,_,_,_,_,_=>none
 | k+1,x6,x7,x9,x11,x12,x14,x98,x128000,x128001,x128002,x128003,x128004,x129000,x129001,x129002,x129003,x129004,x145000,x145001,x145002,x145003=>if x98=true then (if 0≤x14 then (if x14<(x129004.length:Int) then (if x145001=((rd_T43 x129004 x14).f1) then (if 0≤x11 then (if x11<(x9.length:Int) then (if x6=0 then (none) else (if ((rd_T43 x129004 x14).f0)=(Int.tmod (rd x9 x11) x6) then (if 0≤(wrap64 ((wrap64 (x145002 * x6))+((rd_T43 x129004 x14).f2))) then (if (wrap64 ((wrap64 (x145002 * x6))+((rd_T43 x129004 x14).f2)))<(x7.length:Int) then (if (rdOf false x7 (wrap64 ((wrap64 (x145002 * x6))+((rd_T43 x129004 x14).f2)))=true) then (spec_l5Pairs.l4 k x6 x7 x9 x11 x12 (wrap64 (x14+1)) x128000 x128001 x128002 x128003 x128004 x129000 x129001 x129002 x129003 x129004 x145000 x145001 x145002 x145003) else (if x9.length<17592186044416 then (spec_l5Pairs.l4 k x6 (x7.set ((wrap64 ((wrap64 (x145002 * x6))+((rd_T43 x129004 x14).f2))):Int).toNat true) (x9 ++ [wrap64 ((wrap64 (x145002 * x6))+((rd_T43 x129004 x14).f2))]) x11 x12 (wrap64 (x14+1)) x128000 x128001 x128002 x128003 x128004 x129000 x129001 x129002 x129003 x129004 x145000 x145001 x145002 x145003) else (none))) else (none)) else (none)) else (spec_l5Pairs.l4 k x6 x7 x9 x11 x12 (wrap64 (x14+1)) x128000 x128001 x128002 x128003 x128004 x129000 x129001 x129002 x129003 x129004 x145000 x145001 x145002 x145003))) else (none)) else (none)) else (spec_l5Pairs.l4 k x6 x7 x9 x11 x12 (wrap64 (x14+1)) x128000 x128001 x128002 x128003 x128004 x129000 x129001 x129002 x129003 x129004 x145000 x145001 x145002 x145003)) else (none)) else (none)) else (spec_l5Pairs.l3 k x6 x7 x9 x11 (wrap64 (x12+1)) x128000 x128001 x128002 x128003 x128004 x129000 x129001 x129002 x129003 x129004)
def spec_l5Pairs.l5:Nat→List Bool→List Int→Int→Int→Option (List Int × Int)
 | 0,_,_,_,_=>none
 | k+1,x7,x17,x18,x19=>if x19<(x7.length:Int) then (if 0≤x19 then (if rdOf false x7 x19=true then (if x17.length<17592186044416 then (spec_l5Pairs.l5 k x7 (x17 ++ [x18]) (wrap64 (x18+1)) (wrap64 (x19+1))) else (none)) else (if x17.length<17592186044416 then (spec_l5Pairs.l5 k x7 (x17 ++ [(-1)]) x18 (wrap64 (x19+1))) else (none))) else (none)) else (some (x17,x18))
end
def spec_l5Pairs.f (k:Nat) (a0_0:Int) (a0_1:Int) (a0_2:Int) (a0_3:Int) (l0_4:List (S43)) (a1_0:Int) (a1_1:Int) (a1_2:Int) (a1_3:Int) (l1_4:List (S43)):Option (List Int × Int):=if 0≤(wrap64 (a0_1 * a1_1)) then (if (wrap64 (a0_1 * a1_1):Int).toNat≤281474976710656 then (spec_l5Pairs.l0 k a1_1 (List.replicate (wrap64 (a0_1 * a1_1):Int).toNat false) 0 a0_0 a0_1 a0_2 a0_3 l0_4 a1_0 a1_1 a1_2 a1_3 l1_4) else (none)) else (none)
theorem spec_l5Pairs.mono_l:∀ k,(∀ y0 y1 y2 y3 y4 y5 y6 y7 y8 y9 y10 y11 y12,LeO (spec_l5Pairs.l0 k y0 y1 y2 y3 y4 y5 y6 y7 y8 y9 y10 y11 y12) (spec_l5Pairs.l0 (k+1) y0 y1 y2 y3 y4 y5 y6 y7 y8 y9 y10 y11 y12))∧(∀ y0 y1 y2 y3 y4 y5 y6 y7 y8 y9 y10 y11 y12 y13,LeO (spec_l5Pairs.l1 k y0 y1 y2 y3 y4 y5 y6 y7 y8 y9 y10 y11 y12 y13) (spec_l5Pairs.l1 (k+1) y0 y1 y2 y3 y4 y5 y6 y7 y8 y9 y10 y11 y12 y13))∧(∀ y0 y1 y2 y3 y4 y5 y6 y7 y8 y9 y10 y11 y12 y13,LeO (spec_l5Pairs.l2 k y0 y1 y2 y3 y4 y5 y6 y7 y8 y9 y10 y11 y12 y13) (spec_l5Pairs.l2 (k+1) y0 y1 y2 y3 y4 y5 y6 y7 y8 y9 y10 y11 y12 y13))∧(∀ y0 y1 y2 y3 y4 y5 y6 y7 y8 y9 y10 y11 y12 y13 y14,LeO (spec_l5Pairs.l3 k y0 y1 y2 y3 y4 y5 y6 y7 y8 y9 y10 y11 y12 y13 y14) (spec_l5Pairs.l3 (k+1) y0 y1 y2 y3 y4 y5 y6 y7 y8 y9 y10 y11 y12 y13 y14))∧(∀ y0 y1 y2 y3 y4 y5 y6 y7 y8 y9 y10 y11 y12 y13 y14 y15 y16 y17 y18 y19,LeO (spec_l5Pairs.l4 k y0 y1 y2 y3 y4 y5 y6 y7 y8 y9 y10 y11 y12 y13 y14 y15 y16 y17 y18 y19) (spec_l5Pairs.l4 (k+1) y0 y1 y2 y3 y4 y5 y6 y7 y8 y9 y10 y11 y12 y13 y14 y15 y16 y17 y18 y19))∧(∀ y0 y1 y2 y3 y4 y5 y6 y7 y8 y9 y10 y11 y12 y13 y14 y15 y16 y17 y18 y19 y20,LeO (spec_l5Pairs.j5 k y0 y1 y2 y3 y4 y5 y6 y7 y8 y9 y10 y11 y12 y13 y14 y15 y16 y17 y18 y19 y20) (spec_l5Pairs.j5 (k+1) y0 y1 y2 y3 y4 y5 y6 y7 y8 y9 y10 y11 y12 y13 y14 y15 y16 y17 y18 y19 y20))∧(∀ y0 y1 y2 y3,LeO (spec_l5Pairs.l5 k y0 y1 y2 y3) (spec_l5Pairs.l5 (k+1) y0 y1 y2 y3))
 | 0=>⟨fun _ _ _ _ _ _ _ _ _ _ _ _ _ r h=>by simp[spec_l5Pairs.l0]at h,fun _ _ _ _ _ _ _ _ _ _ _ _ _ _ r h=>by simp[spec_l5Pairs.l1]at h,fun _ _ _ _ _ _ _ _ _ _ _ _ _ _ r h=>by simp[spec_l5Pairs.l2]at h,fun _ _ _ _ _ _ _ _ _ _ _ _ _ _ _ r h=>by simp[spec_l5Pairs.l3]at h,fun _ _ _ _ _ _ _ _ _ _ _ _ _ _ _ _ _ _ _ _ r h=>by simp[spec_l5Pairs.l4]at h,fun _ _ _ _ _ _ _ _ _ _ _ _ _ _ _ _ _ _ _ _ _ r h=>by simp[spec_l5Pairs.j5]at h,fun _ _ _ _ r h=>by simp[spec_l5Pairs.l5]at h⟩
 | k+1=>by
  obtain ⟨ih0,ih1,ih2,ih3,ih4,ih5,ih6⟩:=spec_l5Pairs.mono_l k;refine ⟨?_,?_,?_,?_,?_,?_,?_⟩
  ·intro y0 y1 y2 y3 y4 y5 y6 y7 y8 y9 y10 y11 y12;unfold spec_l5Pairs.l0;repeat' first
   | (with_reducible exact ih0 _ _ _ _ _ _ _ _ _ _ _ _ _)
   | (with_reducible exact ih1 _ _ _ _ _ _ _ _ _ _ _ _ _ _)
   | (with_reducible exact ih2 _ _ _ _ _ _ _ _ _ _ _ _ _ _)
   | (with_reducible exact ih3 _ _ _ _ _ _ _ _ _ _ _ _ _ _ _)
   | (with_reducible exact ih4 _ _ _ _ _ _ _ _ _ _ _ _ _ _ _ _ _ _ _ _)
   | (with_reducible exact ih5 _ _ _ _ _ _ _ _ _ _ _ _ _ _ _ _ _ _ _ _ _)
   | (with_reducible exact ih6 _ _ _ _)
   | (with_reducible exact LeO.refl _)
   | (with_reducible exact LeO.none _)
   | (with_reducible refine LeO.ite ?_ ?_)
   | (with_reducible refine LeO.bind ?_ (fun _=>?_))
   | exact ih0 _ _ _ _ _ _ _ _ _ _ _ _ _
   | exact ih1 _ _ _ _ _ _ _ _ _ _ _ _ _ _
   | exact ih2 _ _ _ _ _ _ _ _ _ _ _ _ _ _
   | exact ih3 _ _ _ _ _ _ _ _ _ _ _ _ _ _ _
   | exact ih4 _ _ _ _ _ _ _ _ _ _ _ _ _ _ _ _ _ _ _ _
   | exact ih5 _ _ _ _ _ _ _ _ _ _ _ _ _ _ _ _ _ _ _ _ _
   | exact ih6 _ _ _ _
   | exact LeO.none _
   | refine LeO.ite ?_ ?_
   | refine LeO.bind ?_ (fun _=>?_)
  ·intro y0 y1 y2 y3 y4 y5 y6 y7 y8 y9 y10 y11 y12 y13;unfold spec_l5Pairs.l1;repeat' first
   | (with_reducible exact ih0 _ _ _ _ _ _ _ _ _ _ _ _ _)
   | (with_reducible exact ih1 _ _ _ _ _ _ _ _ _ _ _ _ _ _)
   | (with_reducible exact ih2 _ _ _ _ _ _ _ _ _ _ _ _ _ _)
   | (with_reducible exact ih3 _ _ _ _ _ _ _ _ _ _ _ _ _ _ _)
   | (with_reducible exact ih4 _ _ _ _ _ _ _ _ _ _ _ _ _ _ _ _ _ _ _ _)
   | (with_reducible exact ih5 _ _ _ _ _ _ _ _ _ _ _ _ _ _ _ _ _ _ _ _ _)
   | (with_reducible exact ih6 _ _ _ _)
   | (with_reducible exact LeO.refl _)
   | (with_reducible exact LeO.none _)
   | (with_reducible refine LeO.ite ?_ ?_)
   | (with_reducible refine LeO.bind ?_ (fun _=>?_))
   | exact ih0 _ _ _ _ _ _ _ _ _ _ _ _ _
   | exact ih1 _ _ _ _ _ _ _ _ _ _ _ _ _ _
   | exact ih2 _ _ _ _ _ _ _ _ _ _ _ _ _ _
   | exact ih3 _ _ _ _ _ _ _ _ _ _ _ _ _ _ _
   | exact ih4 _ _ _ _ _ _ _ _ _ _ _ _ _ _ _ _ _ _ _ _
   | exact ih5 _ _ _ _ _ _ _ _ _ _ _ _ _ _ _ _ _ _ _ _ _
   | exact ih6 _ _ _ _
   | exact LeO.none _
   | refine LeO.ite ?_ ?_
   | refine LeO.bind ?_ (fun _=>?_)
  ·intro y0 y1 y2 y3 y4 y5 y6 y7 y8 y9 y10 y11 y12 y13;unfold spec_l5Pairs.l2;repeat' first
   | (with_reducible exact ih0 _ _ _ _ _ _ _ _ _ _ _ _ _)
   | (with_reducible exact ih1 _ _ _ _ _ _ _ _ _ _ _ _ _ _)
   | (with_reducible exact ih2 _ _ _ _ _ _ _ _ _ _ _ _ _ _)
   | (with_reducible exact ih3 _ _ _ _ _ _ _ _ _ _ _ _ _ _ _)
   | (with_reducible exact ih4 _ _ _ _ _ _ _ _ _ _ _ _ _ _ _ _ _ _ _ _)
   | (with_reducible exact ih5 _ _ _ _ _ _ _ _ _ _ _ _ _ _ _ _ _ _ _ _ _)
   | (with_reducible exact ih6 _ _ _ _)
   | (with_reducible exact LeO.refl _)
   | (with_reducible exact LeO.none _)
   | (with_reducible refine LeO.ite ?_ ?_)
   | (with_reducible refine LeO.bind ?_ (fun _=>?_))
   | exact ih0 _ _ _ _ _ _ _ _ _ _ _ _ _
   | exact ih1 _ _ _ _ _ _ _ _ _ _ _ _ _ _
   | exact ih2 _ _ _ _ _ _ _ _ _ _ _ _ _ _
   | exact ih3 _ _ _ _ _ _ _ _ _ _ _ _ _ _ _
   | exact ih4 _ _ _ _ _ _ _ _ _ _ _ _ _ _ _ _ _ _ _ _
   | exact ih5 _ _ _ _ _ _ _ _ _ _ _ _ _ _ _ _ _ _ _ _ _
   | exact ih6 _ _ _ _
   | exact LeO.none _
   | refine LeO.ite ?_ ?_
   | refine LeO.bind ?_ (fun _=>?_)
  ·intro y0 y1 y2 y3 y4 y5 y6 y7 y8 y9 y10 y11 y12 y13 y14;unfold spec_l5Pairs.l3;repeat' first
   | (with_reducible exact ih0 _ _ _ _ _ _ _ _ _ _ _ _ _)
   | (with_reducible exact ih1 _ _ _ _ _ _ _ _ _ _ _ _ _ _)
   | (with_reducible exact ih2 _ _ _ _ _ _ _ _ _ _ _ _ _ _)
   | (with_reducible exact ih3 _ _ _ _ _ _ _ _ _ _ _ _ _ _ _)
   | (with_reducible exact ih4 _ _ _ _ _ _ _ _ _ _ _ _ _ _ _ _ _ _ _ _)
   | (with_reducible exact ih5 _ _ _ _ _ _ _ _ _ _ _ _ _ _ _ _ _ _ _ _ _)
   | (with_reducible exact ih6 _ _ _ _)
   | (with_reducible exact LeO.refl _)
   | (with_reducible exact LeO.none _)
   | (with_reducible refine LeO.ite ?_ ?_)
   | (with_reducible refine LeO.bind ?_ (fun _=>?_))
   | exact ih0 _ _ _ _ _ _ _ _ _ _ _ _ _
   | exact ih1 _ _ _ _ _ _ _ _ _ _ _ _ _ _
   | exact ih2 _ _ _ _ _ _ _ _ _ _ _ _ _ _
   | exact ih3 _ _ _ _ _ _ _ _ _ _ _ _ _ _ _
   | exact ih4 _ _ _ _ _ _ _ _ _ _ _ _ _ _ _ _ _ _ _ _
   | exact ih5 _ _ _ _ _ _ _ _ _ _ _ _ _ _ _ _ _ _ _ _ _
   | exact ih6 _ _ _ _
   | exact LeO.none _
   | refine LeO.ite ?_ ?_
   | refine LeO.bind ?_ (fun _=>?_)
  ·intro y0 y1 y2 y3 y4 y5 y6 y7 y8 y9 y10 y11 y12 y13 y14 y15 y16 y17 y18 y19;unfold spec_l5Pairs.l4;repeat' first
   | (with_reducible exact ih0 _ _ _ _ _ _ _ _ _ _ _ _ _)
   | (with_reducible exact ih1 _ _ _ _ _ _ _ _ _ _ _ _ _ _)
   | (with_reducible exact ih2 _ _ _ _ _ _ _ _ _ _ _ _ _ _)
   | (with_reducible exact ih3 _ _ _ _ _ _ _ _ _ _ _ _ _ _ _)
   | (with_reducible exact ih4 _ _ _ _ _ _ _ _ _ _ _ _ _ _ _ _ _ _ _ _)
   | (with_reducible exact ih5 _ _ _ _ _ _ _ _ _ _ _ _ _ _ _ _ _ _ _ _ _)
   | (with_reducible exact ih6 _ _ _ _)
   | (with_reducible exact LeO.refl _)
   | (with_reducible exact LeO.none _)
   | (with_reducible refine LeO.ite ?_ ?_)
   | (with_reducible refine LeO.bind ?_ (fun _=>?_))
   | exact ih0 _ _ _ _ _ _ _ _ _ _ _ _ _
   | exact ih1 _ _ _ _ _ _ _ _ _ _ _ _ _ _
   | exact ih2 _ _ _ _ _ _ _ _ _ _ _ _ _ _
   | exact ih3 _ _ _ _ _ _ _ _ _ _ _ _ _ _ _
   | exact ih4 _ _ _ _ _ _ _ _ _ _ _ _ _ _ _ _ _ _ _ _
   | exact ih5 _ _ _ _ _ _ _ _ _ _ _ _ _ _ _ _ _ _ _ _ _
   | exact ih6 _ _ _ _
   | exact LeO.none _
   | refine LeO.ite ?_ ?_
   | refine LeO.bind ?_ (fun _=>?_)
  ·intro y0 y1 y2 y3 y4 y5 y6 y7 y8 y9 y10 y11 y12 y13 y14 y15 y16 y17 y18 y19 y20;unfold spec_l5Pairs.j5;repeat' first
   | (with_reducible exact ih0 _ _ _ _ _ _ _ _ _ _ _ _ _)
   | (with_reducible exact ih1 _ _ _ _ _ _ _ _ _ _ _ _ _ _)
   | (with_reducible exact ih2 _ _ _ _ _ _ _ _ _ _ _ _ _ _)
   | (with_reducible exact ih3 _ _ _ _ _ _ _ _ _ _ _ _ _ _ _)
   | (with_reducible exact ih4 _ _ _ _ _ _ _ _ _ _ _ _ _ _ _ _ _ _ _ _)
   | (with_reducible exact ih5 _ _ _ _ _ _ _ _ _ _ _ _ _ _ _ _ _ _ _ _ _)
   | (with_reducible exact ih6 _ _ _ _)
   | (with_reducible exact LeO.refl _)
   | (with_reducible exact LeO.none _)
   | (with_reducible refine LeO.ite ?_ ?_)
   | (with_reducible refine LeO.bind ?_ (fun _=>?_))
   | exact ih0 _ _ _ _ _ _ _ _ _ _ _ _ _
   | exact ih1 _ _ _ _ _ _ _ _ _ _ _ _ _ _
   | exact ih2 _ _ _ _ _ _ _ _ _ _ _ _ _ _
   | exact ih3 _ _ _ _ _ _ _ _ _ _ _ _ _ _ _
   | exact ih4 _ _ _ _ _ _ _ _ _ _ _ _ _ _ _ _ _ _ _ _
   | exact ih5 _ _ _ _ _ _ _ _ _ _ _ _ _ _ _ _ _ _ _ _ _
   | exact ih6 _ _ _ _
   | exact LeO.none _
   | refine LeO.ite ?_ ?_
   | refine LeO.bind ?_ (fun _=>?_)
  intro y0 y1 y2 y3;unfold spec_l5Pairs.l5;repeat' first
  | (with_reducible exact ih0 _ _ _ _ _ _ _ _ _ _ _ _ _)
  | (with_reducible exact ih1 _ _ _ _ _ _ _ _ _ _ _ _ _ _)
  | (with_reducible exact ih2 _ _ _ _ _ _ _ _ _ _ _ _ _ _)
  | (with_reducible exact ih3 _ _ _ _ _ _ _ _ _ _ _ _ _ _ _)
  | (with_reducible exact ih4 _ _ _ _ _ _ _ _ _ _ _ _ _ _ _ _ _ _ _ _)
  | (with_reducible exact ih5 _ _ _ _ _ _ _ _ _ _ _ _ _ _ _ _ _ _ _ _ _)
  | (with_reducible exact ih6 _ _ _ _)
  | (with_reducible exact LeO.refl _)
  | (with_reducible exact LeO.none _)
  | (with_reducible refine LeO.ite ?_ ?_)
  | (with_reducible refine LeO.bind ?_ (fun _=>?_))
  | exact ih0 _ _ _ _ _ _ _ _ _ _ _ _ _
  | exact ih1 _ _ _ _ _ _ _ _ _ _ _ _ _ _
  | exact ih2 _ _ _ _ _ _ _ _ _ _ _ _ _ _
  | exact ih3 _ _ _ _ _ _ _ _ _ _ _ _ _ _ _
  | exact ih4 _ _ _ _ _ _ _ _ _ _ _ _ _ _ _ _ _ _ _ _
  | exact ih5 _ _ _ _ _ _ _ _ _ _ _ _ _ _ _ _ _ _ _ _ _
  | exact ih6 _ _ _ _
  | exact LeO.none _
  | refine LeO.ite ?_ ?_
  | refine LeO.bind ?_ (fun _=>?_)
theorem spec_l5Pairs.mono:∀ a0 a1 a2 a3 a4 a5 a6 a7 a8 a9 k,LeO (spec_l5Pairs.f k a0 a1 a2 a3 a4 a5 a6 a7 a8 a9) (spec_l5Pairs.f (k+1) a0 a1 a2 a3 a4 a5 a6 a7 a8 a9):=by
 intro a0 a1 a2 a3 a4 a5 a6 a7 a8 a9 k;obtain ⟨ih0,ih1,ih2,ih3,ih4,ih5,ih6⟩:=spec_l5Pairs.mono_l k;unfold spec_l5Pairs.f;repeat' first
   | (with_reducible exact ih0 _ _ _ _ _ _ _ _ _ _ _ _ _)
   | (with_reducible exact ih1 _ _ _ _ _ _ _ _ _ _ _ _ _ _)
   | (with_reducible exact ih2 _ _ _ _ _ _ _ _ _ _ _ _ _ _)
   | (with_reducible exact ih3 _ _ _ _ _ _ _ _ _ _ _ _ _ _ _)
   | (with_reducible exact ih4 _ _ _ _ _ _ _ _ _ _ _ _ _ _ _ _ _ _ _ _)
   | (with_reducible exact ih5 _ _ _ _ _ _ _ _ _ _ _ _ _ _ _ _ _ _ _ _ _)
   | (with_reducible exact ih6 _ _ _ _)
   | (with_reducible exact LeO.refl _)
   | (with_reducible exact LeO.none _)
   | (with_reducible refine LeO.ite ?_ ?_)
   | (with_reducible refine LeO.bind ?_ (fun _=>?_))
   | exact ih0 _ _ _ _ _ _ _ _ _ _ _ _ _
   | exact ih1 _ _ _ _ _ _ _ _ _ _ _ _ _ _
   | exact ih2 _ _ _ _ _ _ _ _ _ _ _ _ _ _
   | exact ih3 _ _ _ _ _ _ _ _ _ _ _ _ _ _ _
   | exact ih4 _ _ _ _ _ _ _ _ _ _ _ _ _ _ _ _ _ _ _ _
   | exact ih5 _ _ _ _ _ _ _ _ _ _ _ _ _ _ _ _ _ _ _ _ _
   | exact ih6 _ _ _ _
   | exact LeO.none _
   | refine LeO.ite ?_ ?_
   | refine LeO.bind ?_ (fun _=>?_)
def spec_l5Pairs.T6:Bool × List (List Nat × List Nat):=(true,[([],[]),([],[]),([],[]),([2],[2]),([],[]),([],[]),([4,5],[4,5]),([3,6],[3,6]),([7,7],[7]),([8],[8]),([9,8],[8,9]),([8],[8]),([8],[8]),([11,12,8],[8,11,12]),([10,13,8,8],[8,10,13]),([8,14],[8,14]),([0,1,0,1,2,3,4,5,6,7,8,9,10,11,12,13,14,15],[0,1]),([16,15,14,0,1,2,3,4,5,6,7,8,9,10,11,12,13,14,15],[15,16])])
def spec_l5Pairs.B6:List Nat:=[0,0,0,4,0,0,48,124,252,508,1020,508,508,6652,16380,32764,65535,131071]
theorem spec_l5Pairs.tab6:rtab .any (opsOf Try.f13 6)=spec_l5Pairs.T6:=by kernel_rfl
theorem spec_l5Pairs.bits6:waitsOk spec_l5Pairs.T6.2 spec_l5Pairs.B6=true:=by kernel_rfl
def spec_l5Pairs.T21:Bool × List (List Nat × List Nat):=(true,[([],[]),([],[]),([1],[1]),([2],[2]),([0,3],[0,3]),([4],[4]),([5],[5]),([6,5],[5,6]),([5],[5]),([5],[5]),([8,9,5],[5,8,9]),([10,5],[5,10]),([5],[5]),([11,12,5],[5,11,12]),([7,13,5],[5,7,13]),([5,14],[5,14])])
def spec_l5Pairs.B21:List Nat:=[0,0,2,6,15,31,63,127,63,63,831,1855,63,7999,16383,32767]
theorem spec_l5Pairs.tab21:rtab .any (opsOf Try.f13 21)=spec_l5Pairs.T21:=by kernel_rfl
theorem spec_l5Pairs.bits21:waitsOk spec_l5Pairs.T21.2 spec_l5Pairs.B21=true:=by kernel_rfl
def spec_l5Pairs.T25:Bool × List (List Nat × List Nat):=(true,[([],[]),([0],[0]),([],[]),([2],[2]),([1,3],[1,3]),([4],[4]),([5],[5]),([6,5],[5,6]),([5],[5]),([5],[5]),([8,9,5],[5,8,9]),([10,5],[5,10]),([5],[5]),([11,12,5],[5,11,12]),([7,13,5],[5,7,13]),([5,14],[5,14]),([15,5],[15]),([16],[16]),([16],[16]),([17,18,16],[16,17,18]),([19,16],[16,19]),([20,16],[16,20]),([16,21],[16,21])])
def spec_l5Pairs.B25:List Nat:=[0,1,0,4,15,31,63,127,63,63,831,1855,63,7999,16383,32767,65535,131071,131071,524287,1048575,2097151,4194303]
theorem spec_l5Pairs.tab25:rtab .any (opsOf Try.f13 25)=spec_l5Pairs.T25:=by kernel_rfl
theorem spec_l5Pairs.bits25:waitsOk spec_l5Pairs.T25.2 spec_l5Pairs.B25=true:=by kernel_rfl
open Go.Proofs.Ytbfghpbmalpdbaa.Short2 in
set_option maxHeartbeats 8000000 in
set_option maxRecDepth 100000 in
theorem spec_l5Pairs.calls (k:Nat) (a0_0:Int) (a0_1:Int) (a0_2:Int) (a0_3:Int) (A0_4:Option Addr) (c0_4:Nat) (l0_4:List (S43)) (a1_0:Int) (a1_1:Int) (a1_2:Int) (a1_3:Int) (A1_4:Option Addr) (c1_4:Nat) (l1_4:List (S43)) (r1:List Int) (r2:Int) (w:World) (hr0_4:Kd.C k43 w A0_4 l0_4.length l0_4) (hc0_4:l0_4.length≤c0_4) (hr1_4:Kd.C k43 w A1_4 l1_4.length l1_4) (hc1_4:l1_4.length≤c1_4) (h:spec_l5Pairs.f k a0_0 a0_1 a0_2 a0_3 l0_4 a1_0 a1_1 a1_2 a1_3 l1_4=some (r1,r2)) :
  Calls Try.prog 13 #[.agg #[.int .i64 a0_0,.int .i64 a0_1,.int .i64 a0_2,.int .i64 a0_3,.slice A0_4 l0_4.length c0_4],.agg #[.int .i64 a1_0,.int .i64 a1_1,.int .i64 a1_2,.int .i64 a1_3,.slice A1_4 l1_4.length c1_4]] w fun e w'=>∃ v0_:Value,e=.returned (.tuple #[v0_,.int .i64 r2])∧Kd.R (Kd.int .i64) 3 w' w.heap.size (fun _=>True) v0_ r1∧Below w.heap.size w w':=by
 have hu28:=Try.underlying28;have hu43:=Try.underlying43;have HR0_4:=Aside0.mk hr0_4;have HC0_4:=Aside0.mk hc0_4;clear hr0_4 hc0_4;have HR1_4:=Aside0.mk hr1_4;have HC1_4:=Aside0.mk hc1_4;clear hr1_4 hc1_4;have HB:=Aside0.mk (Below.refl w.heap.size w);have H:(if 0≤(wrap64 (a0_1 * a1_1)) then (if (wrap64 (a0_1 * a1_1):Int).toNat≤281474976710656 then (spec_l5Pairs.l0 k a1_1 (List.replicate (wrap64 (a0_1 * a1_1):Int).toNat false) 0 a0_0 a0_1 a0_2 a0_3 l0_4 a1_0 a1_1 a1_2 a1_3 l1_4) else (none)) else (none))=some (r1,r2):=h;clear h;obtain ⟨ji3,hji3⟩:∃ j_:Int,(wrap64 (a0_1 * a1_1))=j_:=⟨_,rfl⟩;replace H:(if 0≤(ji3) then (if (ji3:Int).toNat≤281474976710656 then (spec_l5Pairs.l0 k a1_1 (List.replicate (ji3:Int).toNat false) 0 a0_0 a0_1 a0_2 a0_3 l0_4 a1_0 a1_1 a1_2 a1_3 l1_4) else (none)) else (none))=some (r1,r2):=by first|(rw[hji3]at H;exact H)|(simp only[hji3]at H ⊢;exact H)
 have hji3w:(IntKind.i64.wrap (a0_1 * a1_1))=ji3:=(i64_w _).trans hji3;by_cases c4:0≤(ji3)
 ·rw[if_pos c4]at H;have cp:=eq_true c4;have cq:decide (0≤(ji3))=true:=decide_eq_true c4;clear c4;by_cases c5:(ji3:Int).toNat≤281474976710656
  ·rw[if_pos c5]at H;have cr:=eq_true c5;have ct:decide ((ji3:Int).toNat≤281474976710656)=true:=decide_eq_true c5;clear c5;obtain ⟨eY,bU⟩:∃ y_:List Bool,y_=(List.replicate (ji3:Int).toNat false):=⟨_,rfl⟩;replace H:(spec_l5Pairs.l0 k a1_1 eY 0 a0_0 a0_1 a0_2 a0_3 l0_4 a1_0 a1_1 a1_2 a1_3 l1_4)=some (r1,r2):=by first|(rw[bU];with_reducible exact H)|(have H2_:=(Option.bind_some _ _).symm.trans H;rw[bU];with_reducible exact H2_)|(have H2_:=(Option.bind_some _ _).symm.trans H;with_reducible exact H2_)|with_reducible exact H|(rw[bU];exact H)|exact H
   have eL:=Aside0.mk bU;clear bU;have H':=Aside0.mk H;clear H;go_enter Try.func13,Try.ntmps13;go_wp2_with (first|((with_reducible refine gate_dst (N:=2) rfl ?_);refine bx_ 2 #[.int .i64 a0_0,.int .i64 a0_1,.int .i64 a0_2,.int .i64 a0_3,.slice A0_4 l0_4.length c0_4] 28 ?_;intro ao hg w6 hbox hb;have ad:=Aside0.mk (hbox);have hZ:=xG HB hg;have eM:=xG HB hg;replace HB:=xS HB hb;clear hb hbox hg)|((with_reducible refine gate_dst (N:=3) rfl ?_);refine bx_ 3 #[.int .i64 a1_0,.int .i64 a1_1,.int .i64 a1_2,.int .i64 a1_3,.slice A1_4 l1_4.length c1_4] 28 ?_;intro al hg w7 hbox hb;have ae:=Aside0.mk (hbox);have ia:=xG HB hg;have eN:=xG HB hg;replace HB:=xS HB hb;have cx:=xN ad hg;have aT:=xM ad hg;replace ad:=xB ad hb;clear hb hbox hg;obtain ⟨iY,iZ⟩:=nn aT;obtain ⟨bl,bm,bn,bo,bp,bq,br,bs,bt,bu⟩:=cz5 ae;obtain ⟨aY,aZ,ba,bb,bc,bd,be,bf,bg,bh⟩:=cz5 ad)|((with_reducible refine gate_dst (N:=26) rfl ?_);refine Kd.R_make Kd.bool _ 4 rfl (N:=26) rfl 55 _ _ rfl ji3 rfl rfl Try.underlying55 (.bool false) 1 info4 rfl (by decide) (by omega) false (ok:=fun _=>True) (okp:=fun _=>True) rfl (fun _ hk=>hk) trivial (oD) (Nat.le_trans (Nat.mul_le_mul_right _ (oD:ji3.toNat≤281474976710656)) (by omega)) (Below.refl _ _) (Nat.le_refl _) ?_;intro fR jL ho12 hb hg_ hnew_;clear hg_ hnew_;(first|rw[← eL.out]at ho12|(simp only[Int.reduceToNat]at ho12;rw[← eL.out]at ho12));have fw:=rW0 ho12 HB;replace ad:=xB ad hb;replace ae:=xB ae hb;replace HB:=xS HB hb;clear hb ho12));go_loopg [8] k (fun kq v8 w'=>∃ (x7_1:List Bool) (x8_1:Int),v8=.int .i64 x8_1∧Aside0 (spec_l5Pairs.l0 kq a1_1 x7_1 x8_1 a0_0 a0_1 a0_2 a0_3 l0_4 a1_0 a1_1 a1_2 a1_3 l1_4=some (r1,r2))∧Aside0 (kq≤k)∧Aside0 (Kd.R Kd.bool 4 w' w.heap.size (fun _=>True) fR x7_1)∧Aside0 (w'.heap[ao]?=some (.cells #[.int .i64 a0_0,.int .i64 a0_1,.int .i64 a0_2,.int .i64 a0_3,(.slice A0_4 l0_4.length c0_4)] 28 (0,0)))∧Aside0 (w'.heap[al]?=some (.cells #[.int .i64 a1_0,.int .i64 a1_1,.int .i64 a1_2,.int .i64 a1_3,(.slice A1_4 l1_4.length c1_4)] 28 (0,0)))∧Aside0 (Below w.heap.size w w'))
   case atStart=>exact ⟨(eY),(0),vv,H',⟨Nat.le_refl _⟩,⟨zR fw.out⟩,⟨zB ad.out⟩,⟨zB ae.out⟩,⟨zS HB.out⟩⟩
   case round=>
    clear H';try clear c1
    try clear p2
    try clear c4
    try clear cp
    try clear cq
    try clear c5
    try clear cr
    try clear ct
    try clear p6
    try clear c8
    try clear aY aZ ba bb bc
    try clear bl bm bn bo bp
    try clear bd be bf bg bh
    try clear bq br bs bt bu
    obtain ⟨x7_1,x8_1,rfl,HA,HK1,af,ad,ae,HB⟩:=hrel
    cases gk with
    | zero=>exact absurd HA.out (by simp[spec_l5Pairs.l0])
    | succ k1=>
     have H:=HA.out;clear HA;simp only[spec_l5Pairs.l0]at H;by_cases bx:x8_1<(x7_1.length:Int)
     ·rw[if_pos bx]at H;have bJ:decide (x8_1<(x7_1.length:Int))=true:=decide_eq_true bx;clear bx;by_cases bV:a1_1=0
      ·rw[if_pos bV]at H;exact absurd H (by simp)
      rw[if_neg bV]at H;have bW:(a1_1 == 0)=false:=beq_eq_false_iff_ne.mpr bV;have bX:(a1_1 != 0)=true:=bne_iff_ne.mpr bV;replace H:=bI H;obtain ⟨eZ,fa,H⟩:=H;replace H:(if eZ=true then ((spec_l1Has.f a1_2 (Int.tmod x8_1 a1_1)).bind fun bz=>(if 0≤x8_1 then (spec_l5Pairs.l0 k1 a1_1 (x7_1.set (x8_1:Int).toNat bz) (wrap64 (x8_1+1)) a0_0 a0_1 a0_2 a0_3 l0_4 a1_0 a1_1 a1_2 a1_3 l1_4) else (none))) else (if 0≤x8_1 then (spec_l5Pairs.l0 k1 a1_1 (x7_1.set (x8_1:Int).toNat false) (wrap64 (x8_1+1)) a0_0 a0_1 a0_2 a0_3 l0_4 a1_0 a1_1 a1_2 a1_3 l1_4) else (none)))=some (r1,r2):=H;have fP:=Aside0.mk fa;clear fa;by_cases bY:eZ=true
      ·subst bY;have H1:((spec_l1Has.f a1_2 (Int.tmod x8_1 a1_1)).bind fun bz=>(if 0≤x8_1 then (spec_l5Pairs.l0 k1 a1_1 (x7_1.set (x8_1:Int).toNat bz) (wrap64 (x8_1+1)) a0_0 a0_1 a0_2 a0_3 l0_4 a1_0 a1_1 a1_2 a1_3 l1_4) else (none)))=some (r1,r2):=by rw[if_pos rfl]at H;exact H
       clear H;have H:=H1;clear H1;replace H:=bI H;obtain ⟨bz,fb,H⟩:=H;replace H:(if 0≤x8_1 then (spec_l5Pairs.l0 k1 a1_1 (x7_1.set (x8_1:Int).toNat bz) (wrap64 (x8_1+1)) a0_0 a0_1 a0_2 a0_3 l0_4 a1_0 a1_1 a1_2 a1_3 l1_4) else (none))=some (r1,r2):=H;have ha:=Aside0.mk fb;clear fb;by_cases bZ:0≤x8_1
       ·rw[if_pos bZ]at H;have ca:decide (0≤x8_1)=true:=decide_eq_true bZ;clear bZ;obtain ⟨fc,cb⟩:∃ y_:List Bool,y_=(x7_1.set (x8_1:Int).toNat bz):=⟨_,rfl⟩;replace H:(spec_l5Pairs.l0 k1 a1_1 fc (wrap64 (x8_1+1)) a0_0 a0_1 a0_2 a0_3 l0_4 a1_0 a1_1 a1_2 a1_3 l1_4)=some (r1,r2):=by first|(rw[cb];with_reducible exact H)|(have H2_:=(Option.bind_some _ _).symm.trans H;rw[cb];with_reducible exact H2_)|(have H2_:=(Option.bind_some _ _).symm.trans H;with_reducible exact H2_)|with_reducible exact H|(rw[cb];exact H)|exact H
        have fx:=Aside0.mk cb;clear cb;have H':=Aside0.mk H;clear H;obtain ⟨ja,jb,fS⟩:=Kd.R_slice af.out;subst fS;try go_wp2
        replace af:=Aside0.mk (Kd.R_drew af.out);replace ad:=Aside0.mk (blk_drew ad.out);replace ae:=Aside0.mk (blk_drew ae.out);replace HB:=Aside0.mk (below_drew1 HB.out);refine start_ (n:=18) (S:=fun w'=>w'.cell? ⟨ao,0,none⟩=some (.int .i64 a0_0)∧w'.cell? ⟨ao,1,none⟩=some (.int .i64 a0_1)∧w'.cell? ⟨ao,2,none⟩=some (.int .i64 a0_2)∧w'.cell? ⟨ao,3,none⟩=some (.int .i64 a0_3)∧w'.cell? ⟨ao,4,none⟩=some (.slice A0_4 l0_4.length c0_4)∧w'.cell? ⟨al,0,none⟩=some (.int .i64 a1_0)∧w'.cell? ⟨al,1,none⟩=some (.int .i64 a1_1)∧w'.cell? ⟨al,2,none⟩=some (.int .i64 a1_2)∧w'.cell? ⟨al,3,none⟩=some (.int .i64 a1_3)∧w'.cell? ⟨al,4,none⟩=some (.slice A1_4 l1_4.length c1_4)) (ds:=[17]) bl0 (by kernel_rfl) rfl rfl ⟨b1 ad 0,b1 ad 1,b1 ad 2,b1 ad 3,b1 ad 4,b1 ae 0,b1 ae 1,b1 ae 2,b1 ae 3,b1 ae 4⟩ (fun hHeld=>?_);refine with_tabW spec_l5Pairs.tab6 spec_l5Pairs.bits6 (fun HT_ HW_=>?_);generalize wr.drew=jM at af ad ae HB hHeld ⊢;refine pv_ 0 (some 33) bl1 HT_ ?_
        refine pv_ 1 (some 34) bl2 HT_ ?_
        refine pv_ 2 (some 35) bl3 HT_ ?_
        refine pv_ 4 (some 37) bl4 HT_ ?_
        refine pv_ 5 (some 38) bl5 HT_ ?_
        refine pv_ 6 (some 39) bl6 HT_ ?_
        refine tk_ 3 (some 36) bl7 HT_ HW_ hHeld ?_
        refine on_ 7 (some 40) bl8 HT_ (fun K hK=>?_);refine gs_ Try.func14 #[.int .i64 a0_2,.int .i64 (wrap64 (Int.tdiv x8_1 a1_1))] ?_
        with_reducible refine (spec_l1Has.calls a0_2 (wrap64 (Int.tdiv x8_1 a1_1)) true _ fP.out).mono ?_
        rintro e w' ⟨rfl,⟨nd,rfl⟩⟩;refine ⟨_,rfl,?_⟩;refine hK.out _ _ ⟨b1 ad 0,b1 ad 1,b1 ad 2,b1 ad 3,b1 ad 4,b1 ae 0,b1 ae 1,b1 ae 2,b1 ae 3,b1 ae 4⟩ (fun hHeld=>?_);clear hK K;refine nr_ (some 40) ?_
        refine pv_ 8 (some 41) bl9 HT_ ?_
        refine pv_ 9 (some 42) bl10 HT_ ?_
        refine pv_ 11 (some 44) bl11 HT_ ?_
        refine pv_ 12 (some 45) bl12 HT_ ?_
        refine pv_ 13 (some 46) bl13 HT_ ?_
        refine tk_ 10 (some 43) bl14 HT_ HW_ hHeld ?_
        refine on_ 14 (some 47) bl15 HT_ (fun K hK=>?_);refine gs_ Try.func14 #[.int .i64 a1_2,.int .i64 (Int.tmod x8_1 a1_1)] ?_
        with_reducible refine (spec_l1Has.calls a1_2 (Int.tmod x8_1 a1_1) bz _ ha.out).mono ?_
        rintro e w' ⟨rfl,⟨nd,rfl⟩⟩;refine ⟨_,rfl,?_⟩;have bv:0≤(x8_1:Int):=oD;have q19:(x8_1:Int)<((x7_1.length:Int):Int):=oD;obtain ⟨go19,jc,fd,fe,gl19,cl19,HG19⟩:=Kd.R_form af.out (by omega);(first|cases fd|(injection fd with ea_ en_ ec_;(first|subst ea_|(injection ea_ with ea_;subst ea_));subst ec_;clear en_));have GB19:=Aside0.mk fe;have GG19:=Aside0.mk HG19;clear fe gl19 HG19;obtain ⟨bA,hf19_0⟩:=Kd.R_celln false af.out (x8_1:Int) bv q19;replace bv:=eq_true bv;replace q19:=eq_true q19;have HP22:=Kd.R_putn af.out (x8_1:Int) bz;rw[← fx.out]at HP22;have HQ22:=Aside0.mk HP22;clear HP22;refine hK.out _ _ ⟨b1 ad 0,b1 ad 1,b1 ad 2,b1 ad 3,b1 ad 4,b1 ae 0,b1 ae 1,b1 ae 2,b1 ae 3,b1 ae 4⟩ (fun hHeld=>?_);clear hK K;refine nr_ (some 47) ?_
        refine pv_ 15 (some 48) bl16 HT_ ?_
        refine pv_ 16 (some 49) bl17 HT_ ?_
        refine last_ (i:=17) (N:=none) bl18 rfl rfl (one_of HT_.out (by kernel_rfl)) (by decide) (fun K hK=>?_);refine skip_ (w1:=?_) (by rfl) rfl ?_ ?_;rotate_left
        ·go_simp;rfl
        refine hK.out _ _ ?_;clear hK K;refine done_ (done_of HT_.out (by kernel_rfl)) ?_
        try go_wp2
        (first|go_roundg k1|((try simp only[← hji3]);go_roundg k1))
        case measure=>have:=HK1.out;omega
        case rel=>exact ⟨(fc),(wrap64 (x8_1+1)),vv,(by first|exact H' | (have h_:=H';(try simp only[← hji3]at h_);(try simp only[← hji3]);exact h_)),⟨by have:=HK1.out;omega⟩,⟨by (with_reducible repeat (first|apply Kd.R_alloc|apply Kd.R_drewN|apply Kd.R_drew));exact HQ22.out⟩,⟨by (with_reducible repeat (first|refine blk_drewN ?_ _|refine blk_drew ?_|refine blk_alloc ?_ _));refine blk_far ?_ (by have h_:=Kd.R_ne af.out ad.out (by decide);intro e_;exact h_ (by rw[e_];rfl)) _;(with_reducible repeat (first|refine blk_drewN ?_ _|refine blk_drew ?_|refine blk_alloc ?_ _));exact ad.out⟩,⟨by (with_reducible repeat (first|refine blk_drewN ?_ _|refine blk_drew ?_|refine blk_alloc ?_ _));refine blk_far ?_ (by have h_:=Kd.R_ne af.out ae.out (by decide);intro e_;exact h_ (by rw[e_];rfl)) _;(with_reducible repeat (first|refine blk_drewN ?_ _|refine blk_drew ?_|refine blk_alloc ?_ _));exact ae.out⟩,⟨by repeat (first|(with_reducible first|exact HB.out|apply below_alloc|apply pw_below_drewN|apply below_drew1|refine below_set ?_ GB19.out|refine below_set ?_ eM.out|refine below_set ?_ eN.out)|exact HB.out)⟩⟩
       rw[if_neg bZ]at H;exact absurd H (by simp)
      replace bY:=Bool.eq_false_iff.mpr bY;subst bY;have H1:(if 0≤x8_1 then (spec_l5Pairs.l0 k1 a1_1 (x7_1.set (x8_1:Int).toNat false) (wrap64 (x8_1+1)) a0_0 a0_1 a0_2 a0_3 l0_4 a1_0 a1_1 a1_2 a1_3 l1_4) else (none))=some (r1,r2):=by rw[if_neg (show ¬ (false=true) by decide)]at H;exact H
      clear H;have H:=H1;clear H1;by_cases cc:0≤x8_1
      ·rw[if_pos cc]at H;have cd:decide (0≤x8_1)=true:=decide_eq_true cc;clear cc;obtain ⟨ff,ce⟩:∃ y_:List Bool,y_=(x7_1.set (x8_1:Int).toNat false):=⟨_,rfl⟩;replace H:(spec_l5Pairs.l0 k1 a1_1 ff (wrap64 (x8_1+1)) a0_0 a0_1 a0_2 a0_3 l0_4 a1_0 a1_1 a1_2 a1_3 l1_4)=some (r1,r2):=by first|(rw[ce];with_reducible exact H)|(have H2_:=(Option.bind_some _ _).symm.trans H;rw[ce];with_reducible exact H2_)|(have H2_:=(Option.bind_some _ _).symm.trans H;with_reducible exact H2_)|with_reducible exact H|(rw[ce];exact H)|exact H
       have fy:=Aside0.mk ce;clear ce;have H':=Aside0.mk H;clear H;obtain ⟨jd,je,fT⟩:=Kd.R_slice af.out;subst fT;try go_wp2
       replace af:=Aside0.mk (Kd.R_drew af.out);replace ad:=Aside0.mk (blk_drew ad.out);replace ae:=Aside0.mk (blk_drew ae.out);replace HB:=Aside0.mk (below_drew1 HB.out);refine start_ (n:=18) (S:=fun w'=>w'.cell? ⟨ao,0,none⟩=some (.int .i64 a0_0)∧w'.cell? ⟨ao,1,none⟩=some (.int .i64 a0_1)∧w'.cell? ⟨ao,2,none⟩=some (.int .i64 a0_2)∧w'.cell? ⟨ao,3,none⟩=some (.int .i64 a0_3)∧w'.cell? ⟨ao,4,none⟩=some (.slice A0_4 l0_4.length c0_4)) (ds:=[17]) bl0 (by kernel_rfl) rfl rfl ⟨b1 ad 0,b1 ad 1,b1 ad 2,b1 ad 3,b1 ad 4⟩ (fun hHeld=>?_);refine with_tabW spec_l5Pairs.tab6 spec_l5Pairs.bits6 (fun HT_ HW_=>?_);generalize wr.drew=jN at af ad ae HB hHeld ⊢;refine pv_ 0 (some 33) bl1 HT_ ?_
       refine pv_ 1 (some 34) bl2 HT_ ?_
       refine pv_ 2 (some 35) bl3 HT_ ?_
       refine pv_ 4 (some 37) bl4 HT_ ?_
       refine pv_ 5 (some 38) bl5 HT_ ?_
       refine pv_ 6 (some 39) bl6 HT_ ?_
       refine tk_ 3 (some 36) bl7 HT_ HW_ hHeld ?_
       refine on_ 7 (some 40) bl8 HT_ (fun K hK=>?_);refine gs_ Try.func14 #[.int .i64 a0_2,.int .i64 (wrap64 (Int.tdiv x8_1 a1_1))] ?_
       with_reducible refine (spec_l1Has.calls a0_2 (wrap64 (Int.tdiv x8_1 a1_1)) false _ fP.out).mono ?_
       rintro e w' ⟨rfl,⟨nd,rfl⟩⟩;refine ⟨_,rfl,?_⟩;have bw:0≤(x8_1:Int):=oD;have q24:(x8_1:Int)<((x7_1.length:Int):Int):=oD;obtain ⟨go24,jf,fg,fh,gl24,cl24,HG24⟩:=Kd.R_form af.out (by omega);(first|cases fg|(injection fg with ea_ en_ ec_;(first|subst ea_|(injection ea_ with ea_;subst ea_));subst ec_;clear en_));have GB24:=Aside0.mk fh;have GG24:=Aside0.mk HG24;clear fh gl24 HG24;obtain ⟨bB,hf24_0⟩:=Kd.R_celln false af.out (x8_1:Int) bw q24;replace bw:=eq_true bw;replace q24:=eq_true q24;have HP27:=Kd.R_putn af.out (x8_1:Int) false;rw[← fy.out]at HP27;have HQ27:=Aside0.mk HP27;clear HP27;refine hK.out _ _ ⟨b1 ad 0,b1 ad 1,b1 ad 2,b1 ad 3,b1 ad 4⟩ (fun hHeld=>?_);clear hK K;refine nr_ (some 40) ?_
       refine pv_ 8 (some 41) bl9 HT_ ?_
       refine pn_ 9 (some 42) bl10 HT_ ?_
       refine pn_ 10 (some 43) bl19 HT_ ?_
       refine pn_ 11 (some 44) bl20 HT_ ?_
       refine pn_ 12 (some 45) bl21 HT_ ?_
       refine pn_ 13 (some 46) bl14 HT_ ?_
       refine pn_ 14 (some 47) bl15 HT_ ?_
       refine pv_ 15 (some 48) bl16 HT_ ?_
       refine pv_ 16 (some 49) bl17 HT_ ?_
       refine last_ (i:=17) (N:=none) bl18 rfl rfl (one_of HT_.out (by kernel_rfl)) (by decide) (fun K hK=>?_);refine skip_ (w1:=?_) (by rfl) rfl ?_ ?_;rotate_left
       ·go_simp;rfl
       refine hK.out _ _ ?_;clear hK K;refine done_ (done_of HT_.out (by kernel_rfl)) ?_
       try go_wp2
       (first|go_roundg k1|((try simp only[← hji3]);go_roundg k1))
       case measure=>have:=HK1.out;omega
       case rel=>exact ⟨(ff),(wrap64 (x8_1+1)),vv,(by first|exact H' | (have h_:=H';(try simp only[← hji3]at h_);(try simp only[← hji3]);exact h_)),⟨by have:=HK1.out;omega⟩,⟨by (with_reducible repeat (first|apply Kd.R_alloc|apply Kd.R_drewN|apply Kd.R_drew));exact HQ27.out⟩,⟨by (with_reducible repeat (first|refine blk_drewN ?_ _|refine blk_drew ?_|refine blk_alloc ?_ _));refine blk_far ?_ (by have h_:=Kd.R_ne af.out ad.out (by decide);intro e_;exact h_ (by rw[e_];rfl)) _;(with_reducible repeat (first|refine blk_drewN ?_ _|refine blk_drew ?_|refine blk_alloc ?_ _));exact ad.out⟩,⟨by (with_reducible repeat (first|refine blk_drewN ?_ _|refine blk_drew ?_|refine blk_alloc ?_ _));refine blk_far ?_ (by have h_:=Kd.R_ne af.out ae.out (by decide);intro e_;exact h_ (by rw[e_];rfl)) _;(with_reducible repeat (first|refine blk_drewN ?_ _|refine blk_drew ?_|refine blk_alloc ?_ _));exact ae.out⟩,⟨by repeat (first|(with_reducible first|exact HB.out|apply below_alloc|apply pw_below_drewN|apply below_drew1|refine below_set ?_ GB24.out|refine below_set ?_ eM.out|refine below_set ?_ eN.out)|exact HB.out)⟩⟩
      rw[if_neg cc]at H;exact absurd H (by simp)
     rw[if_neg bx]at H;have bJ:decide (x8_1<(x7_1.length:Int))=false:=decide_eq_false bx;clear bx;obtain ⟨fi,cf⟩:∃ y_:List Int,y_=(([]:List Int)):=⟨_,rfl⟩;replace H:(spec_l5Pairs.l1 k1 a1_1 x7_1 fi 0 a0_0 a0_1 a0_2 a0_3 l0_4 a1_0 a1_1 a1_2 a1_3 l1_4)=some (r1,r2):=by first|(rw[cf];with_reducible exact H)|(have H2_:=(Option.bind_some _ _).symm.trans H;rw[cf];with_reducible exact H2_)|(have H2_:=(Option.bind_some _ _).symm.trans H;with_reducible exact H2_)|with_reducible exact H|(rw[cf];exact H)|exact H
     have eO:=Aside0.mk cf;clear cf;have H':=Aside0.mk H;clear H;obtain ⟨bk,aV,fU⟩:=Kd.R_slice af.out;subst fU;go_wp2_with (first|((with_reducible refine gate_dst (N:=50) rfl ?_);refine Kd.R_lit (Kd.int .i64) _ 3 ?hg (N:=50) ?hd (xs:=([]:List Int)) (inner:=[]) (ok:=fun _=>True) (okp:=fun _=>True) ?hr ?hp (fun _ hk=>hk) trivial (Below.refl _ _) (Nat.le_refl _) (by simp) ?_;(case hd=>rfl);(case hg=>rfl);(case hr=>first|(go_simp;done)|(go_simp;rfl));(case hp=>exact (Reps.none _ _));intro jg jO ho30 hb hg_ hnew_;clear hg_ hnew_;(first|rw[← eO.out]at ho30|(simp only[Int.reduceToNat]at ho30;rw[← eO.out]at ho30));replace af:=xR af hb;have fz:=rW0 ho30 HB;replace ad:=xB ad hb;replace ae:=xB ae hb;replace HB:=xS HB hb;clear hb ho30));go_loopg [9,10] k1 (fun kq v9 hc w'=>∃ (x9_2:List Int) (ak:Int),hc=.int .i64 ak∧Aside0 (spec_l5Pairs.l1 kq a1_1 x7_1 x9_2 ak a0_0 a0_1 a0_2 a0_3 l0_4 a1_0 a1_1 a1_2 a1_3 l1_4=some (r1,r2))∧Aside0 (kq≤k1)∧Aside0 (Kd.R Kd.bool 4 w' w.heap.size (fun _=>True) (.slice bk x7_1.length aV) x7_1)∧Aside0 (Kd.R (Kd.int .i64) 3 w' w.heap.size (fun _=>True) v9 x9_2)∧Aside0 (w'.heap[ao]?=some (.cells #[.int .i64 a0_0,.int .i64 a0_1,.int .i64 a0_2,.int .i64 a0_3,(.slice A0_4 l0_4.length c0_4)] 28 (0,0)))∧Aside0 (w'.heap[al]?=some (.cells #[.int .i64 a1_0,.int .i64 a1_1,.int .i64 a1_2,.int .i64 a1_3,(.slice A1_4 l1_4.length c1_4)] 28 (0,0)))∧Aside0 (Below w.heap.size w w'))
     case atStart=>exact ⟨(fi),(0),vv,H',⟨Nat.le_refl _⟩,⟨zR af.out⟩,⟨zR fz.out⟩,⟨zB ad.out⟩,⟨zB ae.out⟩,⟨zS HB.out⟩⟩
     case round=>
      clear H';try clear c1
      try clear p1
      try clear q1
      try clear hx1
      try clear c2
      try clear p2
      try clear q2
      try clear hx2
      try clear hf2
      try clear c4
      try clear cp
      try clear cq
      try clear c5
      try clear cr
      try clear ct
      try clear p6
      try clear c8
      try clear bx
      try clear bJ
      try clear bV
      try clear bW
      try clear bX
      try clear bY
      try clear bZ
      try clear ca
      try clear bv
      try clear q19
      try clear hx19
      try clear hf19
      try clear cc
      try clear cd
      try clear bw
      try clear q24
      try clear hx24
      try clear hf24
      try clear aY aZ ba bb bc
      try clear bl bm bn bo bp
      try clear bd be bf bg bh
      try clear bq br bs bt bu
      try clear bA
      try clear bB
      try clear bv
      try clear p2
      try clear bw
      try clear p6
      try clear q19
      try clear q24
      obtain ⟨x9_2,ak,rfl,HA,HK2,af,ah,ad,ae,HB⟩:=hrel
      cases gk with
      | zero=>exact absurd HA.out (by simp[spec_l5Pairs.l1])
      | succ k2=>
       have H:=HA.out;clear HA;simp only[spec_l5Pairs.l1]at H;by_cases bQ:ak<(x7_1.length:Int)
       ·rw[if_pos bQ]at H;have cg:decide (ak<(x7_1.length:Int))=true:=decide_eq_true bQ;clear bQ;by_cases cy:0≤ak
        ·rw[if_pos cy]at H;have cF:decide (0≤ak)=true:=decide_eq_true cy;clear cy;obtain ⟨bq33,hbq33⟩:∃ b_:Bool,b_=(rdOf false x7_1 ak):=⟨_,rfl⟩;replace H:(if bq33=true then (if x9_2.length<17592186044416 then (spec_l5Pairs.l1 k2 a1_1 x7_1 (x9_2 ++ [ak]) (wrap64 (ak+1)) a0_0 a0_1 a0_2 a0_3 l0_4 a1_0 a1_1 a1_2 a1_3 l1_4) else (none)) else (spec_l5Pairs.l1 k2 a1_1 x7_1 x9_2 (wrap64 (ak+1)) a0_0 a0_1 a0_2 a0_3 l0_4 a1_0 a1_1 a1_2 a1_3 l1_4))=some (r1,r2):=by rw[← hbq33]at H;exact H
         have Nbq33:=Aside0.mk hbq33;clear hbq33;by_cases cz:bq33=true
         ·subst cz;have H1:(if x9_2.length<17592186044416 then (spec_l5Pairs.l1 k2 a1_1 x7_1 (x9_2 ++ [ak]) (wrap64 (ak+1)) a0_0 a0_1 a0_2 a0_3 l0_4 a1_0 a1_1 a1_2 a1_3 l1_4) else (none))=some (r1,r2):=by rw[if_pos rfl]at H;exact H
          clear H;have H:=H1;clear H1;by_cases cA:x9_2.length<17592186044416
          ·rw[if_pos cA]at H;have LMc35:=Aside0.mk cA;clear cA;obtain ⟨fj,ch⟩:∃ y_:List Int,y_=(x9_2 ++ [ak]):=⟨_,rfl⟩;replace H:(spec_l5Pairs.l1 k2 a1_1 x7_1 fj (wrap64 (ak+1)) a0_0 a0_1 a0_2 a0_3 l0_4 a1_0 a1_1 a1_2 a1_3 l1_4)=some (r1,r2):=by first|(rw[ch];with_reducible exact H)|(have H2_:=(Option.bind_some _ _).symm.trans H;rw[ch];with_reducible exact H2_)|(have H2_:=(Option.bind_some _ _).symm.trans H;with_reducible exact H2_)|with_reducible exact H|(rw[ch];exact H)|exact H
           have fA:=Aside0.mk ch;clear ch;have H':=Aside0.mk H;clear H;have bi:0≤(ak:Int):=oD;have q139:ak<(x7_1.length:Int):=oD;obtain ⟨ad139,e139,aR⟩:=Kd.at_bool (Kd.R_reads' af.out).2.2 ak bi q139;(try rw[← Nbq33.out]at aR)
           cases e139
           replace bi:=eq_true bi;replace q139:=eq_true q139;go_wp2_with (first|((with_reducible refine gate_builtin (b:=.append) (xs:=#[.tmp 61,.tmp 63]) rfl ?_);at_builtin;refine Kd.R_append (Kd.int .i64) (w0:=w) w.heap.size rfl (.tmp 61) (.tmp 63) 37 3 (.int .i64 0) 8 rfl Try.underlying37 info3 rfl (by decide) (by omega) u9 x9_2 ak [.int .i64 ak] (fun _=>True) (fun _=>False) rfl rfl ?aP (fun _ hk=>hk.elim) ?aF ?aO ?aB ?aS ?aL ?_;(case aP=>exact rfl);(case aB=>exact (zS HB.out));(case aF=>exact (fun _ _=>trivial));(case aO=>exact (zR ah.out));(case aS=>exact (below_size (zS HB.out)));(case aL=>have:=LMc35.out;omega);intro jh jP ho hb hg hat;rw[← fA.out]at ho;have ax:=Aside0.mk (Kd.R_over' (zR af.out) (Kd.R_typed (zR ah.out)) (by decide) hg);have ay:=bG ad hg ah;have az:=bG ae hg ah;have aA:=Aside0.mk (hb);have aC:=Aside0.mk (ho);clear af;clear ad;clear ae;clear HB;clear ah;have af:=ax;have ad:=ay;have ae:=az;have HB:=aA;have fB:=aC;clear ax ay az aA aC;clear ho hb hg hat));(first|go_roundg k2|((try simp only[← hji3]);go_roundg k2))
           case measure=>have:=HK1.out;have:=HK2.out;omega
           case rel=>exact ⟨(fj),(wrap64 (ak+1)),vv,(by first|exact H' | (have h_:=H';(try simp only[← hji3]at h_);(try simp only[← hji3]);exact h_)),⟨by have:=HK1.out;have:=HK2.out;omega⟩,⟨zR af.out⟩,⟨zR fB.out⟩,⟨zB ad.out⟩,⟨zB ae.out⟩,⟨zS HB.out⟩⟩
          rw[if_neg cA]at H;exact absurd H (by simp)
         replace cz:=Bool.eq_false_iff.mpr cz;subst cz;have H1:(spec_l5Pairs.l1 k2 a1_1 x7_1 x9_2 (wrap64 (ak+1)) a0_0 a0_1 a0_2 a0_3 l0_4 a1_0 a1_1 a1_2 a1_3 l1_4)=some (r1,r2):=by rw[if_neg (show ¬ (false=true) by decide)]at H;exact H
         clear H;have H:=H1;clear H1;have H':=Aside0.mk H;clear H;have bi:0≤(ak:Int):=oD;have q139:ak<(x7_1.length:Int):=oD;obtain ⟨ad139,e139,aR⟩:=Kd.at_bool (Kd.R_reads' af.out).2.2 ak bi q139;(try rw[← Nbq33.out]at aR)
         cases e139
         replace bi:=eq_true bi;replace q139:=eq_true q139;go_wp2;(first|go_roundg k2|((try simp only[← hji3]);go_roundg k2))
         case measure=>have:=HK1.out;have:=HK2.out;omega
         case rel=>exact ⟨(x9_2),(wrap64 (ak+1)),vv,(by first|exact H' | (have h_:=H';(try simp only[← hji3]at h_);(try simp only[← hji3]);exact h_)),⟨by have:=HK1.out;have:=HK2.out;omega⟩,⟨zR af.out⟩,⟨zR ah.out⟩,⟨zB ad.out⟩,⟨zB ae.out⟩,⟨zS HB.out⟩⟩
        rw[if_neg cy]at H;exact absurd H (by simp)
       rw[if_neg bQ]at H;have cg:decide (ak<(x7_1.length:Int))=false:=decide_eq_false bQ;clear bQ;have H':=Aside0.mk H;clear H;go_wp2;go_loopg [9,11] k2 (fun kq v9 he w'=>∃ (x7_3:List Bool) (x9_3:List Int) (ai:Int),he=.int .i64 ai∧Aside0 (spec_l5Pairs.l2 kq a1_1 x7_3 x9_3 ai a0_0 a0_1 a0_2 a0_3 l0_4 a1_0 a1_1 a1_2 a1_3 l1_4=some (r1,r2))∧Aside0 (kq≤k2)∧Aside0 (Kd.R Kd.bool 4 w' w.heap.size (fun _=>True) (.slice bk x7_1.length aV) x7_3)∧Aside0 (Kd.R (Kd.int .i64) 3 w' w.heap.size (fun _=>True) v9 x9_3)∧Aside0 (w'.heap[ao]?=some (.cells #[.int .i64 a0_0,.int .i64 a0_1,.int .i64 a0_2,.int .i64 a0_3,(.slice A0_4 l0_4.length c0_4)] 28 (0,0)))∧Aside0 (w'.heap[al]?=some (.cells #[.int .i64 a1_0,.int .i64 a1_1,.int .i64 a1_2,.int .i64 a1_3,(.slice A1_4 l1_4.length c1_4)] 28 (0,0)))∧Aside0 (Below w.heap.size w w'))
       case atStart=>exact ⟨(x7_1),(x9_2),(0),vv,H',⟨Nat.le_refl _⟩,⟨zR af.out⟩,⟨zR ah.out⟩,⟨zB ad.out⟩,⟨zB ae.out⟩,⟨zS HB.out⟩⟩
       case round=>
        clear H';try clear c1
        try clear p1
        try clear q1
        try clear hx1
        try clear c2
        try clear p2
        try clear q2
        try clear hx2
        try clear hf2
        try clear c3
        try clear q3
        try clear c4
        try clear cp
        try clear cq
        try clear c5
        try clear cr
        try clear ct
        try clear p6
        try clear c8
        try clear bx
        try clear bJ
        try clear cJ
        try clear q13
        try clear hx13
        try clear bV
        try clear bW
        try clear bX
        try clear bY
        try clear bZ
        try clear ca
        try clear bv
        try clear q19
        try clear hx19
        try clear hf19
        try clear cc
        try clear cd
        try clear bw
        try clear q24
        try clear hx24
        try clear hf24
        try clear bQ
        try clear cg
        try clear cy
        try clear cF
        try clear q33
        try clear cz
        try clear cA
        try clear aY aZ ba bb bc
        try clear bl bm bn bo bp
        try clear bd be bf bg bh
        try clear bq br bs bt bu
        try clear aR
        try clear bA
        try clear bB
        try clear p1
        try clear bi
        try clear bv
        try clear p2
        try clear bw
        try clear p6
        try clear q1
        try clear q139
        try clear q19
        try clear q2
        try clear q24
        obtain ⟨x7_3,x9_3,ai,rfl,HA,HK3,af,ah,ad,ae,HB⟩:=hrel;have hl7_3:=(Kd.R_reads' af.out).1;rw[hl7_3]at af;(try simp only[hl7_3]);(try simp only[hl7_3]at ad);(try simp only[hl7_3]at ae);(try simp only[hl7_3]at ah)
        cases gk with
        | zero=>exact absurd HA.out (by simp[spec_l5Pairs.l2])
        | succ k3=>
         have H:=HA.out;clear HA;simp only[spec_l5Pairs.l2]at H;by_cases bR:ai<(x9_3.length:Int)
         ·rw[if_pos bR]at H;have bK:decide (ai<(x9_3.length:Int))=true:=decide_eq_true bR;clear bR;have H':=Aside0.mk H;clear H;obtain ⟨ji,jj,fV⟩:=Kd.R_slice ah.out;subst fV;go_wp2;go_loopg [9,12] k3 (fun kq v9 hf w'=>∃ (x7_4:List Bool) (x9_4:List Int) (ac:Int),hf=.int .i64 ac∧Aside0 (spec_l5Pairs.l3 kq a1_1 x7_4 x9_4 ai ac a0_0 a0_1 a0_2 a0_3 l0_4 a1_0 a1_1 a1_2 a1_3 l1_4=some (r1,r2))∧Aside0 (kq≤k3)∧Aside0 (Kd.R Kd.bool 4 w' w.heap.size (fun _=>True) (.slice bk x7_3.length aV) x7_4)∧Aside0 (Kd.R (Kd.int .i64) 3 w' w.heap.size (fun _=>True) v9 x9_4)∧Aside0 (w'.heap[ao]?=some (.cells #[.int .i64 a0_0,.int .i64 a0_1,.int .i64 a0_2,.int .i64 a0_3,(.slice A0_4 l0_4.length c0_4)] 28 (0,0)))∧Aside0 (w'.heap[al]?=some (.cells #[.int .i64 a1_0,.int .i64 a1_1,.int .i64 a1_2,.int .i64 a1_3,(.slice A1_4 l1_4.length c1_4)] 28 (0,0)))∧Aside0 (Below w.heap.size w w'))
          case atStart=>exact ⟨(x7_3),(x9_3),(0),vv,H',⟨Nat.le_refl _⟩,⟨by (try simp only[hl7_3]);(with_reducible repeat (first|apply Kd.R_alloc|apply Kd.R_drewN|apply Kd.R_drew));exact af.out⟩,⟨by (try simp only[hl7_3]);(with_reducible repeat (first|apply Kd.R_alloc|apply Kd.R_drewN|apply Kd.R_drew));exact ah.out⟩,⟨by (try simp only[hl7_3]);(with_reducible repeat (first|refine blk_drewN ?_ _|refine blk_drew ?_|refine blk_alloc ?_ _));exact ad.out⟩,⟨by (try simp only[hl7_3]);(with_reducible repeat (first|refine blk_drewN ?_ _|refine blk_drew ?_|refine blk_alloc ?_ _));exact ae.out⟩,⟨zS HB.out⟩⟩
          case round=>
           clear H';try clear c1
           try clear p1
           try clear q1
           try clear hx1
           try clear c2
           try clear p2
           try clear q2
           try clear hx2
           try clear hf2
           try clear c3
           try clear q3
           try clear c4
           try clear cp
           try clear cq
           try clear c5
           try clear cr
           try clear ct
           try clear p6
           try clear c8
           try clear bx
           try clear bJ
           try clear cJ
           try clear q13
           try clear hx13
           try clear bV
           try clear bW
           try clear bX
           try clear bY
           try clear bZ
           try clear ca
           try clear bv
           try clear q19
           try clear hx19
           try clear hf19
           try clear cc
           try clear cd
           try clear bw
           try clear q24
           try clear hx24
           try clear hf24
           try clear bQ
           try clear cg
           try clear cy
           try clear cF
           try clear q33
           try clear cz
           try clear cA
           try clear bR
           try clear bK
           try clear aY aZ ba bb bc
           try clear bl bm bn bo bp
           try clear bd be bf bg bh
           try clear bq br bs bt bu
           try clear aR
           try clear bA
           try clear bB
           try clear p1
           try clear cJ
           try clear bi
           try clear bv
           try clear p2
           try clear bw
           try clear p6
           try clear q1
           try clear q13
           try clear q139
           try clear q19
           try clear q2
           try clear q24
           try clear q3
           try clear q33
           obtain ⟨x7_4,x9_4,ac,rfl,HA,HK4,af,ah,ad,ae,HB⟩:=hrel;have hl7_4:=(Kd.R_reads' af.out).1;rw[hl7_4]at af;(try simp only[hl7_4]);(try simp only[hl7_4]at ad);(try simp only[hl7_4]at ae);(try simp only[hl7_4]at ah)
           cases gk with
           | zero=>exact absurd HA.out (by simp[spec_l5Pairs.l3])
           | succ k4=>
            have H:=HA.out;clear HA;simp only[spec_l5Pairs.l3]at H;by_cases ci:ac<(l0_4.length:Int)
            ·rw[if_pos ci]at H;have bL:decide (ac<(l0_4.length:Int))=true:=decide_eq_true ci;clear ci;by_cases cG:0≤ac
             ·rw[if_pos cG]at H;have eP:decide (0≤ac)=true:=decide_eq_true cG;clear cG;have H':=Aside0.mk H;clear H;obtain ⟨ib,ic⟩:=nn cx;obtain ⟨cK,cL,cM,cN,cO,cP,cQ,cR,cS,cU⟩:=cz5 ad;have cH:0≤(ac:Int):=oD;have q143:ac<(l0_4.length:Int):=oD;obtain ⟨ad143,e143,bM,bN,bO,bP⟩:=at_T43 HR0_4.out ac cH q143
              cases e143
              replace bM:=ct_ HB bM;replace bN:=ct_ HB bN;replace bO:=ct_ HB bO;replace bP:=ct_ HB bP;replace cH:=eq_true cH;replace q143:=eq_true q143;go_wp2_with (first|((with_reducible refine gate_dst (N:=13) rfl ?_);refine bx_ 13 #[.int .i64 0,.int .i64 0,.int .i64 0,.int .i64 0] 43 ?_;intro am hg jQ hbox hb;replace af:=xR af hb;replace ah:=xR ah hb;have ag:=Aside0.mk (hbox);have id:=xG HB hg;have ie:=xG HB hg;replace HB:=xS HB hb;have bj:=xN ad hg;have aU:=xM ad hg;replace ad:=xB ad hb;have aD:=xN ae hg;have dl:=xM ae hg;replace ae:=xB ae hb;clear hb hbox hg;obtain ⟨ig,ih⟩:=nn aU;obtain ⟨ii,ij⟩:=nn dl;obtain ⟨cV,cW,cX,cY,cZ,da,db,dc⟩:=cz4 ag));go_loopg [9,14] k4 (fun kq v9 hh w'=>∃ (x7_5:List Bool) (x9_5:List Int) (aa:Int),hh=.int .i64 aa∧Aside0 (spec_l5Pairs.l4 kq a1_1 x7_5 x9_5 ai ac aa a0_0 a0_1 a0_2 a0_3 l0_4 a1_0 a1_1 a1_2 a1_3 l1_4 ((rd_T43 l0_4 ac).f0) ((rd_T43 l0_4 ac).f1) ((rd_T43 l0_4 ac).f2) ((rd_T43 l0_4 ac).f3)=some (r1,r2))∧Aside0 (kq≤k4)∧Aside0 (Kd.R Kd.bool 4 w' w.heap.size (fun _=>True) (.slice bk x7_4.length aV) x7_5)∧Aside0 (Kd.R (Kd.int .i64) 3 w' w.heap.size (fun _=>True) v9 x9_5)∧Aside0 (w'.heap[ao]?=some (.cells #[.int .i64 a0_0,.int .i64 a0_1,.int .i64 a0_2,.int .i64 a0_3,(.slice (some ad143) l0_4.length c0_4)] 28 (0,0)))∧Aside0 (w'.heap[al]?=some (.cells #[.int .i64 a1_0,.int .i64 a1_1,.int .i64 a1_2,.int .i64 a1_3,(.slice A1_4 l1_4.length c1_4)] 28 (0,0)))∧Aside0 (w'.heap[am]?=some (.cells #[.int .i64 ((rd_T43 l0_4 ac).f0),.int .i64 ((rd_T43 l0_4 ac).f1),.int .i64 ((rd_T43 l0_4 ac).f2),.int .i64 ((rd_T43 l0_4 ac).f3)] 43 (0,0)))∧Aside0 (Below w.heap.size w w'))
              case atStart=>exact ⟨(x7_4),(x9_4),(0),vv,H',⟨Nat.le_refl _⟩,⟨by (try simp only[hl7_3]);(try simp only[hl7_4]);(with_reducible repeat (first|apply Kd.R_alloc|apply Kd.R_drewN|apply Kd.R_drew));exact Kd.R_mono (yF4 af ag) (fun _ hk=>trivial)⟩,⟨by (try simp only[hl7_3]);(try simp only[hl7_4]);(with_reducible repeat (first|apply Kd.R_alloc|apply Kd.R_drewN|apply Kd.R_drew));exact Kd.R_mono (yF4 ah ag) (fun _ hk=>trivial)⟩,⟨by (try simp only[hl7_3]);(try simp only[hl7_4]);(with_reducible repeat (first|refine blk_drewN ?_ _|refine blk_drew ?_|refine blk_alloc ?_ _));refine blk_far ?_ bj.out _;(with_reducible repeat (first|refine blk_drewN ?_ _|refine blk_drew ?_|refine blk_alloc ?_ _));refine blk_far ?_ bj.out _;(with_reducible repeat (first|refine blk_drewN ?_ _|refine blk_drew ?_|refine blk_alloc ?_ _));refine blk_far ?_ bj.out _;(with_reducible repeat (first|refine blk_drewN ?_ _|refine blk_drew ?_|refine blk_alloc ?_ _));refine blk_far ?_ bj.out _;(with_reducible repeat (first|refine blk_drewN ?_ _|refine blk_drew ?_|refine blk_alloc ?_ _));exact ad.out⟩,⟨by (try simp only[hl7_3]);(try simp only[hl7_4]);(with_reducible repeat (first|refine blk_drewN ?_ _|refine blk_drew ?_|refine blk_alloc ?_ _));refine blk_far ?_ aD.out _;(with_reducible repeat (first|refine blk_drewN ?_ _|refine blk_drew ?_|refine blk_alloc ?_ _));refine blk_far ?_ aD.out _;(with_reducible repeat (first|refine blk_drewN ?_ _|refine blk_drew ?_|refine blk_alloc ?_ _));refine blk_far ?_ aD.out _;(with_reducible repeat (first|refine blk_drewN ?_ _|refine blk_drew ?_|refine blk_alloc ?_ _));refine blk_far ?_ aD.out _;(with_reducible repeat (first|refine blk_drewN ?_ _|refine blk_drew ?_|refine blk_alloc ?_ _));exact ae.out⟩,⟨by (try simp only[hl7_3]);(try simp only[hl7_4]);(with_reducible repeat (first|refine blk_drewN ?_ _|refine blk_drew ?_|refine blk_alloc ?_ _));refine blk_put (cs:=#[.int .i64 ((rd_T43 l0_4 ac).f0),.int .i64 ((rd_T43 l0_4 ac).f1),.int .i64 ((rd_T43 l0_4 ac).f2),.int .i64 0]) ?_ 3 _ rfl;(with_reducible repeat (first|refine blk_drewN ?_ _|refine blk_drew ?_|refine blk_alloc ?_ _));refine blk_put (cs:=#[.int .i64 ((rd_T43 l0_4 ac).f0),.int .i64 ((rd_T43 l0_4 ac).f1),.int .i64 0,.int .i64 0]) ?_ 2 _ rfl;(with_reducible repeat (first|refine blk_drewN ?_ _|refine blk_drew ?_|refine blk_alloc ?_ _));refine blk_put (cs:=#[.int .i64 ((rd_T43 l0_4 ac).f0),.int .i64 0,.int .i64 0,.int .i64 0]) ?_ 1 _ rfl;(with_reducible repeat (first|refine blk_drewN ?_ _|refine blk_drew ?_|refine blk_alloc ?_ _));refine blk_put (cs:=#[.int .i64 0,.int .i64 0,.int .i64 0,.int .i64 0]) ?_ 0 _ rfl;(with_reducible repeat (first|refine blk_drewN ?_ _|refine blk_drew ?_|refine blk_alloc ?_ _));exact ag.out⟩,⟨zS HB.out⟩⟩
              case round=>
               clear H';try clear c1
               try clear p1
               try clear q1
               try clear hx1
               try clear c2
               try clear p2
               try clear q2
               try clear hx2
               try clear hf2
               try clear c3
               try clear q3
               try clear c4
               try clear cp
               try clear cq
               try clear c5
               try clear cr
               try clear ct
               try clear p6
               try clear c8
               try clear bx
               try clear bJ
               try clear cJ
               try clear q13
               try clear hx13
               try clear bV
               try clear bW
               try clear bX
               try clear fk
               try clear q14
               try clear hx14
               try clear bY
               try clear bZ
               try clear ca
               try clear bv
               try clear q19
               try clear hx19
               try clear hf19
               try clear cc
               try clear cd
               try clear bw
               try clear q24
               try clear hx24
               try clear hf24
               try clear bQ
               try clear cg
               try clear cy
               try clear cF
               try clear q33
               try clear cz
               try clear cA
               try clear bR
               try clear bK
               try clear ci
               try clear bL
               try clear cG
               try clear eP
               try clear hj
               try clear hl
               try clear hm
               try clear aY aZ ba bb bc
               try clear cK cL cM cN cO
               try clear cV cW cX cY
               try clear bl bm bn bo bp
               try clear bd be bf bg bh
               try clear cP cQ cR cS cU
               try clear cZ da db dc
               try clear bq br bs bt bu
               try clear aR
               try clear bM
               try clear bN
               try clear bO
               try clear bP
               try clear bA
               try clear bB
               try clear p1
               try clear cJ
               try clear bi
               try clear cH
               try clear bv
               try clear p2
               try clear bw
               try clear p6
               try clear q1
               try clear q13
               try clear q139
               try clear q143
               try clear q19
               try clear q2
               try clear q24
               try clear q3
               try clear q33
               obtain ⟨x7_5,x9_5,aa,rfl,HA,HK5,af,ah,ad,ae,ag,HB⟩:=hrel;have hl7_5:=(Kd.R_reads' af.out).1;rw[hl7_5]at af;(try simp only[hl7_5]);(try simp only[hl7_5]at ad);(try simp only[hl7_5]at ae);(try simp only[hl7_5]at ag);(try simp only[hl7_5]at ah)
               cases gk with
               | zero=>exact absurd HA.out (by simp[spec_l5Pairs.l4])
               | succ k5=>
                have H:=HA.out;clear HA;simp only[spec_l5Pairs.l4]at H;have HC47:=Aside0.mk H;clear H;go_upto_region 21 with (fail)
                go_cut [98] (fun hq wc=>∃ (kq:Nat) (cj:Bool),hq=.bool cj∧Aside0 (spec_l5Pairs.j5 kq a1_1 x7_5 x9_5 ai ac aa cj a0_0 a0_1 a0_2 a0_3 l0_4 a1_0 a1_1 a1_2 a1_3 l1_4 ((rd_T43 l0_4 ac).f0) ((rd_T43 l0_4 ac).f1) ((rd_T43 l0_4 ac).f2) ((rd_T43 l0_4 ac).f3)=some (r1,r2))∧Aside0 (kq≤k5)∧Aside0 (Kd.R Kd.bool 4 wc w.heap.size (fun _=>True) (.slice bk x7_5.length aV) x7_5)∧Aside0 (Kd.R (Kd.int .i64) 3 wc w.heap.size (fun _=>True) u9 x9_5)∧Aside0 (wc.heap[ao]?=some (.cells #[.int .i64 a0_0,.int .i64 a0_1,.int .i64 a0_2,.int .i64 a0_3,(.slice (some ad143) l0_4.length c0_4)] 28 (0,0)))∧Aside0 (wc.heap[al]?=some (.cells #[.int .i64 a1_0,.int .i64 a1_1,.int .i64 a1_2,.int .i64 a1_3,(.slice A1_4 l1_4.length c1_4)] 28 (0,0)))∧Aside0 (wc.heap[am]?=some (.cells #[.int .i64 ((rd_T43 l0_4 ac).f0),.int .i64 ((rd_T43 l0_4 ac).f1),.int .i64 ((rd_T43 l0_4 ac).f2),.int .i64 ((rd_T43 l0_4 ac).f3)] 43 (0,0)))∧Aside0 (Below w.heap.size w wc))
                case first=>
                 have H:=HC47.out;clear HC47;by_cases cI:aa<(l1_4.length:Int)
                 ·rw[if_pos cI]at H;have aX:decide (aa<(l1_4.length:Int))=true:=decide_eq_true cI;clear cI;(first|rw[aX]|(simp only[i64_w,i32_w];rw[aX])|skip);by_cases dm:0≤ai
                  ·rw[if_pos dm]at H;have fC:decide (0≤ai)=true:=decide_eq_true dm;clear dm;by_cases dn:ai<(x9_5.length:Int)
                   ·rw[if_pos dn]at H;have fD:decide (ai<(x9_5.length:Int))=true:=decide_eq_true dn;clear dn;by_cases dp:a1_1=0
                    ·rw[if_pos dp]at H;exact absurd H (by simp)
                    rw[if_neg dp]at H;have fE:(a1_1 == 0)=false:=beq_eq_false_iff_ne.mpr dp;have fF:(a1_1 != 0)=true:=bne_iff_ne.mpr dp;have H':=Aside0.mk H;clear H;try go_wp2
                    replace af:=Aside0.mk (Kd.R_drew af.out);replace ah:=Aside0.mk (Kd.R_drew ah.out);replace ad:=Aside0.mk (blk_drew ad.out);replace ae:=Aside0.mk (blk_drew ae.out);replace ag:=Aside0.mk (blk_drew ag.out);replace HB:=Aside0.mk (below_drew1 HB.out);obtain ⟨jk,jl,fl⟩:=Kd.R_slice ah.out;(first|subst fl|(injection fl with f1_ f2_ f3_;have f4_:=f1_.symm;have f5_:=f3_.symm;clear f1_ f2_ f3_;subst f4_;subst f5_));have dd:0≤(ai:Int):=oD;have q145:ai<(x9_5.length:Int):=oD;obtain ⟨ad145,e145,cu⟩:=Kd.at_int (Kd.R_reads' ah.out).2.2 ai dd q145
                    cases e145
                    replace dd:=eq_true dd;replace q145:=eq_true q145;refine start_ (n:=16) (S:=fun w'=>w'.cell? ⟨al,0,none⟩=some (.int .i64 a1_0)∧w'.cell? ⟨al,1,none⟩=some (.int .i64 a1_1)∧w'.cell? ⟨al,2,none⟩=some (.int .i64 a1_2)∧w'.cell? ⟨al,3,none⟩=some (.int .i64 a1_3)∧w'.cell? ⟨al,4,none⟩=some (.slice A1_4 l1_4.length c1_4)∧w'.cell? ⟨am,0,none⟩=some (.int .i64 ((rd_T43 l0_4 ac).f0))∧w'.cell? ⟨am,1,none⟩=some (.int .i64 ((rd_T43 l0_4 ac).f1))∧w'.cell? ⟨am,2,none⟩=some (.int .i64 ((rd_T43 l0_4 ac).f2))∧w'.cell? ⟨am,3,none⟩=some (.int .i64 ((rd_T43 l0_4 ac).f3))∧w'.cell? (ad145.add (ai).toNat)=some (.int .i64 (rd x9_5 ai))) (ds:=[]) bl22 (by kernel_rfl) rfl rfl ⟨b1 ae 0,b1 ae 1,b1 ae 2,b1 ae 3,b1 ae 4,b1 ag 0,b1 ag 1,b1 ag 2,b1 ag 3,cu⟩ (fun hHeld=>?_);refine with_tabW spec_l5Pairs.tab21 spec_l5Pairs.bits21 (fun HT_ HW_=>?_);generalize wr.drew=jR at af ah ad ae ag HB cu hHeld ⊢;refine pv_ 0 (some 83) bl23 HT_ ?_
                    refine pv_ 1 (some 84) bl24 HT_ ?_
                    refine tk_ 2 (some 85) bl25 HT_ HW_ hHeld ?_
                    refine pv_ 3 (some 86) bl26 HT_ ?_
                    refine pv_ 4 (some 87) bl27 HT_ ?_
                    refine pv_ 5 (some 88) bl28 HT_ ?_
                    refine pv_ 6 (some 89) bl29 HT_ ?_
                    refine pv_ 8 (some 91) bl30 HT_ ?_
                    refine pv_ 9 (some 92) bl31 HT_ ?_
                    refine pv_ 10 (some 93) bl32 HT_ ?_
                    refine pv_ 12 (some 95) bl33 HT_ ?_
                    refine tk_ 7 (some 90) bl34 HT_ HW_ hHeld ?_
                    refine tk_ 11 (some 94) bl35 HT_ HW_ hHeld ?_
                    refine pv_ 13 (some 96) bl36 HT_ ?_
                    refine pv_ 14 (some 97) bl37 HT_ ?_
                    refine pv_ 15 (some 98) bl38 HT_ ?_
                    refine done_ (done_of HT_.out (by kernel_rfl)) ?_
                    try go_wp2
                    (first|go_meet|((try simp only[← hji3]);go_meet))
                    case rel=>exact ⟨_,((((rd_T43 l0_4 ac).f0) == (wrap64 (Int.tdiv (rd x9_5 ai) a1_1)))),vv,(by first|exact H' | (have h_:=H';(try simp only[← hji3]at h_);(try simp only[← hji3]);exact h_)),⟨by have:=HK1.out;have:=HK2.out;have:=HK3.out;have:=HK4.out;have:=HK5.out;first|omega|exact Nat.le_refl _⟩,⟨by (try simp only[hl7_3]);(try simp only[hl7_4]);(try simp only[hl7_5]);(with_reducible repeat (first|apply Kd.R_alloc|apply Kd.R_drewN|apply Kd.R_drew));exact af.out⟩,⟨by (try simp only[hl7_3]);(try simp only[hl7_4]);(try simp only[hl7_5]);(with_reducible repeat (first|apply Kd.R_alloc|apply Kd.R_drewN|apply Kd.R_drew));exact ah.out⟩,⟨by (try simp only[hl7_3]);(try simp only[hl7_4]);(try simp only[hl7_5]);(with_reducible repeat (first|refine blk_drewN ?_ _|refine blk_drew ?_|refine blk_alloc ?_ _));exact ad.out⟩,⟨by (try simp only[hl7_3]);(try simp only[hl7_4]);(try simp only[hl7_5]);(with_reducible repeat (first|refine blk_drewN ?_ _|refine blk_drew ?_|refine blk_alloc ?_ _));exact ae.out⟩,⟨by (try simp only[hl7_3]);(try simp only[hl7_4]);(try simp only[hl7_5]);(with_reducible repeat (first|refine blk_drewN ?_ _|refine blk_drew ?_|refine blk_alloc ?_ _));exact ag.out⟩,⟨zS HB.out⟩⟩
                   rw[if_neg dn]at H;exact absurd H (by simp)
                  rw[if_neg dm]at H;exact absurd H (by simp)
                 rw[if_neg cI]at H;have aX:decide (aa<(l1_4.length:Int))=false:=decide_eq_false cI;(try simp only[hl7_3]at aX);(try simp only[hl7_4]at aX);(try simp only[hl7_5]at aX);clear cI;(first|rw[aX]|(simp only[i64_w,i32_w];rw[aX])|skip);have H':=Aside0.mk H;clear H;try go_wp2
                 replace af:=Aside0.mk (Kd.R_drew af.out);replace ah:=Aside0.mk (Kd.R_drew ah.out);replace ad:=Aside0.mk (blk_drew ad.out);replace ae:=Aside0.mk (blk_drew ae.out);replace ag:=Aside0.mk (blk_drew ag.out);replace HB:=Aside0.mk (below_drew1 HB.out);refine start_ (n:=16) (S:=fun w'=>w'.cell? ⟨al,0,none⟩=some (.int .i64 a1_0)∧w'.cell? ⟨al,1,none⟩=some (.int .i64 a1_1)∧w'.cell? ⟨al,2,none⟩=some (.int .i64 a1_2)∧w'.cell? ⟨al,3,none⟩=some (.int .i64 a1_3)∧w'.cell? ⟨al,4,none⟩=some (.slice A1_4 l1_4.length c1_4)) (ds:=[]) bl22 (by kernel_rfl) rfl rfl ⟨b1 ae 0,b1 ae 1,b1 ae 2,b1 ae 3,b1 ae 4⟩ (fun hHeld=>?_);refine with_tabW spec_l5Pairs.tab21 spec_l5Pairs.bits21 (fun HT_ HW_=>?_);generalize wr.drew=jS at af ah ad ae ag HB hHeld ⊢;refine pv_ 0 (some 83) bl23 HT_ ?_
                 refine pv_ 1 (some 84) bl24 HT_ ?_
                 refine tk_ 2 (some 85) bl25 HT_ HW_ hHeld ?_
                 refine pv_ 3 (some 86) bl26 HT_ ?_
                 refine pv_ 4 (some 87) bl27 HT_ ?_
                 refine pv_ 5 (some 88) bl28 HT_ ?_
                 refine pn_ 6 (some 89) bl29 HT_ ?_
                 refine pn_ 7 (some 90) bl39 HT_ ?_
                 refine pn_ 8 (some 91) bl40 HT_ ?_
                 refine pn_ 9 (some 92) bl41 HT_ ?_
                 refine pn_ 10 (some 93) bl42 HT_ ?_
                 refine pn_ 11 (some 94) bl43 HT_ ?_
                 refine pn_ 12 (some 95) bl35 HT_ ?_
                 refine pn_ 13 (some 96) bl36 HT_ ?_
                 refine pn_ 14 (some 97) bl37 HT_ ?_
                 refine pv_ 15 (some 98) bl38 HT_ ?_
                 refine done_ (done_of HT_.out (by kernel_rfl)) ?_
                 try go_wp2
                 (first|go_meet|((try simp only[← hji3]);go_meet))
                 case rel=>exact ⟨_,(false),vv,(by first|exact H' | (have h_:=H';(try simp only[← hji3]at h_);(try simp only[← hji3]);exact h_)),⟨by have:=HK1.out;have:=HK2.out;have:=HK3.out;have:=HK4.out;have:=HK5.out;first|omega|exact Nat.le_refl _⟩,⟨by (try simp only[hl7_3]);(try simp only[hl7_4]);(try simp only[hl7_5]);(with_reducible repeat (first|apply Kd.R_alloc|apply Kd.R_drewN|apply Kd.R_drew));exact af.out⟩,⟨by (try simp only[hl7_3]);(try simp only[hl7_4]);(try simp only[hl7_5]);(with_reducible repeat (first|apply Kd.R_alloc|apply Kd.R_drewN|apply Kd.R_drew));exact ah.out⟩,⟨by (try simp only[hl7_3]);(try simp only[hl7_4]);(try simp only[hl7_5]);(with_reducible repeat (first|refine blk_drewN ?_ _|refine blk_drew ?_|refine blk_alloc ?_ _));exact ad.out⟩,⟨by (try simp only[hl7_3]);(try simp only[hl7_4]);(try simp only[hl7_5]);(with_reducible repeat (first|refine blk_drewN ?_ _|refine blk_drew ?_|refine blk_alloc ?_ _));exact ae.out⟩,⟨by (try simp only[hl7_3]);(try simp only[hl7_4]);(try simp only[hl7_5]);(with_reducible repeat (first|refine blk_drewN ?_ _|refine blk_drew ?_|refine blk_alloc ?_ _));exact ag.out⟩,⟨zS HB.out⟩⟩
                case rest=>
                 clear HC47;try clear c1
                 try clear p1
                 try clear q1
                 try clear hx1
                 try clear c2
                 try clear p2
                 try clear q2
                 try clear hx2
                 try clear hf2
                 try clear c3
                 try clear q3
                 try clear c4
                 try clear cp
                 try clear cq
                 try clear c5
                 try clear cr
                 try clear ct
                 try clear p6
                 try clear c8
                 try clear bx
                 try clear bJ
                 try clear cJ
                 try clear q13
                 try clear hx13
                 try clear bV
                 try clear bW
                 try clear bX
                 try clear fk
                 try clear q14
                 try clear hx14
                 try clear bY
                 try clear bZ
                 try clear ca
                 try clear bv
                 try clear q19
                 try clear hx19
                 try clear hf19
                 try clear cc
                 try clear cd
                 try clear bw
                 try clear q24
                 try clear hx24
                 try clear hf24
                 try clear bQ
                 try clear cg
                 try clear cy
                 try clear cF
                 try clear q33
                 try clear cz
                 try clear cA
                 try clear bR
                 try clear bK
                 try clear ci
                 try clear bL
                 try clear cG
                 try clear eP
                 try clear hj
                 try clear hl
                 try clear hm
                 try clear cI
                 try clear aX
                 try clear dm
                 try clear fC
                 try clear dn
                 try clear fD
                 try clear dp
                 try clear fE
                 try clear fF
                 try clear aY aZ ba bb bc
                 try clear cK cL cM cN cO
                 try clear cV cW cX cY
                 try clear bl bm bn bo bp
                 try clear bd be bf bg bh
                 try clear cP cQ cR cS cU
                 try clear cZ da db dc
                 try clear bq br bs bt bu
                 try clear aR
                 try clear bM
                 try clear bN
                 try clear bO
                 try clear bP
                 try clear cu
                 try clear bA
                 try clear bB
                 try clear p1
                 try clear cJ
                 try clear bi
                 try clear fk
                 try clear cH
                 try clear dd
                 try clear bv
                 try clear p2
                 try clear bw
                 try clear p6
                 try clear q1
                 try clear q13
                 try clear q139
                 try clear q14
                 try clear q143
                 try clear q145
                 try clear q19
                 try clear q2
                 try clear q24
                 try clear q3
                 try clear q33
                 obtain ⟨kq,cj,rfl,HA,HJ46,af,ah,ad,ae,ag,HB⟩:=hcut
                 cases kq with
                 | zero=>exact absurd HA.out (by simp[spec_l5Pairs.j5])
                 | succ kj46=>
                  have H:=HA.out;clear HA;simp only[spec_l5Pairs.j5]at H;by_cases dq:cj=true
                  ·subst dq;have H1:(if 0≤aa then (if aa<(l1_4.length:Int) then (if ((rd_T43 l0_4 ac).f1)=((rd_T43 l1_4 aa).f1) then (if 0≤ai then (if ai<(x9_5.length:Int) then (if a1_1=0 then (none) else (if ((rd_T43 l1_4 aa).f0)=(Int.tmod (rd x9_5 ai) a1_1) then (if 0≤(wrap64 ((wrap64 (((rd_T43 l0_4 ac).f2) * a1_1))+((rd_T43 l1_4 aa).f2))) then (if (wrap64 ((wrap64 (((rd_T43 l0_4 ac).f2) * a1_1))+((rd_T43 l1_4 aa).f2)))<(x7_5.length:Int) then (if (rdOf false x7_5 (wrap64 ((wrap64 (((rd_T43 l0_4 ac).f2) * a1_1))+((rd_T43 l1_4 aa).f2)))=true) then (spec_l5Pairs.l4 kj46 a1_1 x7_5 x9_5 ai ac (wrap64 (aa+1)) a0_0 a0_1 a0_2 a0_3 l0_4 a1_0 a1_1 a1_2 a1_3 l1_4 ((rd_T43 l0_4 ac).f0) ((rd_T43 l0_4 ac).f1) ((rd_T43 l0_4 ac).f2) ((rd_T43 l0_4 ac).f3)) else (if x9_5.length<17592186044416 then (spec_l5Pairs.l4 kj46 a1_1 (x7_5.set ((wrap64 ((wrap64 (((rd_T43 l0_4 ac).f2) * a1_1))+((rd_T43 l1_4 aa).f2))):Int).toNat true) (x9_5 ++ [wrap64 ((wrap64 (((rd_T43 l0_4 ac).f2) * a1_1))+((rd_T43 l1_4 aa).f2))]) ai ac (wrap64 (aa+1)) a0_0 a0_1 a0_2 a0_3 l0_4 a1_0 a1_1 a1_2 a1_3 l1_4 ((rd_T43 l0_4 ac).f0) ((rd_T43 l0_4 ac).f1) ((rd_T43 l0_4 ac).f2) ((rd_T43 l0_4 ac).f3)) else (none))) else (none)) else (none)) else (spec_l5Pairs.l4 kj46 a1_1 x7_5 x9_5 ai ac (wrap64 (aa+1)) a0_0 a0_1 a0_2 a0_3 l0_4 a1_0 a1_1 a1_2 a1_3 l1_4 ((rd_T43 l0_4 ac).f0) ((rd_T43 l0_4 ac).f1) ((rd_T43 l0_4 ac).f2) ((rd_T43 l0_4 ac).f3)))) else (none)) else (none)) else (spec_l5Pairs.l4 kj46 a1_1 x7_5 x9_5 ai ac (wrap64 (aa+1)) a0_0 a0_1 a0_2 a0_3 l0_4 a1_0 a1_1 a1_2 a1_3 l1_4 ((rd_T43 l0_4 ac).f0) ((rd_T43 l0_4 ac).f1) ((rd_T43 l0_4 ac).f2) ((rd_T43 l0_4 ac).f3))) else (none)) else (none))=some (r1,r2):=by rw[if_pos rfl]at H;exact H
                   clear H;have H:=H1;clear H1;by_cases dr:0≤aa
                   ·rw[if_pos dr]at H;have ik:decide (0≤aa)=true:=decide_eq_true dr;clear dr;by_cases dt:aa<(l1_4.length:Int)
                    ·rw[if_pos dt]at H;have il:decide (aa<(l1_4.length:Int))=true:=decide_eq_true dt;clear dt;by_cases cB:((rd_T43 l0_4 ac).f1)=((rd_T43 l1_4 aa).f1)
                     ·rw[if_pos cB]at H;have eQ:(((rd_T43 l0_4 ac).f1) == ((rd_T43 l1_4 aa).f1))=true:=beq_iff_eq.mpr cB;have eR:(((rd_T43 l0_4 ac).f1) != ((rd_T43 l1_4 aa).f1))=false:=bne_eq_false_iff_eq.mpr cB;clear cB;by_cases du:0≤ai
                      ·rw[if_pos du]at H;have im:decide (0≤ai)=true:=decide_eq_true du;clear du;by_cases dv:ai<(x9_5.length:Int)
                       ·rw[if_pos dv]at H;have io:decide (ai<(x9_5.length:Int))=true:=decide_eq_true dv;clear dv;by_cases eS:a1_1=0
                        ·rw[if_pos eS]at H;exact absurd H (by simp)
                        rw[if_neg eS]at H;have ip:(a1_1 == 0)=false:=beq_eq_false_iff_ne.mpr eS;have iq:(a1_1 != 0)=true:=bne_iff_ne.mpr eS;by_cases cC:((rd_T43 l1_4 aa).f0)=(Int.tmod (rd x9_5 ai) a1_1)
                        ·rw[if_pos cC]at H;have eT:(((rd_T43 l1_4 aa).f0) == (Int.tmod (rd x9_5 ai) a1_1))=true:=beq_iff_eq.mpr cC;have eU:(((rd_T43 l1_4 aa).f0) != (Int.tmod (rd x9_5 ai) a1_1))=false:=bne_eq_false_iff_eq.mpr cC;clear cC;obtain ⟨ji63,hji63⟩:∃ j_:Int,(wrap64 ((wrap64 (((rd_T43 l0_4 ac).f2) * a1_1))+((rd_T43 l1_4 aa).f2)))=j_:=⟨_,rfl⟩;replace H:(if 0≤(ji63) then (if (ji63)<(x7_5.length:Int) then (if (rdOf false x7_5 (ji63)=true) then (spec_l5Pairs.l4 kj46 a1_1 x7_5 x9_5 ai ac (wrap64 (aa+1)) a0_0 a0_1 a0_2 a0_3 l0_4 a1_0 a1_1 a1_2 a1_3 l1_4 ((rd_T43 l0_4 ac).f0) ((rd_T43 l0_4 ac).f1) ((rd_T43 l0_4 ac).f2) ((rd_T43 l0_4 ac).f3)) else (if x9_5.length<17592186044416 then (spec_l5Pairs.l4 kj46 a1_1 (x7_5.set ((ji63):Int).toNat true) (x9_5 ++ [ji63]) ai ac (wrap64 (aa+1)) a0_0 a0_1 a0_2 a0_3 l0_4 a1_0 a1_1 a1_2 a1_3 l1_4 ((rd_T43 l0_4 ac).f0) ((rd_T43 l0_4 ac).f1) ((rd_T43 l0_4 ac).f2) ((rd_T43 l0_4 ac).f3)) else (none))) else (none)) else (none))=some (r1,r2):=by first|(rw[hji63]at H;exact H)|(simp only[hji63]at H ⊢;exact H)
                         have hji63w:(IntKind.i64.wrap ((wrap64 (((rd_T43 l0_4 ac).f2) * a1_1))+((rd_T43 l1_4 aa).f2)))=ji63:=(i64_w _).trans hji63;by_cases dw:0≤(ji63)
                         ·rw[if_pos dw]at H;have ir:decide (0≤(ji63))=true:=decide_eq_true dw;clear dw;by_cases dx:(ji63)<(x7_5.length:Int)
                          ·rw[if_pos dx]at H;have it:decide ((ji63)<(x7_5.length:Int))=true:=decide_eq_true dx;clear dx;obtain ⟨bq66,hbq66⟩:∃ b_:Bool,b_=(rdOf false x7_5 (ji63)):=⟨_,rfl⟩;replace H:(if (bq66=true) then (spec_l5Pairs.l4 kj46 a1_1 x7_5 x9_5 ai ac (wrap64 (aa+1)) a0_0 a0_1 a0_2 a0_3 l0_4 a1_0 a1_1 a1_2 a1_3 l1_4 ((rd_T43 l0_4 ac).f0) ((rd_T43 l0_4 ac).f1) ((rd_T43 l0_4 ac).f2) ((rd_T43 l0_4 ac).f3)) else (if x9_5.length<17592186044416 then (spec_l5Pairs.l4 kj46 a1_1 (x7_5.set ((ji63):Int).toNat true) (x9_5 ++ [ji63]) ai ac (wrap64 (aa+1)) a0_0 a0_1 a0_2 a0_3 l0_4 a1_0 a1_1 a1_2 a1_3 l1_4 ((rd_T43 l0_4 ac).f0) ((rd_T43 l0_4 ac).f1) ((rd_T43 l0_4 ac).f2) ((rd_T43 l0_4 ac).f3)) else (none)))=some (r1,r2):=by rw[← hbq66]at H;exact H
                           have Nbq66:=Aside0.mk hbq66;clear hbq66;by_cases eV:(bq66=true)
                           ·subst eV;have H1:(spec_l5Pairs.l4 kj46 a1_1 x7_5 x9_5 ai ac (wrap64 (aa+1)) a0_0 a0_1 a0_2 a0_3 l0_4 a1_0 a1_1 a1_2 a1_3 l1_4 ((rd_T43 l0_4 ac).f0) ((rd_T43 l0_4 ac).f1) ((rd_T43 l0_4 ac).f2) ((rd_T43 l0_4 ac).f3))=some (r1,r2):=by rw[if_pos rfl]at H;exact H
                            clear H;have H:=H1;clear H1;have H':=Aside0.mk H;clear H;obtain ⟨iu,iv⟩:=nn aT;obtain ⟨iw,ix⟩:=nn aD;obtain ⟨fZ,ga,gb,gc,gd,ge,gf,gg,gh,gi⟩:=cz5 ae;have aK:0≤(aa:Int):=oD;have q146:aa<(l1_4.length:Int):=oD;obtain ⟨ad146,e146,ap,aq,ar,au⟩:=at_T43 HR1_4.out aa aK q146
                            cases e146
                            replace ap:=ct_ HB ap;replace aq:=ct_ HB aq;replace ar:=ct_ HB ar;replace au:=ct_ HB au;replace aK:=eq_true aK;replace q146:=eq_true q146;try go_wp2_with (first|((with_reducible refine gate_dst (N:=15) rfl ?_);refine bx_ 15 #[.int .i64 0,.int .i64 0,.int .i64 0,.int .i64 0] 43 ?_;intro ab hg cD hbox hb;replace af:=xR af hb;replace ah:=xR ah hb;have aj:=Aside0.mk (hbox);have de:=xG HB hg;have df:=xG HB hg;replace HB:=xS HB hb;have bC:=xN ad hg;have aE:=xM ad hg;replace ad:=xB ad hb;have bD:=xN ae hg;have aG:=xM ae hg;replace ae:=xB ae hb;have bE:=xN ag hg;have aH:=xM ag hg;replace ag:=xB ag hb;clear hb hbox hg;obtain ⟨iy,iz⟩:=nn aE;obtain ⟨iA,iB⟩:=nn aG;obtain ⟨iC,iD⟩:=nn aH;obtain ⟨gj,gl,gm,gn,go,gp,gq,gr⟩:=cz4 aj;obtain ⟨iE,iF⟩:=nn aU;obtain ⟨gs,gt,gu,gv,gw,gx,gy,gz⟩:=cz4 ag))
                            have ax:Aside0 (Kd.R Kd.bool 4 ((((cD.setCell ⟨ab,0,none⟩ (.int .i64 ((rd_T43 l1_4 aa).f0))).setCell ⟨ab,1,none⟩ (.int .i64 ((rd_T43 l1_4 aa).f1))).setCell ⟨ab,2,none⟩ (.int .i64 ((rd_T43 l1_4 aa).f2))).setCell ⟨ab,3,none⟩ (.int .i64 ((rd_T43 l1_4 aa).f3))) w.heap.size (fun _=>True) (.slice bk x7_5.length aV) x7_5):=⟨rM (Aside0.mk (yF4 af aj)) (fun _ hk=>trivial)⟩;have ay:Aside0 (Kd.R (Kd.int .i64) 3 ((((cD.setCell ⟨ab,0,none⟩ (.int .i64 ((rd_T43 l1_4 aa).f0))).setCell ⟨ab,1,none⟩ (.int .i64 ((rd_T43 l1_4 aa).f1))).setCell ⟨ab,2,none⟩ (.int .i64 ((rd_T43 l1_4 aa).f2))).setCell ⟨ab,3,none⟩ (.int .i64 ((rd_T43 l1_4 aa).f3))) w.heap.size (fun _=>True) u9 x9_5):=⟨rM (Aside0.mk (yF4 ah aj)) (fun _ hk=>trivial)⟩;have az:Aside0 (((((cD.setCell ⟨ab,0,none⟩ (.int .i64 ((rd_T43 l1_4 aa).f0))).setCell ⟨ab,1,none⟩ (.int .i64 ((rd_T43 l1_4 aa).f1))).setCell ⟨ab,2,none⟩ (.int .i64 ((rd_T43 l1_4 aa).f2))).setCell ⟨ab,3,none⟩ (.int .i64 ((rd_T43 l1_4 aa).f3))).heap[ao]?=some (.cells #[.int .i64 a0_0,.int .i64 a0_1,.int .i64 a0_2,.int .i64 a0_3,.slice (some ad143) l0_4.length c0_4] 28 (0,0))):=⟨zB ad.out⟩;have aA:Aside0 (((((cD.setCell ⟨ab,0,none⟩ (.int .i64 ((rd_T43 l1_4 aa).f0))).setCell ⟨ab,1,none⟩ (.int .i64 ((rd_T43 l1_4 aa).f1))).setCell ⟨ab,2,none⟩ (.int .i64 ((rd_T43 l1_4 aa).f2))).setCell ⟨ab,3,none⟩ (.int .i64 ((rd_T43 l1_4 aa).f3))).heap[al]?=some (.cells #[.int .i64 a1_0,.int .i64 a1_1,.int .i64 a1_2,.int .i64 a1_3,.slice (some ad146) l1_4.length c1_4] 28 (0,0))):=⟨zB ae.out⟩;have aC:Aside0 (((((cD.setCell ⟨ab,0,none⟩ (.int .i64 ((rd_T43 l1_4 aa).f0))).setCell ⟨ab,1,none⟩ (.int .i64 ((rd_T43 l1_4 aa).f1))).setCell ⟨ab,2,none⟩ (.int .i64 ((rd_T43 l1_4 aa).f2))).setCell ⟨ab,3,none⟩ (.int .i64 ((rd_T43 l1_4 aa).f3))).heap[am]?=some (.cells #[.int .i64 ((rd_T43 l0_4 ac).f0),.int .i64 ((rd_T43 l0_4 ac).f1),.int .i64 ((rd_T43 l0_4 ac).f2),.int .i64 ((rd_T43 l0_4 ac).f3)] 43 (0,0))):=⟨zB ag.out⟩;have aN:Aside0 (((((cD.setCell ⟨ab,0,none⟩ (.int .i64 ((rd_T43 l1_4 aa).f0))).setCell ⟨ab,1,none⟩ (.int .i64 ((rd_T43 l1_4 aa).f1))).setCell ⟨ab,2,none⟩ (.int .i64 ((rd_T43 l1_4 aa).f2))).setCell ⟨ab,3,none⟩ (.int .i64 ((rd_T43 l1_4 aa).f3))).heap[ab]?=some (.cells #[.int .i64 ((rd_T43 l1_4 aa).f0),.int .i64 ((rd_T43 l1_4 aa).f1),.int .i64 ((rd_T43 l1_4 aa).f2),.int .i64 ((rd_T43 l1_4 aa).f3)] 43 (0,0))):=⟨by (with_reducible repeat (first|refine blk_drewN ?_ _|refine blk_drew ?_|refine blk_alloc ?_ _));refine blk_put (cs:=#[.int .i64 ((rd_T43 l1_4 aa).f0),.int .i64 ((rd_T43 l1_4 aa).f1),.int .i64 ((rd_T43 l1_4 aa).f2),.int .i64 0]) ?_ 3 _ rfl;(with_reducible repeat (first|refine blk_drewN ?_ _|refine blk_drew ?_|refine blk_alloc ?_ _));refine blk_put (cs:=#[.int .i64 ((rd_T43 l1_4 aa).f0),.int .i64 ((rd_T43 l1_4 aa).f1),.int .i64 0,.int .i64 0]) ?_ 2 _ rfl;(with_reducible repeat (first|refine blk_drewN ?_ _|refine blk_drew ?_|refine blk_alloc ?_ _));refine blk_put (cs:=#[.int .i64 ((rd_T43 l1_4 aa).f0),.int .i64 0,.int .i64 0,.int .i64 0]) ?_ 1 _ rfl;(with_reducible repeat (first|refine blk_drewN ?_ _|refine blk_drew ?_|refine blk_alloc ?_ _));refine blk_put (cs:=#[.int .i64 0,.int .i64 0,.int .i64 0,.int .i64 0]) ?_ 0 _ rfl;(with_reducible repeat (first|refine blk_drewN ?_ _|refine blk_drew ?_|refine blk_alloc ?_ _));exact aj.out⟩;have aQ:Aside0 (Below w.heap.size w ((((cD.setCell ⟨ab,0,none⟩ (.int .i64 ((rd_T43 l1_4 aa).f0))).setCell ⟨ab,1,none⟩ (.int .i64 ((rd_T43 l1_4 aa).f1))).setCell ⟨ab,2,none⟩ (.int .i64 ((rd_T43 l1_4 aa).f2))).setCell ⟨ab,3,none⟩ (.int .i64 ((rd_T43 l1_4 aa).f3)))):=⟨zS HB.out⟩
                            (try clear af);(try clear ah);(try clear ad);(try clear ae);(try clear ag);(try clear aj);(try clear HB);generalize ((((cD.setCell ⟨ab,0,none⟩ (.int .i64 ((rd_T43 l1_4 aa).f0))).setCell ⟨ab,1,none⟩ (.int .i64 ((rd_T43 l1_4 aa).f1))).setCell ⟨ab,2,none⟩ (.int .i64 ((rd_T43 l1_4 aa).f2))).setCell ⟨ab,3,none⟩ (.int .i64 ((rd_T43 l1_4 aa).f3)))=hs at ax ay az aA aC aN aQ ⊢;have af:=ax;have ah:=ay;have ad:=az;have ae:=aA;have ag:=aC;have aj:=aN;have HB:=aQ;clear ax ay az aA aC aN aQ;replace af:=Aside0.mk (Kd.R_drew af.out);replace ah:=Aside0.mk (Kd.R_drew ah.out);replace ad:=Aside0.mk (blk_drew ad.out);replace ae:=Aside0.mk (blk_drew ae.out);replace ag:=Aside0.mk (blk_drew ag.out);replace aj:=Aside0.mk (blk_drew aj.out);replace HB:=Aside0.mk (below_drew1 HB.out);obtain ⟨jm,jn,fm⟩:=Kd.R_slice ah.out;(first|subst fm|(injection fm with f1_ f2_ f3_;have f4_:=f1_.symm;have f5_:=f3_.symm;clear f1_ f2_ f3_;subst f4_;subst f5_));have aW:0≤(ai:Int):=oD;have q148:ai<(x9_5.length:Int):=oD;obtain ⟨ad148,e148,aI⟩:=Kd.at_int (Kd.R_reads' ah.out).2.2 ai aW q148
                            cases e148
                            replace aW:=eq_true aW;replace q148:=eq_true q148;have bS:0≤((ji63):Int):=oD;have q149:(ji63)<(x7_5.length:Int):=oD;obtain ⟨ad149,e149,aJ⟩:=Kd.at_bool (Kd.R_reads' af.out).2.2 (ji63) bS q149;(try rw[← Nbq66.out]at aJ)
                            cases e149
                            replace bS:=eq_true bS;replace q149:=eq_true q149;refine start_ (n:=23) (S:=fun w'=>w'.cell? ⟨am,0,none⟩=some (.int .i64 ((rd_T43 l0_4 ac).f0))∧w'.cell? ⟨am,1,none⟩=some (.int .i64 ((rd_T43 l0_4 ac).f1))∧w'.cell? ⟨am,2,none⟩=some (.int .i64 ((rd_T43 l0_4 ac).f2))∧w'.cell? ⟨am,3,none⟩=some (.int .i64 ((rd_T43 l0_4 ac).f3))∧w'.cell? ⟨ab,0,none⟩=some (.int .i64 ((rd_T43 l1_4 aa).f0))∧w'.cell? ⟨ab,1,none⟩=some (.int .i64 ((rd_T43 l1_4 aa).f1))∧w'.cell? ⟨ab,2,none⟩=some (.int .i64 ((rd_T43 l1_4 aa).f2))∧w'.cell? ⟨ab,3,none⟩=some (.int .i64 ((rd_T43 l1_4 aa).f3))∧w'.cell? (ad148.add (ai).toNat)=some (.int .i64 (rd x9_5 ai))∧w'.cell? (ad149.add ((ji63)).toNat)=some (.bool true)) (ds:=[]) bl44 (by kernel_rfl) rfl rfl ⟨b1 ag 0,b1 ag 1,b1 ag 2,b1 ag 3,b1 aj 0,b1 aj 1,b1 aj 2,b1 aj 3,aI,aJ⟩ (fun hHeld=>?_);refine with_tabW spec_l5Pairs.tab25 spec_l5Pairs.bits25 (fun HT_ HW_=>?_);generalize hs.drew=jT at af ah ad ae ag aj HB aI aJ hHeld ⊢;refine pv_ 0 (some 113) bl45 HT_ ?_
                            refine pv_ 2 (some 115) bl46 HT_ ?_
                            refine tk_ 1 (some 114) bl47 HT_ HW_ hHeld ?_
                            refine tk_ 3 (some 116) bl48 HT_ HW_ hHeld ?_
                            refine pv_ 4 (some 117) bl49 HT_ ?_
                            refine pv_ 5 (some 118) bl50 HT_ ?_
                            refine pv_ 6 (some 119) bl51 HT_ ?_
                            refine pv_ 8 (some 121) bl52 HT_ ?_
                            refine pv_ 9 (some 122) bl53 HT_ ?_
                            refine pv_ 10 (some 123) bl54 HT_ ?_
                            refine pv_ 12 (some 125) bl55 HT_ ?_
                            refine tk_ 7 (some 120) bl56 HT_ HW_ hHeld ?_
                            refine tk_ 11 (some 124) bl57 HT_ HW_ hHeld ?_
                            refine pv_ 13 (some 126) bl58 HT_ ?_
                            refine pv_ 14 (some 127) bl59 HT_ ?_
                            refine pv_ 15 (some 128) bl60 HT_ ?_
                            refine pv_ 16 (some 129) bl61 HT_ ?_
                            refine pv_ 17 (some 130) bl62 HT_ ?_
                            refine pv_ 18 (some 131) bl63 HT_ ?_
                            refine pv_ 19 (some 132) bl64 HT_ ?_
                            refine tk_ 20 (some 133) bl65 HT_ HW_ hHeld ?_
                            refine pv_ 21 (some 134) bl66 HT_ ?_
                            refine pv_ 22 (some 135) bl67 HT_ ?_
                            refine done_ (done_of HT_.out (by kernel_rfl)) ?_
                            try go_wp2
                            (try simp only[← hl7_5]);(first|go_roundg kj46|((try simp only[← hji3]);(try simp only[← hji63]);go_roundg kj46))
                            case measure=>have:=HK1.out;have:=HK2.out;have:=HK3.out;have:=HK4.out;have:=HK5.out;have:=HJ46.out;omega
                            case rel=>exact ⟨(x7_5),(x9_5),(wrap64 (aa+1)),vv,(by first|exact H' | (have h_:=H';(try simp only[← hji3]at h_);(try simp only[← hji3]);(try simp only[← hji63]at h_);(try simp only[← hji63]);exact h_)),⟨by have:=HK1.out;have:=HK2.out;have:=HK3.out;have:=HK4.out;have:=HK5.out;have:=HJ46.out;omega⟩,⟨by (try simp only[hl7_3]);(try simp only[hl7_4]);(try simp only[hl7_5]);(with_reducible repeat (first|apply Kd.R_alloc|apply Kd.R_drewN|apply Kd.R_drew));exact af.out⟩,⟨by (try simp only[hl7_3]);(try simp only[hl7_4]);(try simp only[hl7_5]);(with_reducible repeat (first|apply Kd.R_alloc|apply Kd.R_drewN|apply Kd.R_drew));exact ah.out⟩,⟨by (try simp only[hl7_3]);(try simp only[hl7_4]);(try simp only[hl7_5]);(with_reducible repeat (first|refine blk_drewN ?_ _|refine blk_drew ?_|refine blk_alloc ?_ _));exact ad.out⟩,⟨by (try simp only[hl7_3]);(try simp only[hl7_4]);(try simp only[hl7_5]);(with_reducible repeat (first|refine blk_drewN ?_ _|refine blk_drew ?_|refine blk_alloc ?_ _));exact ae.out⟩,⟨by (try simp only[hl7_3]);(try simp only[hl7_4]);(try simp only[hl7_5]);(with_reducible repeat (first|refine blk_drewN ?_ _|refine blk_drew ?_|refine blk_alloc ?_ _));exact ag.out⟩,⟨zS HB.out⟩⟩
                           replace eV:=Bool.eq_false_iff.mpr eV;subst eV;have H1:(if x9_5.length<17592186044416 then (spec_l5Pairs.l4 kj46 a1_1 (x7_5.set ((ji63):Int).toNat true) (x9_5 ++ [ji63]) ai ac (wrap64 (aa+1)) a0_0 a0_1 a0_2 a0_3 l0_4 a1_0 a1_1 a1_2 a1_3 l1_4 ((rd_T43 l0_4 ac).f0) ((rd_T43 l0_4 ac).f1) ((rd_T43 l0_4 ac).f2) ((rd_T43 l0_4 ac).f3)) else (none))=some (r1,r2):=by rw[if_neg (show ¬ (false=true) by decide)]at H;exact H
                           clear H;have H:=H1;clear H1;obtain ⟨dg,ck⟩:∃ y_:List Bool,y_=(x7_5.set ((ji63):Int).toNat true):=⟨_,rfl⟩;replace H:(if x9_5.length<17592186044416 then (spec_l5Pairs.l4 kj46 a1_1 dg (x9_5 ++ [ji63]) ai ac (wrap64 (aa+1)) a0_0 a0_1 a0_2 a0_3 l0_4 a1_0 a1_1 a1_2 a1_3 l1_4 ((rd_T43 l0_4 ac).f0) ((rd_T43 l0_4 ac).f1) ((rd_T43 l0_4 ac).f2) ((rd_T43 l0_4 ac).f3)) else (none))=some (r1,r2):=by first|(rw[ck];with_reducible exact H)|(have H2_:=(Option.bind_some _ _).symm.trans H;rw[ck];with_reducible exact H2_)|(have H2_:=(Option.bind_some _ _).symm.trans H;with_reducible exact H2_)|with_reducible exact H|(rw[ck];exact H)|exact H
                           have fG:=Aside0.mk ck;clear ck;by_cases dy:x9_5.length<17592186044416
                           ·rw[if_pos dy]at H;have LMc82:=Aside0.mk dy;clear dy;obtain ⟨fn,cl⟩:∃ y_:List Int,y_=(x9_5 ++ [ji63]):=⟨_,rfl⟩;replace H:(spec_l5Pairs.l4 kj46 a1_1 dg fn ai ac (wrap64 (aa+1)) a0_0 a0_1 a0_2 a0_3 l0_4 a1_0 a1_1 a1_2 a1_3 l1_4 ((rd_T43 l0_4 ac).f0) ((rd_T43 l0_4 ac).f1) ((rd_T43 l0_4 ac).f2) ((rd_T43 l0_4 ac).f3))=some (r1,r2):=by first|(rw[cl];with_reducible exact H)|(have H2_:=(Option.bind_some _ _).symm.trans H;rw[cl];with_reducible exact H2_)|(have H2_:=(Option.bind_some _ _).symm.trans H;with_reducible exact H2_)|with_reducible exact H|(rw[cl];exact H)|exact H
                            have fH:=Aside0.mk cl;clear cl;have H':=Aside0.mk H;clear H;obtain ⟨iG,iH⟩:=nn aT;obtain ⟨iI,iJ⟩:=nn aD;obtain ⟨gA,gB,gC,gD,gE,gF,gG,gH,gI,gJ⟩:=cz5 ae;have aK:0≤(aa:Int):=oD;have q146:aa<(l1_4.length:Int):=oD;obtain ⟨ad146,e146,ap,aq,ar,au⟩:=at_T43 HR1_4.out aa aK q146
                            cases e146
                            replace ap:=ct_ HB ap;replace aq:=ct_ HB aq;replace ar:=ct_ HB ar;replace au:=ct_ HB au;replace aK:=eq_true aK;replace q146:=eq_true q146;try go_wp2_with (first|((with_reducible refine gate_dst (N:=15) rfl ?_);refine bx_ 15 #[.int .i64 0,.int .i64 0,.int .i64 0,.int .i64 0] 43 ?_;intro ab hg cE hbox hb;replace af:=xR af hb;replace ah:=xR ah hb;have aj:=Aside0.mk (hbox);have de:=xG HB hg;have df:=xG HB hg;replace HB:=xS HB hb;have bC:=xN ad hg;have aE:=xM ad hg;replace ad:=xB ad hb;have bD:=xN ae hg;have aG:=xM ae hg;replace ae:=xB ae hb;have bE:=xN ag hg;have aH:=xM ag hg;replace ag:=xB ag hb;clear hb hbox hg;obtain ⟨iK,iL⟩:=nn aE;obtain ⟨iM,iN⟩:=nn aG;obtain ⟨iO,iP⟩:=nn aH;obtain ⟨gK,gL,gM,gN,gO,gP,gQ,gR⟩:=cz4 aj;obtain ⟨iQ,iR⟩:=nn aU;obtain ⟨gS,gT,gU,gV,gW,gX,gY,gZ⟩:=cz4 ag))
                            have ax:Aside0 (Kd.R Kd.bool 4 ((((cE.setCell ⟨ab,0,none⟩ (.int .i64 ((rd_T43 l1_4 aa).f0))).setCell ⟨ab,1,none⟩ (.int .i64 ((rd_T43 l1_4 aa).f1))).setCell ⟨ab,2,none⟩ (.int .i64 ((rd_T43 l1_4 aa).f2))).setCell ⟨ab,3,none⟩ (.int .i64 ((rd_T43 l1_4 aa).f3))) w.heap.size (fun _=>True) (.slice bk x7_5.length aV) x7_5):=⟨rM (Aside0.mk (yF4 af aj)) (fun _ hk=>trivial)⟩;have ay:Aside0 (Kd.R (Kd.int .i64) 3 ((((cE.setCell ⟨ab,0,none⟩ (.int .i64 ((rd_T43 l1_4 aa).f0))).setCell ⟨ab,1,none⟩ (.int .i64 ((rd_T43 l1_4 aa).f1))).setCell ⟨ab,2,none⟩ (.int .i64 ((rd_T43 l1_4 aa).f2))).setCell ⟨ab,3,none⟩ (.int .i64 ((rd_T43 l1_4 aa).f3))) w.heap.size (fun _=>True) u9 x9_5):=⟨rM (Aside0.mk (yF4 ah aj)) (fun _ hk=>trivial)⟩;have az:Aside0 (((((cE.setCell ⟨ab,0,none⟩ (.int .i64 ((rd_T43 l1_4 aa).f0))).setCell ⟨ab,1,none⟩ (.int .i64 ((rd_T43 l1_4 aa).f1))).setCell ⟨ab,2,none⟩ (.int .i64 ((rd_T43 l1_4 aa).f2))).setCell ⟨ab,3,none⟩ (.int .i64 ((rd_T43 l1_4 aa).f3))).heap[ao]?=some (.cells #[.int .i64 a0_0,.int .i64 a0_1,.int .i64 a0_2,.int .i64 a0_3,.slice (some ad143) l0_4.length c0_4] 28 (0,0))):=⟨zB ad.out⟩;have aA:Aside0 (((((cE.setCell ⟨ab,0,none⟩ (.int .i64 ((rd_T43 l1_4 aa).f0))).setCell ⟨ab,1,none⟩ (.int .i64 ((rd_T43 l1_4 aa).f1))).setCell ⟨ab,2,none⟩ (.int .i64 ((rd_T43 l1_4 aa).f2))).setCell ⟨ab,3,none⟩ (.int .i64 ((rd_T43 l1_4 aa).f3))).heap[al]?=some (.cells #[.int .i64 a1_0,.int .i64 a1_1,.int .i64 a1_2,.int .i64 a1_3,.slice (some ad146) l1_4.length c1_4] 28 (0,0))):=⟨zB ae.out⟩;have aC:Aside0 (((((cE.setCell ⟨ab,0,none⟩ (.int .i64 ((rd_T43 l1_4 aa).f0))).setCell ⟨ab,1,none⟩ (.int .i64 ((rd_T43 l1_4 aa).f1))).setCell ⟨ab,2,none⟩ (.int .i64 ((rd_T43 l1_4 aa).f2))).setCell ⟨ab,3,none⟩ (.int .i64 ((rd_T43 l1_4 aa).f3))).heap[am]?=some (.cells #[.int .i64 ((rd_T43 l0_4 ac).f0),.int .i64 ((rd_T43 l0_4 ac).f1),.int .i64 ((rd_T43 l0_4 ac).f2),.int .i64 ((rd_T43 l0_4 ac).f3)] 43 (0,0))):=⟨zB ag.out⟩;have aN:Aside0 (((((cE.setCell ⟨ab,0,none⟩ (.int .i64 ((rd_T43 l1_4 aa).f0))).setCell ⟨ab,1,none⟩ (.int .i64 ((rd_T43 l1_4 aa).f1))).setCell ⟨ab,2,none⟩ (.int .i64 ((rd_T43 l1_4 aa).f2))).setCell ⟨ab,3,none⟩ (.int .i64 ((rd_T43 l1_4 aa).f3))).heap[ab]?=some (.cells #[.int .i64 ((rd_T43 l1_4 aa).f0),.int .i64 ((rd_T43 l1_4 aa).f1),.int .i64 ((rd_T43 l1_4 aa).f2),.int .i64 ((rd_T43 l1_4 aa).f3)] 43 (0,0))):=⟨by (with_reducible repeat (first|refine blk_drewN ?_ _|refine blk_drew ?_|refine blk_alloc ?_ _));refine blk_put (cs:=#[.int .i64 ((rd_T43 l1_4 aa).f0),.int .i64 ((rd_T43 l1_4 aa).f1),.int .i64 ((rd_T43 l1_4 aa).f2),.int .i64 0]) ?_ 3 _ rfl;(with_reducible repeat (first|refine blk_drewN ?_ _|refine blk_drew ?_|refine blk_alloc ?_ _));refine blk_put (cs:=#[.int .i64 ((rd_T43 l1_4 aa).f0),.int .i64 ((rd_T43 l1_4 aa).f1),.int .i64 0,.int .i64 0]) ?_ 2 _ rfl;(with_reducible repeat (first|refine blk_drewN ?_ _|refine blk_drew ?_|refine blk_alloc ?_ _));refine blk_put (cs:=#[.int .i64 ((rd_T43 l1_4 aa).f0),.int .i64 0,.int .i64 0,.int .i64 0]) ?_ 1 _ rfl;(with_reducible repeat (first|refine blk_drewN ?_ _|refine blk_drew ?_|refine blk_alloc ?_ _));refine blk_put (cs:=#[.int .i64 0,.int .i64 0,.int .i64 0,.int .i64 0]) ?_ 0 _ rfl;(with_reducible repeat (first|refine blk_drewN ?_ _|refine blk_drew ?_|refine blk_alloc ?_ _));exact aj.out⟩;have aQ:Aside0 (Below w.heap.size w ((((cE.setCell ⟨ab,0,none⟩ (.int .i64 ((rd_T43 l1_4 aa).f0))).setCell ⟨ab,1,none⟩ (.int .i64 ((rd_T43 l1_4 aa).f1))).setCell ⟨ab,2,none⟩ (.int .i64 ((rd_T43 l1_4 aa).f2))).setCell ⟨ab,3,none⟩ (.int .i64 ((rd_T43 l1_4 aa).f3)))):=⟨zS HB.out⟩
                            (try clear af);(try clear ah);(try clear ad);(try clear ae);(try clear ag);(try clear aj);(try clear HB);generalize ((((cE.setCell ⟨ab,0,none⟩ (.int .i64 ((rd_T43 l1_4 aa).f0))).setCell ⟨ab,1,none⟩ (.int .i64 ((rd_T43 l1_4 aa).f1))).setCell ⟨ab,2,none⟩ (.int .i64 ((rd_T43 l1_4 aa).f2))).setCell ⟨ab,3,none⟩ (.int .i64 ((rd_T43 l1_4 aa).f3)))=ht at ax ay az aA aC aN aQ ⊢;have af:=ax;have ah:=ay;have ad:=az;have ae:=aA;have ag:=aC;have aj:=aN;have HB:=aQ;clear ax ay az aA aC aN aQ;replace af:=Aside0.mk (Kd.R_drew af.out);replace ah:=Aside0.mk (Kd.R_drew ah.out);replace ad:=Aside0.mk (blk_drew ad.out);replace ae:=Aside0.mk (blk_drew ae.out);replace ag:=Aside0.mk (blk_drew ag.out);replace aj:=Aside0.mk (blk_drew aj.out);replace HB:=Aside0.mk (below_drew1 HB.out);obtain ⟨jo,fW,fo⟩:=Kd.R_slice ah.out;(first|subst fo|(injection fo with f1_ f2_ f3_;have f4_:=f1_.symm;have f5_:=f3_.symm;clear f1_ f2_ f3_;subst f4_;subst f5_));have aW:0≤(ai:Int):=oD;have q148:ai<(x9_5.length:Int):=oD;obtain ⟨ad148,e148,aI⟩:=Kd.at_int (Kd.R_reads' ah.out).2.2 ai aW q148
                            cases e148
                            replace aW:=eq_true aW;replace q148:=eq_true q148;have bS:0≤((ji63):Int):=oD;have q149:(ji63)<(x7_5.length:Int):=oD;obtain ⟨ad149,e149,aJ⟩:=Kd.at_bool (Kd.R_reads' af.out).2.2 (ji63) bS q149;(try rw[← Nbq66.out]at aJ)
                            cases e149
                            replace bS:=eq_true bS;replace q149:=eq_true q149;refine start_ (n:=23) (S:=fun w'=>w'.cell? ⟨am,0,none⟩=some (.int .i64 ((rd_T43 l0_4 ac).f0))∧w'.cell? ⟨am,1,none⟩=some (.int .i64 ((rd_T43 l0_4 ac).f1))∧w'.cell? ⟨am,2,none⟩=some (.int .i64 ((rd_T43 l0_4 ac).f2))∧w'.cell? ⟨am,3,none⟩=some (.int .i64 ((rd_T43 l0_4 ac).f3))∧w'.cell? ⟨ab,0,none⟩=some (.int .i64 ((rd_T43 l1_4 aa).f0))∧w'.cell? ⟨ab,1,none⟩=some (.int .i64 ((rd_T43 l1_4 aa).f1))∧w'.cell? ⟨ab,2,none⟩=some (.int .i64 ((rd_T43 l1_4 aa).f2))∧w'.cell? ⟨ab,3,none⟩=some (.int .i64 ((rd_T43 l1_4 aa).f3))∧w'.cell? (ad148.add (ai).toNat)=some (.int .i64 (rd x9_5 ai))∧w'.cell? (ad149.add ((ji63)).toNat)=some (.bool false)) (ds:=[]) bl44 (by kernel_rfl) rfl rfl ⟨b1 ag 0,b1 ag 1,b1 ag 2,b1 ag 3,b1 aj 0,b1 aj 1,b1 aj 2,b1 aj 3,aI,aJ⟩ (fun hHeld=>?_);refine with_tabW spec_l5Pairs.tab25 spec_l5Pairs.bits25 (fun HT_ HW_=>?_);generalize ht.drew=fQ at af ah ad ae ag aj HB aI aJ hHeld ⊢;refine pv_ 0 (some 113) bl45 HT_ ?_
                            refine pv_ 2 (some 115) bl46 HT_ ?_
                            refine tk_ 1 (some 114) bl47 HT_ HW_ hHeld ?_
                            refine tk_ 3 (some 116) bl48 HT_ HW_ hHeld ?_
                            refine pv_ 4 (some 117) bl49 HT_ ?_
                            refine pv_ 5 (some 118) bl50 HT_ ?_
                            refine pv_ 6 (some 119) bl51 HT_ ?_
                            refine pv_ 8 (some 121) bl52 HT_ ?_
                            refine pv_ 9 (some 122) bl53 HT_ ?_
                            refine pv_ 10 (some 123) bl54 HT_ ?_
                            refine pv_ 12 (some 125) bl55 HT_ ?_
                            refine tk_ 7 (some 120) bl56 HT_ HW_ hHeld ?_
                            refine tk_ 11 (some 124) bl57 HT_ HW_ hHeld ?_
                            refine pv_ 13 (some 126) bl58 HT_ ?_
                            refine pv_ 14 (some 127) bl59 HT_ ?_
                            refine pv_ 15 (some 128) bl60 HT_ ?_
                            refine pv_ 16 (some 129) bl61 HT_ ?_
                            refine pv_ 17 (some 130) bl62 HT_ ?_
                            refine pv_ 18 (some 131) bl63 HT_ ?_
                            refine pv_ 19 (some 132) bl64 HT_ ?_
                            refine tk_ 20 (some 133) bl65 HT_ HW_ hHeld ?_
                            refine pv_ 21 (some 134) bl66 HT_ ?_
                            refine pv_ 22 (some 135) bl67 HT_ ?_
                            refine done_ (done_of HT_.out (by kernel_rfl)) ?_;have dz:0≤((ji63):Int):=oD;have q81:((ji63):Int)<((x7_5.length:Int):Int):=oD;obtain ⟨go81,jp,fp,fq,gl81,cl81,HG81⟩:=Kd.R_form af.out (by omega);(first|cases fp|(injection fp with ea_ en_ ec_;(first|subst ea_|(injection ea_ with ea_;subst ea_));subst ec_;clear en_));have GB81:=Aside0.mk fq;have GG81:=Aside0.mk HG81;clear fq gl81 HG81;(first|simp only[add_plain]at aJ|skip);obtain ⟨fr,hf81_0⟩:=Kd.R_celln false af.out ((ji63):Int) dz q81;replace dz:=eq_true dz;replace q81:=eq_true q81;obtain ⟨hy96_,hz96_⟩:=Kd.R_celln false af.out ((ji63):Int) (oD) (oD);have HP96:=Kd.R_putg af.out ((ji63):Int) true;try go_wp2_with (first|((with_reducible refine gate_store (t:=4) (p:=138) rfl ?_);refine store_event (t:=4) (p:=138) (v:=?vo_w97) (w1:=(fQ.setCell ⟨go81,((ji63):Int).toNat,none⟩ (.bool true))) ?hg ?ho ?hn ?hr ?_;(case ho=>rfl);(case hg=>rfl);(case hn=>rfl);(case hr=>first|(go_simp;done)|(go_simp;rfl));intro fs hw;have hg:fQ.grownBy fs (some go81):=(by rw[hw];exact HP96.2);have hp_:Kd.R Kd.bool 4 fs w.heap.size (fun _=>True) (.slice (some ⟨go81,0,none⟩) x7_5.length aV) dg:=(by rw[hw,fG.out];exact HP96.1);clear HP96;replace ah:=Aside0.mk (Kd.R_over' (v:=(.slice (some ⟨go81,0,none⟩) x7_5.length aV)) (zR ah.out) (Kd.R_typed af.out) (by decide) hg);replace ad:=bG ad hg af;replace ae:=bG ae hg af;replace ag:=bG ag hg af;replace aj:=bG aj hg af;replace af:=Aside0.mk (hp_);replace HB:=Aside0.mk ((by rw[hw];exact below_set (HB.out) GB81.out:Below w.heap.size w fs));clear hg hw hp_)|((with_reducible refine gate_builtin (b:=.append) (xs:=#[.tmp 139,.tmp 141]) rfl ?_);at_builtin;refine Kd.R_append (Kd.int .i64) (w0:=w) w.heap.size rfl (.tmp 139) (.tmp 141) 37 3 (.int .i64 0) 8 rfl Try.underlying37 info3 rfl (by decide) (by omega) (.slice (some ad148) x9_5.length fW) x9_5 ji63 [.int .i64 ji63] (fun _=>True) (fun _=>False) rfl rfl ?aP (fun _ hk=>hk.elim) ?aF ?aO ?aB ?aS ?aL ?_;(case aP=>exact rfl);(case aB=>exact (zS HB.out));(case aF=>exact (fun _ _=>trivial));(case aO=>exact (zR ah.out));(case aS=>exact (below_size (zS HB.out)));(case aL=>have:=LMc82.out;omega);intro jq jU ho hb hg hat;rw[← fH.out]at ho;have ax:=Aside0.mk (Kd.R_over' (zR af.out) (Kd.R_typed (zR ah.out)) (by decide) hg);have ay:=bG ad hg ah;have az:=bG ae hg ah;have aA:=bG ag hg ah;have aC:=bG aj hg ah;have aN:=Aside0.mk (hb);have aQ:=Aside0.mk (ho);clear af;clear ad;clear ae;clear ag;clear aj;clear HB;clear ah;have af:=ax;have ad:=ay;have ae:=az;have ag:=aA;have aj:=aC;have HB:=aN;have fI:=aQ;clear ax ay az aA aC aN aQ;clear ho hb hg hat))
                            (try simp only[← hl7_5]);(first|go_roundg kj46|((try simp only[← hji3]);(try simp only[← hji63]);go_roundg kj46))
                            case measure=>have:=HK1.out;have:=HK2.out;have:=HK3.out;have:=HK4.out;have:=HK5.out;have:=HJ46.out;omega
                            case rel=>exact ⟨(dg),(fn),(wrap64 (aa+1)),vv,(by first|exact H' | (have h_:=H';(try simp only[← hji3]at h_);(try simp only[← hji3]);(try simp only[← hji63]at h_);(try simp only[← hji63]);exact h_)),⟨by have:=HK1.out;have:=HK2.out;have:=HK3.out;have:=HK4.out;have:=HK5.out;have:=HJ46.out;omega⟩,⟨by (try simp only[hl7_3]);(try simp only[hl7_4]);(try simp only[hl7_5]);(with_reducible repeat (first|apply Kd.R_alloc|apply Kd.R_drewN|apply Kd.R_drew));exact af.out⟩,⟨by (try simp only[hl7_3]);(try simp only[hl7_4]);(try simp only[hl7_5]);(with_reducible repeat (first|apply Kd.R_alloc|apply Kd.R_drewN|apply Kd.R_drew));exact fI.out⟩,⟨by (try simp only[hl7_3]);(try simp only[hl7_4]);(try simp only[hl7_5]);(with_reducible repeat (first|refine blk_drewN ?_ _|refine blk_drew ?_|refine blk_alloc ?_ _));exact ad.out⟩,⟨by (try simp only[hl7_3]);(try simp only[hl7_4]);(try simp only[hl7_5]);(with_reducible repeat (first|refine blk_drewN ?_ _|refine blk_drew ?_|refine blk_alloc ?_ _));exact ae.out⟩,⟨by (try simp only[hl7_3]);(try simp only[hl7_4]);(try simp only[hl7_5]);(with_reducible repeat (first|refine blk_drewN ?_ _|refine blk_drew ?_|refine blk_alloc ?_ _));exact ag.out⟩,⟨zS HB.out⟩⟩
                           rw[if_neg dy]at H;exact absurd H (by simp)
                          rw[if_neg dx]at H;exact absurd H (by simp)
                         rw[if_neg dw]at H;exact absurd H (by simp)
                        rw[if_neg cC]at H;have eT:(((rd_T43 l1_4 aa).f0) == (Int.tmod (rd x9_5 ai) a1_1))=false:=beq_eq_false_iff_ne.mpr cC;have eU:(((rd_T43 l1_4 aa).f0) != (Int.tmod (rd x9_5 ai) a1_1))=true:=bne_iff_ne.mpr cC;have H':=Aside0.mk H;clear H;obtain ⟨iS,iT⟩:=nn aT;obtain ⟨hu,hv⟩:=nn aD;obtain ⟨dB,dC,dD,dE,dF,dG,dH,dI,dJ,dK⟩:=cz5 ae;have aK:0≤(aa:Int):=oD;have q146:aa<(l1_4.length:Int):=oD;obtain ⟨ad146,e146,ap,aq,ar,au⟩:=at_T43 HR1_4.out aa aK q146
                        cases e146
                        replace ap:=ct_ HB ap;replace aq:=ct_ HB aq;replace ar:=ct_ HB ar;replace au:=ct_ HB au;replace aK:=eq_true aK;replace q146:=eq_true q146;try go_wp2_with (first|((with_reducible refine gate_dst (N:=15) rfl ?_);refine bx_ 15 #[.int .i64 0,.int .i64 0,.int .i64 0,.int .i64 0] 43 ?_;intro ab hg bF hbox hb;replace af:=xR af hb;replace ah:=xR ah hb;have aj:=Aside0.mk (hbox);have de:=xG HB hg;have df:=xG HB hg;replace HB:=xS HB hb;have bC:=xN ad hg;have aE:=xM ad hg;replace ad:=xB ad hb;have bD:=xN ae hg;have aG:=xM ae hg;replace ae:=xB ae hb;have bE:=xN ag hg;have aH:=xM ag hg;replace ag:=xB ag hb;clear hb hbox hg;obtain ⟨hx,hy⟩:=nn aE;obtain ⟨hA,hB⟩:=nn aG;obtain ⟨hC,hD⟩:=nn aH;obtain ⟨dL,dM,dN,dO,dP,dQ,dR,dS⟩:=cz4 aj;obtain ⟨hE,hF⟩:=nn aU;obtain ⟨dT,dU,dV,dW,dX,dY,dZ,ea⟩:=cz4 ag))
                        have ax:Aside0 (Kd.R Kd.bool 4 ((((bF.setCell ⟨ab,0,none⟩ (.int .i64 ((rd_T43 l1_4 aa).f0))).setCell ⟨ab,1,none⟩ (.int .i64 ((rd_T43 l1_4 aa).f1))).setCell ⟨ab,2,none⟩ (.int .i64 ((rd_T43 l1_4 aa).f2))).setCell ⟨ab,3,none⟩ (.int .i64 ((rd_T43 l1_4 aa).f3))) w.heap.size (fun _=>True) (.slice bk x7_5.length aV) x7_5):=⟨rM (Aside0.mk (yF4 af aj)) (fun _ hk=>trivial)⟩;have ay:Aside0 (Kd.R (Kd.int .i64) 3 ((((bF.setCell ⟨ab,0,none⟩ (.int .i64 ((rd_T43 l1_4 aa).f0))).setCell ⟨ab,1,none⟩ (.int .i64 ((rd_T43 l1_4 aa).f1))).setCell ⟨ab,2,none⟩ (.int .i64 ((rd_T43 l1_4 aa).f2))).setCell ⟨ab,3,none⟩ (.int .i64 ((rd_T43 l1_4 aa).f3))) w.heap.size (fun _=>True) u9 x9_5):=⟨rM (Aside0.mk (yF4 ah aj)) (fun _ hk=>trivial)⟩;have az:Aside0 (((((bF.setCell ⟨ab,0,none⟩ (.int .i64 ((rd_T43 l1_4 aa).f0))).setCell ⟨ab,1,none⟩ (.int .i64 ((rd_T43 l1_4 aa).f1))).setCell ⟨ab,2,none⟩ (.int .i64 ((rd_T43 l1_4 aa).f2))).setCell ⟨ab,3,none⟩ (.int .i64 ((rd_T43 l1_4 aa).f3))).heap[ao]?=some (.cells #[.int .i64 a0_0,.int .i64 a0_1,.int .i64 a0_2,.int .i64 a0_3,.slice (some ad143) l0_4.length c0_4] 28 (0,0))):=⟨zB ad.out⟩;have aA:Aside0 (((((bF.setCell ⟨ab,0,none⟩ (.int .i64 ((rd_T43 l1_4 aa).f0))).setCell ⟨ab,1,none⟩ (.int .i64 ((rd_T43 l1_4 aa).f1))).setCell ⟨ab,2,none⟩ (.int .i64 ((rd_T43 l1_4 aa).f2))).setCell ⟨ab,3,none⟩ (.int .i64 ((rd_T43 l1_4 aa).f3))).heap[al]?=some (.cells #[.int .i64 a1_0,.int .i64 a1_1,.int .i64 a1_2,.int .i64 a1_3,.slice (some ad146) l1_4.length c1_4] 28 (0,0))):=⟨zB ae.out⟩;have aC:Aside0 (((((bF.setCell ⟨ab,0,none⟩ (.int .i64 ((rd_T43 l1_4 aa).f0))).setCell ⟨ab,1,none⟩ (.int .i64 ((rd_T43 l1_4 aa).f1))).setCell ⟨ab,2,none⟩ (.int .i64 ((rd_T43 l1_4 aa).f2))).setCell ⟨ab,3,none⟩ (.int .i64 ((rd_T43 l1_4 aa).f3))).heap[am]?=some (.cells #[.int .i64 ((rd_T43 l0_4 ac).f0),.int .i64 ((rd_T43 l0_4 ac).f1),.int .i64 ((rd_T43 l0_4 ac).f2),.int .i64 ((rd_T43 l0_4 ac).f3)] 43 (0,0))):=⟨zB ag.out⟩;have aN:Aside0 (((((bF.setCell ⟨ab,0,none⟩ (.int .i64 ((rd_T43 l1_4 aa).f0))).setCell ⟨ab,1,none⟩ (.int .i64 ((rd_T43 l1_4 aa).f1))).setCell ⟨ab,2,none⟩ (.int .i64 ((rd_T43 l1_4 aa).f2))).setCell ⟨ab,3,none⟩ (.int .i64 ((rd_T43 l1_4 aa).f3))).heap[ab]?=some (.cells #[.int .i64 ((rd_T43 l1_4 aa).f0),.int .i64 ((rd_T43 l1_4 aa).f1),.int .i64 ((rd_T43 l1_4 aa).f2),.int .i64 ((rd_T43 l1_4 aa).f3)] 43 (0,0))):=⟨by (with_reducible repeat (first|refine blk_drewN ?_ _|refine blk_drew ?_|refine blk_alloc ?_ _));refine blk_put (cs:=#[.int .i64 ((rd_T43 l1_4 aa).f0),.int .i64 ((rd_T43 l1_4 aa).f1),.int .i64 ((rd_T43 l1_4 aa).f2),.int .i64 0]) ?_ 3 _ rfl;(with_reducible repeat (first|refine blk_drewN ?_ _|refine blk_drew ?_|refine blk_alloc ?_ _));refine blk_put (cs:=#[.int .i64 ((rd_T43 l1_4 aa).f0),.int .i64 ((rd_T43 l1_4 aa).f1),.int .i64 0,.int .i64 0]) ?_ 2 _ rfl;(with_reducible repeat (first|refine blk_drewN ?_ _|refine blk_drew ?_|refine blk_alloc ?_ _));refine blk_put (cs:=#[.int .i64 ((rd_T43 l1_4 aa).f0),.int .i64 0,.int .i64 0,.int .i64 0]) ?_ 1 _ rfl;(with_reducible repeat (first|refine blk_drewN ?_ _|refine blk_drew ?_|refine blk_alloc ?_ _));refine blk_put (cs:=#[.int .i64 0,.int .i64 0,.int .i64 0,.int .i64 0]) ?_ 0 _ rfl;(with_reducible repeat (first|refine blk_drewN ?_ _|refine blk_drew ?_|refine blk_alloc ?_ _));exact aj.out⟩;have aQ:Aside0 (Below w.heap.size w ((((bF.setCell ⟨ab,0,none⟩ (.int .i64 ((rd_T43 l1_4 aa).f0))).setCell ⟨ab,1,none⟩ (.int .i64 ((rd_T43 l1_4 aa).f1))).setCell ⟨ab,2,none⟩ (.int .i64 ((rd_T43 l1_4 aa).f2))).setCell ⟨ab,3,none⟩ (.int .i64 ((rd_T43 l1_4 aa).f3)))):=⟨zS HB.out⟩
                        (try clear af);(try clear ah);(try clear ad);(try clear ae);(try clear ag);(try clear aj);(try clear HB);generalize ((((bF.setCell ⟨ab,0,none⟩ (.int .i64 ((rd_T43 l1_4 aa).f0))).setCell ⟨ab,1,none⟩ (.int .i64 ((rd_T43 l1_4 aa).f1))).setCell ⟨ab,2,none⟩ (.int .i64 ((rd_T43 l1_4 aa).f2))).setCell ⟨ab,3,none⟩ (.int .i64 ((rd_T43 l1_4 aa).f3)))=fX at ax ay az aA aC aN aQ ⊢;have af:=ax;have ah:=ay;have ad:=az;have ae:=aA;have ag:=aC;have aj:=aN;have HB:=aQ;clear ax ay az aA aC aN aQ;replace af:=Aside0.mk (Kd.R_drew af.out);replace ah:=Aside0.mk (Kd.R_drew ah.out);replace ad:=Aside0.mk (blk_drew ad.out);replace ae:=Aside0.mk (blk_drew ae.out);replace ag:=Aside0.mk (blk_drew ag.out);replace aj:=Aside0.mk (blk_drew aj.out);replace HB:=Aside0.mk (below_drew1 HB.out);obtain ⟨iU,iV,eW⟩:=Kd.R_slice ah.out;(first|subst eW|(injection eW with f1_ f2_ f3_;have f4_:=f1_.symm;have f5_:=f3_.symm;clear f1_ f2_ f3_;subst f4_;subst f5_));have aW:0≤(ai:Int):=oD;have q148:ai<(x9_5.length:Int):=oD;obtain ⟨ad148,e148,aI⟩:=Kd.at_int (Kd.R_reads' ah.out).2.2 ai aW q148
                        cases e148
                        replace aW:=eq_true aW;replace q148:=eq_true q148;refine start_ (n:=23) (S:=fun w'=>w'.cell? ⟨am,0,none⟩=some (.int .i64 ((rd_T43 l0_4 ac).f0))∧w'.cell? ⟨am,1,none⟩=some (.int .i64 ((rd_T43 l0_4 ac).f1))∧w'.cell? ⟨am,2,none⟩=some (.int .i64 ((rd_T43 l0_4 ac).f2))∧w'.cell? ⟨am,3,none⟩=some (.int .i64 ((rd_T43 l0_4 ac).f3))∧w'.cell? ⟨ab,0,none⟩=some (.int .i64 ((rd_T43 l1_4 aa).f0))∧w'.cell? ⟨ab,1,none⟩=some (.int .i64 ((rd_T43 l1_4 aa).f1))∧w'.cell? ⟨ab,2,none⟩=some (.int .i64 ((rd_T43 l1_4 aa).f2))∧w'.cell? ⟨ab,3,none⟩=some (.int .i64 ((rd_T43 l1_4 aa).f3))∧w'.cell? (ad148.add (ai).toNat)=some (.int .i64 (rd x9_5 ai))) (ds:=[]) bl44 (by kernel_rfl) rfl rfl ⟨b1 ag 0,b1 ag 1,b1 ag 2,b1 ag 3,b1 aj 0,b1 aj 1,b1 aj 2,b1 aj 3,aI⟩ (fun hHeld=>?_);refine with_tabW spec_l5Pairs.tab25 spec_l5Pairs.bits25 (fun HT_ HW_=>?_);generalize fX.drew=jr at af ah ad ae ag aj HB aI hHeld ⊢;refine pv_ 0 (some 113) bl45 HT_ ?_
                        refine pv_ 2 (some 115) bl46 HT_ ?_
                        refine tk_ 1 (some 114) bl47 HT_ HW_ hHeld ?_
                        refine tk_ 3 (some 116) bl48 HT_ HW_ hHeld ?_
                        refine pv_ 4 (some 117) bl49 HT_ ?_
                        refine pv_ 5 (some 118) bl50 HT_ ?_
                        refine pv_ 6 (some 119) bl51 HT_ ?_
                        refine pv_ 8 (some 121) bl52 HT_ ?_
                        refine pv_ 9 (some 122) bl53 HT_ ?_
                        refine pv_ 10 (some 123) bl54 HT_ ?_
                        refine pv_ 12 (some 125) bl55 HT_ ?_
                        refine tk_ 7 (some 120) bl56 HT_ HW_ hHeld ?_
                        refine tk_ 11 (some 124) bl57 HT_ HW_ hHeld ?_
                        refine pv_ 13 (some 126) bl58 HT_ ?_
                        refine pv_ 14 (some 127) bl59 HT_ ?_
                        refine pv_ 15 (some 128) bl60 HT_ ?_
                        refine pv_ 16 (some 129) bl61 HT_ ?_
                        refine pn_ 17 (some 130) bl62 HT_ ?_
                        refine pn_ 18 (some 131) bl63 HT_ ?_
                        refine pn_ 19 (some 132) bl64 HT_ ?_
                        refine pn_ 20 (some 133) bl65 HT_ ?_
                        refine pn_ 21 (some 134) bl66 HT_ ?_
                        refine pv_ 22 (some 135) bl67 HT_ ?_
                        refine done_ (done_of HT_.out (by kernel_rfl)) ?_
                        try go_wp2
                        (try simp only[← hl7_5]);(first|go_roundg kj46|((try simp only[← hji3]);go_roundg kj46))
                        case measure=>have:=HK1.out;have:=HK2.out;have:=HK3.out;have:=HK4.out;have:=HK5.out;have:=HJ46.out;omega
                        case rel=>exact ⟨(x7_5),(x9_5),(wrap64 (aa+1)),vv,(by first|exact H' | (have h_:=H';(try simp only[← hji3]at h_);(try simp only[← hji3]);exact h_)),⟨by have:=HK1.out;have:=HK2.out;have:=HK3.out;have:=HK4.out;have:=HK5.out;have:=HJ46.out;omega⟩,⟨by (try simp only[hl7_3]);(try simp only[hl7_4]);(try simp only[hl7_5]);(with_reducible repeat (first|apply Kd.R_alloc|apply Kd.R_drewN|apply Kd.R_drew));exact af.out⟩,⟨by (try simp only[hl7_3]);(try simp only[hl7_4]);(try simp only[hl7_5]);(with_reducible repeat (first|apply Kd.R_alloc|apply Kd.R_drewN|apply Kd.R_drew));exact ah.out⟩,⟨by (try simp only[hl7_3]);(try simp only[hl7_4]);(try simp only[hl7_5]);(with_reducible repeat (first|refine blk_drewN ?_ _|refine blk_drew ?_|refine blk_alloc ?_ _));exact ad.out⟩,⟨by (try simp only[hl7_3]);(try simp only[hl7_4]);(try simp only[hl7_5]);(with_reducible repeat (first|refine blk_drewN ?_ _|refine blk_drew ?_|refine blk_alloc ?_ _));exact ae.out⟩,⟨by (try simp only[hl7_3]);(try simp only[hl7_4]);(try simp only[hl7_5]);(with_reducible repeat (first|refine blk_drewN ?_ _|refine blk_drew ?_|refine blk_alloc ?_ _));exact ag.out⟩,⟨zS HB.out⟩⟩
                       rw[if_neg dv]at H;exact absurd H (by simp)
                      rw[if_neg du]at H;exact absurd H (by simp)
                     rw[if_neg cB]at H;have eQ:(((rd_T43 l0_4 ac).f1) == ((rd_T43 l1_4 aa).f1))=false:=beq_eq_false_iff_ne.mpr cB;have eR:(((rd_T43 l0_4 ac).f1) != ((rd_T43 l1_4 aa).f1))=true:=bne_iff_ne.mpr cB;have H':=Aside0.mk H;clear H;obtain ⟨hG,hH⟩:=nn aT;obtain ⟨hI,hJ⟩:=nn aD;obtain ⟨eb,ec,ed,ee,ef,eg,eh,ei,ej,ek⟩:=cz5 ae;have aK:0≤(aa:Int):=oD;have q146:aa<(l1_4.length:Int):=oD;obtain ⟨ad146,e146,ap,aq,ar,au⟩:=at_T43 HR1_4.out aa aK q146
                     cases e146
                     replace ap:=ct_ HB ap;replace aq:=ct_ HB aq;replace ar:=ct_ HB ar;replace au:=ct_ HB au;replace aK:=eq_true aK;replace q146:=eq_true q146;try go_wp2_with (first|((with_reducible refine gate_dst (N:=15) rfl ?_);refine bx_ 15 #[.int .i64 0,.int .i64 0,.int .i64 0,.int .i64 0] 43 ?_;intro ab hg bH hbox hb;replace af:=xR af hb;replace ah:=xR ah hb;have aj:=Aside0.mk (hbox);have de:=xG HB hg;have df:=xG HB hg;replace HB:=xS HB hb;have bC:=xN ad hg;have aE:=xM ad hg;replace ad:=xB ad hb;have bD:=xN ae hg;have aG:=xM ae hg;replace ae:=xB ae hb;have bE:=xN ag hg;have aH:=xM ag hg;replace ag:=xB ag hb;clear hb hbox hg;obtain ⟨hL,hM⟩:=nn aE;obtain ⟨hN,hO⟩:=nn aG;obtain ⟨hP,hQ⟩:=nn aH;obtain ⟨el,em,en,eo,ep,eq,er,es⟩:=cz4 aj;obtain ⟨hR,hS⟩:=nn aU;obtain ⟨et,eu,ev,ew,ex,ey,ez,eA⟩:=cz4 ag))
                     have ax:Aside0 (Kd.R Kd.bool 4 ((((bH.setCell ⟨ab,0,none⟩ (.int .i64 ((rd_T43 l1_4 aa).f0))).setCell ⟨ab,1,none⟩ (.int .i64 ((rd_T43 l1_4 aa).f1))).setCell ⟨ab,2,none⟩ (.int .i64 ((rd_T43 l1_4 aa).f2))).setCell ⟨ab,3,none⟩ (.int .i64 ((rd_T43 l1_4 aa).f3))) w.heap.size (fun _=>True) (.slice bk x7_5.length aV) x7_5):=⟨rM (Aside0.mk (yF4 af aj)) (fun _ hk=>trivial)⟩;have ay:Aside0 (Kd.R (Kd.int .i64) 3 ((((bH.setCell ⟨ab,0,none⟩ (.int .i64 ((rd_T43 l1_4 aa).f0))).setCell ⟨ab,1,none⟩ (.int .i64 ((rd_T43 l1_4 aa).f1))).setCell ⟨ab,2,none⟩ (.int .i64 ((rd_T43 l1_4 aa).f2))).setCell ⟨ab,3,none⟩ (.int .i64 ((rd_T43 l1_4 aa).f3))) w.heap.size (fun _=>True) u9 x9_5):=⟨rM (Aside0.mk (yF4 ah aj)) (fun _ hk=>trivial)⟩;have az:Aside0 (((((bH.setCell ⟨ab,0,none⟩ (.int .i64 ((rd_T43 l1_4 aa).f0))).setCell ⟨ab,1,none⟩ (.int .i64 ((rd_T43 l1_4 aa).f1))).setCell ⟨ab,2,none⟩ (.int .i64 ((rd_T43 l1_4 aa).f2))).setCell ⟨ab,3,none⟩ (.int .i64 ((rd_T43 l1_4 aa).f3))).heap[ao]?=some (.cells #[.int .i64 a0_0,.int .i64 a0_1,.int .i64 a0_2,.int .i64 a0_3,.slice (some ad143) l0_4.length c0_4] 28 (0,0))):=⟨zB ad.out⟩;have aA:Aside0 (((((bH.setCell ⟨ab,0,none⟩ (.int .i64 ((rd_T43 l1_4 aa).f0))).setCell ⟨ab,1,none⟩ (.int .i64 ((rd_T43 l1_4 aa).f1))).setCell ⟨ab,2,none⟩ (.int .i64 ((rd_T43 l1_4 aa).f2))).setCell ⟨ab,3,none⟩ (.int .i64 ((rd_T43 l1_4 aa).f3))).heap[al]?=some (.cells #[.int .i64 a1_0,.int .i64 a1_1,.int .i64 a1_2,.int .i64 a1_3,.slice (some ad146) l1_4.length c1_4] 28 (0,0))):=⟨zB ae.out⟩;have aC:Aside0 (((((bH.setCell ⟨ab,0,none⟩ (.int .i64 ((rd_T43 l1_4 aa).f0))).setCell ⟨ab,1,none⟩ (.int .i64 ((rd_T43 l1_4 aa).f1))).setCell ⟨ab,2,none⟩ (.int .i64 ((rd_T43 l1_4 aa).f2))).setCell ⟨ab,3,none⟩ (.int .i64 ((rd_T43 l1_4 aa).f3))).heap[am]?=some (.cells #[.int .i64 ((rd_T43 l0_4 ac).f0),.int .i64 ((rd_T43 l0_4 ac).f1),.int .i64 ((rd_T43 l0_4 ac).f2),.int .i64 ((rd_T43 l0_4 ac).f3)] 43 (0,0))):=⟨zB ag.out⟩;have aN:Aside0 (((((bH.setCell ⟨ab,0,none⟩ (.int .i64 ((rd_T43 l1_4 aa).f0))).setCell ⟨ab,1,none⟩ (.int .i64 ((rd_T43 l1_4 aa).f1))).setCell ⟨ab,2,none⟩ (.int .i64 ((rd_T43 l1_4 aa).f2))).setCell ⟨ab,3,none⟩ (.int .i64 ((rd_T43 l1_4 aa).f3))).heap[ab]?=some (.cells #[.int .i64 ((rd_T43 l1_4 aa).f0),.int .i64 ((rd_T43 l1_4 aa).f1),.int .i64 ((rd_T43 l1_4 aa).f2),.int .i64 ((rd_T43 l1_4 aa).f3)] 43 (0,0))):=⟨by (with_reducible repeat (first|refine blk_drewN ?_ _|refine blk_drew ?_|refine blk_alloc ?_ _));refine blk_put (cs:=#[.int .i64 ((rd_T43 l1_4 aa).f0),.int .i64 ((rd_T43 l1_4 aa).f1),.int .i64 ((rd_T43 l1_4 aa).f2),.int .i64 0]) ?_ 3 _ rfl;(with_reducible repeat (first|refine blk_drewN ?_ _|refine blk_drew ?_|refine blk_alloc ?_ _));refine blk_put (cs:=#[.int .i64 ((rd_T43 l1_4 aa).f0),.int .i64 ((rd_T43 l1_4 aa).f1),.int .i64 0,.int .i64 0]) ?_ 2 _ rfl;(with_reducible repeat (first|refine blk_drewN ?_ _|refine blk_drew ?_|refine blk_alloc ?_ _));refine blk_put (cs:=#[.int .i64 ((rd_T43 l1_4 aa).f0),.int .i64 0,.int .i64 0,.int .i64 0]) ?_ 1 _ rfl;(with_reducible repeat (first|refine blk_drewN ?_ _|refine blk_drew ?_|refine blk_alloc ?_ _));refine blk_put (cs:=#[.int .i64 0,.int .i64 0,.int .i64 0,.int .i64 0]) ?_ 0 _ rfl;(with_reducible repeat (first|refine blk_drewN ?_ _|refine blk_drew ?_|refine blk_alloc ?_ _));exact aj.out⟩;have aQ:Aside0 (Below w.heap.size w ((((bH.setCell ⟨ab,0,none⟩ (.int .i64 ((rd_T43 l1_4 aa).f0))).setCell ⟨ab,1,none⟩ (.int .i64 ((rd_T43 l1_4 aa).f1))).setCell ⟨ab,2,none⟩ (.int .i64 ((rd_T43 l1_4 aa).f2))).setCell ⟨ab,3,none⟩ (.int .i64 ((rd_T43 l1_4 aa).f3)))):=⟨zS HB.out⟩
                     (try clear af);(try clear ah);(try clear ad);(try clear ae);(try clear ag);(try clear aj);(try clear HB);generalize ((((bH.setCell ⟨ab,0,none⟩ (.int .i64 ((rd_T43 l1_4 aa).f0))).setCell ⟨ab,1,none⟩ (.int .i64 ((rd_T43 l1_4 aa).f1))).setCell ⟨ab,2,none⟩ (.int .i64 ((rd_T43 l1_4 aa).f2))).setCell ⟨ab,3,none⟩ (.int .i64 ((rd_T43 l1_4 aa).f3)))=fY at ax ay az aA aC aN aQ ⊢;have af:=ax;have ah:=ay;have ad:=az;have ae:=aA;have ag:=aC;have aj:=aN;have HB:=aQ;clear ax ay az aA aC aN aQ;replace af:=Aside0.mk (Kd.R_drew af.out);replace ah:=Aside0.mk (Kd.R_drew ah.out);replace ad:=Aside0.mk (blk_drew ad.out);replace ae:=Aside0.mk (blk_drew ae.out);replace ag:=Aside0.mk (blk_drew ag.out);replace aj:=Aside0.mk (blk_drew aj.out);replace HB:=Aside0.mk (below_drew1 HB.out);refine start_ (n:=23) (S:=fun w'=>w'.cell? ⟨am,0,none⟩=some (.int .i64 ((rd_T43 l0_4 ac).f0))∧w'.cell? ⟨am,1,none⟩=some (.int .i64 ((rd_T43 l0_4 ac).f1))∧w'.cell? ⟨am,2,none⟩=some (.int .i64 ((rd_T43 l0_4 ac).f2))∧w'.cell? ⟨am,3,none⟩=some (.int .i64 ((rd_T43 l0_4 ac).f3))∧w'.cell? ⟨ab,0,none⟩=some (.int .i64 ((rd_T43 l1_4 aa).f0))∧w'.cell? ⟨ab,1,none⟩=some (.int .i64 ((rd_T43 l1_4 aa).f1))∧w'.cell? ⟨ab,2,none⟩=some (.int .i64 ((rd_T43 l1_4 aa).f2))∧w'.cell? ⟨ab,3,none⟩=some (.int .i64 ((rd_T43 l1_4 aa).f3))) (ds:=[]) bl44 (by kernel_rfl) rfl rfl ⟨b1 ag 0,b1 ag 1,b1 ag 2,b1 ag 3,b1 aj 0,b1 aj 1,b1 aj 2,b1 aj 3⟩ (fun hHeld=>?_);refine with_tabW spec_l5Pairs.tab25 spec_l5Pairs.bits25 (fun HT_ HW_=>?_);generalize fY.drew=js at af ah ad ae ag aj HB hHeld ⊢;refine pv_ 0 (some 113) bl45 HT_ ?_
                     refine pv_ 2 (some 115) bl46 HT_ ?_
                     refine tk_ 1 (some 114) bl47 HT_ HW_ hHeld ?_
                     refine tk_ 3 (some 116) bl48 HT_ HW_ hHeld ?_
                     refine pv_ 4 (some 117) bl49 HT_ ?_
                     refine pv_ 5 (some 118) bl50 HT_ ?_
                     refine pn_ 6 (some 119) bl51 HT_ ?_
                     refine pn_ 7 (some 120) bl68 HT_ ?_
                     refine pn_ 8 (some 121) bl69 HT_ ?_
                     refine pn_ 9 (some 122) bl70 HT_ ?_
                     refine pn_ 10 (some 123) bl71 HT_ ?_
                     refine pn_ 11 (some 124) bl72 HT_ ?_
                     refine pn_ 12 (some 125) bl57 HT_ ?_
                     refine pn_ 13 (some 126) bl58 HT_ ?_
                     refine pn_ 14 (some 127) bl59 HT_ ?_
                     refine pv_ 15 (some 128) bl60 HT_ ?_
                     refine pv_ 16 (some 129) bl61 HT_ ?_
                     refine pn_ 17 (some 130) bl62 HT_ ?_
                     refine pn_ 18 (some 131) bl63 HT_ ?_
                     refine pn_ 19 (some 132) bl64 HT_ ?_
                     refine pn_ 20 (some 133) bl65 HT_ ?_
                     refine pn_ 21 (some 134) bl66 HT_ ?_
                     refine pv_ 22 (some 135) bl67 HT_ ?_
                     refine done_ (done_of HT_.out (by kernel_rfl)) ?_
                     try go_wp2
                     (try simp only[← hl7_5]);(first|go_roundg kj46|((try simp only[← hji3]);go_roundg kj46))
                     case measure=>have:=HK1.out;have:=HK2.out;have:=HK3.out;have:=HK4.out;have:=HK5.out;have:=HJ46.out;omega
                     case rel=>exact ⟨(x7_5),(x9_5),(wrap64 (aa+1)),vv,(by first|exact H' | (have h_:=H';(try simp only[← hji3]at h_);(try simp only[← hji3]);exact h_)),⟨by have:=HK1.out;have:=HK2.out;have:=HK3.out;have:=HK4.out;have:=HK5.out;have:=HJ46.out;omega⟩,⟨by (try simp only[hl7_3]);(try simp only[hl7_4]);(try simp only[hl7_5]);(with_reducible repeat (first|apply Kd.R_alloc|apply Kd.R_drewN|apply Kd.R_drew));exact af.out⟩,⟨by (try simp only[hl7_3]);(try simp only[hl7_4]);(try simp only[hl7_5]);(with_reducible repeat (first|apply Kd.R_alloc|apply Kd.R_drewN|apply Kd.R_drew));exact ah.out⟩,⟨by (try simp only[hl7_3]);(try simp only[hl7_4]);(try simp only[hl7_5]);(with_reducible repeat (first|refine blk_drewN ?_ _|refine blk_drew ?_|refine blk_alloc ?_ _));exact ad.out⟩,⟨by (try simp only[hl7_3]);(try simp only[hl7_4]);(try simp only[hl7_5]);(with_reducible repeat (first|refine blk_drewN ?_ _|refine blk_drew ?_|refine blk_alloc ?_ _));exact ae.out⟩,⟨by (try simp only[hl7_3]);(try simp only[hl7_4]);(try simp only[hl7_5]);(with_reducible repeat (first|refine blk_drewN ?_ _|refine blk_drew ?_|refine blk_alloc ?_ _));exact ag.out⟩,⟨zS HB.out⟩⟩
                    rw[if_neg dt]at H;exact absurd H (by simp)
                   rw[if_neg dr]at H;exact absurd H (by simp)
                  replace dq:=Bool.eq_false_iff.mpr dq;subst dq;have H1:(spec_l5Pairs.l3 kj46 a1_1 x7_5 x9_5 ai (wrap64 (ac+1)) a0_0 a0_1 a0_2 a0_3 l0_4 a1_0 a1_1 a1_2 a1_3 l1_4)=some (r1,r2):=by rw[if_neg (show ¬ (false=true) by decide)]at H;exact H
                  clear H;have H:=H1;clear H1;have H':=Aside0.mk H;clear H;go_wp2;(try simp only[← hl7_4,← hl7_5]);(first|go_roundg kj46|((try simp only[← hji3]);go_roundg kj46))
                  case measure=>have:=HK1.out;have:=HK2.out;have:=HK3.out;have:=HK4.out;have:=HK5.out;have:=HJ46.out;omega
                  case rel=>exact ⟨(x7_5),(x9_5),(wrap64 (ac+1)),vv,(by first|exact H' | (have h_:=H';(try simp only[← hji3]at h_);(try simp only[← hji3]);exact h_)),⟨by have:=HK1.out;have:=HK2.out;have:=HK3.out;have:=HK4.out;have:=HK5.out;have:=HJ46.out;omega⟩,⟨by (try simp only[hl7_3]);(try simp only[hl7_4]);(try simp only[hl7_5]);(with_reducible repeat (first|apply Kd.R_alloc|apply Kd.R_drewN|apply Kd.R_drew));exact af.out⟩,⟨by (try simp only[hl7_3]);(try simp only[hl7_4]);(try simp only[hl7_5]);(with_reducible repeat (first|apply Kd.R_alloc|apply Kd.R_drewN|apply Kd.R_drew));exact ah.out⟩,⟨by (try simp only[hl7_3]);(try simp only[hl7_4]);(try simp only[hl7_5]);(with_reducible repeat (first|refine blk_drewN ?_ _|refine blk_drew ?_|refine blk_alloc ?_ _));exact ad.out⟩,⟨by (try simp only[hl7_3]);(try simp only[hl7_4]);(try simp only[hl7_5]);(with_reducible repeat (first|refine blk_drewN ?_ _|refine blk_drew ?_|refine blk_alloc ?_ _));exact ae.out⟩,⟨zS HB.out⟩⟩
             rw[if_neg cG]at H;exact absurd H (by simp)
            rw[if_neg ci]at H;have bL:decide (ac<(l0_4.length:Int))=false:=decide_eq_false ci;(try simp only[hl7_3]at bL);(try simp only[hl7_4]at bL);clear ci;have H':=Aside0.mk H;clear H;obtain ⟨hT,hU⟩:=nn cx;obtain ⟨eB,eC,eD,eE,eF,eG,eH,eI,eJ,eK⟩:=cz5 ad;go_wp2;(try simp only[← hl7_3,← hl7_4]);(first|go_roundg k4|((try simp only[← hji3]);go_roundg k4))
            case measure=>have:=HK1.out;have:=HK2.out;have:=HK3.out;have:=HK4.out;omega
            case rel=>exact ⟨(x7_4),(x9_4),(wrap64 (ai+1)),vv,(by first|exact H' | (have h_:=H';(try simp only[← hji3]at h_);(try simp only[← hji3]);exact h_)),⟨by have:=HK1.out;have:=HK2.out;have:=HK3.out;have:=HK4.out;omega⟩,⟨by (try simp only[hl7_3]);(try simp only[hl7_4]);(with_reducible repeat (first|apply Kd.R_alloc|apply Kd.R_drewN|apply Kd.R_drew));exact af.out⟩,⟨by (try simp only[hl7_3]);(try simp only[hl7_4]);(with_reducible repeat (first|apply Kd.R_alloc|apply Kd.R_drewN|apply Kd.R_drew));exact ah.out⟩,⟨by (try simp only[hl7_3]);(try simp only[hl7_4]);(with_reducible repeat (first|refine blk_drewN ?_ _|refine blk_drew ?_|refine blk_alloc ?_ _));exact ad.out⟩,⟨by (try simp only[hl7_3]);(try simp only[hl7_4]);(with_reducible repeat (first|refine blk_drewN ?_ _|refine blk_drew ?_|refine blk_alloc ?_ _));exact ae.out⟩,⟨zS HB.out⟩⟩
         rw[if_neg bR]at H;have bK:decide (ai<(x9_3.length:Int))=false:=decide_eq_false bR;(try simp only[hl7_3]at bK);clear bR;obtain ⟨ft,cm⟩:∃ y_:List Int,y_=(([]:List Int)):=⟨_,rfl⟩;replace H:(spec_l5Pairs.l5 k3 x7_3 ft 0 0)=some (r1,r2):=by first|(rw[cm];with_reducible exact H)|(have H2_:=(Option.bind_some _ _).symm.trans H;rw[cm];with_reducible exact H2_)|(have H2_:=(Option.bind_some _ _).symm.trans H;with_reducible exact H2_)|with_reducible exact H|(rw[cm];exact H)|exact H
         have eX:=Aside0.mk cm;clear cm;have H':=Aside0.mk H;clear H;obtain ⟨iW,iX,fJ⟩:=Kd.R_slice ah.out;subst fJ;go_wp2_with (first|((with_reducible refine gate_dst (N:=143) rfl ?_);refine Kd.R_lit (Kd.int .i64) _ 3 ?hg (N:=143) ?hd (xs:=([]:List Int)) (inner:=[]) (ok:=fun _=>True) (okp:=fun _=>True) ?hr ?hp (fun _ hk=>hk) trivial (Below.refl _ _) (Nat.le_refl _) (by simp) ?_;(case hd=>rfl);(case hg=>rfl);(case hr=>first|(go_simp;done)|(go_simp;rfl));(case hp=>exact (Reps.none _ _));intro jt ju ho128 hb hg_ hnew_;clear hg_ hnew_;(first|rw[← eX.out]at ho128|(simp only[Int.reduceToNat]at ho128;rw[← eX.out]at ho128));replace af:=xR af hb;have fK:=rW1 ho128 ah HB;replace ah:=xE ah ho128 hb;replace ad:=xB ad hb;replace ae:=xB ae hb;replace HB:=xS HB hb;clear hb ho128));go_loopg [17,18,19] k3 (fun kq hV hW hX w'=>∃ (av:List Int) (aw:Int) (an:Int),hW=.int .i64 aw∧hX=.int .i64 an∧Aside0 (spec_l5Pairs.l5 kq x7_3 av aw an=some (r1,r2))∧Aside0 (kq≤k3)∧Aside0 (Kd.R Kd.bool 4 w' w.heap.size (fun _=>True) (.slice bk x7_3.length aV) x7_3)∧Aside0 (Kd.R (Kd.int .i64) 3 w' w.heap.size (fun _=>True) hV av)∧Aside0 (w'.heap[ao]?=some (.cells #[.int .i64 a0_0,.int .i64 a0_1,.int .i64 a0_2,.int .i64 a0_3,(.slice A0_4 l0_4.length c0_4)] 28 (0,0)))∧Aside0 (w'.heap[al]?=some (.cells #[.int .i64 a1_0,.int .i64 a1_1,.int .i64 a1_2,.int .i64 a1_3,(.slice A1_4 l1_4.length c1_4)] 28 (0,0)))∧Aside0 (Below w.heap.size w w'))
         case atStart=>exact ⟨(ft),(0),(0),vv,vv,H',⟨Nat.le_refl _⟩,⟨by (try simp only[hl7_3]);(with_reducible repeat (first|apply Kd.R_alloc|apply Kd.R_drewN|apply Kd.R_drew));exact af.out⟩,⟨by (try simp only[hl7_3]);(with_reducible repeat (first|apply Kd.R_alloc|apply Kd.R_drewN|apply Kd.R_drew));exact Kd.R_mono fK.out (fun _ hk=>trivial)⟩,⟨by (try simp only[hl7_3]);(with_reducible repeat (first|refine blk_drewN ?_ _|refine blk_drew ?_|refine blk_alloc ?_ _));exact ad.out⟩,⟨by (try simp only[hl7_3]);(with_reducible repeat (first|refine blk_drewN ?_ _|refine blk_drew ?_|refine blk_alloc ?_ _));exact ae.out⟩,⟨zS HB.out⟩⟩
         case round=>
          clear H';try clear c1
          try clear p1
          try clear q1
          try clear hx1
          try clear p2
          try clear c3
          try clear c4
          try clear c5
          try clear c6
          try clear p6
          try clear c8
          try clear p8
          try clear q8
          try clear hx8
          try clear hf8
          try clear c9
          try clear jV
          try clear jW
          try clear jX
          try clear fk
          try clear q14
          try clear hx14
          try clear bR
          try clear bK
          try clear ci
          try clear bL
          try clear cG
          try clear dq
          try clear dr
          try clear dt
          try clear cB
          try clear eQ
          try clear eR
          try clear du
          try clear dv
          try clear cC
          try clear eT
          try clear eU
          try clear dw
          try clear jY
          try clear dx
          try clear dz
          try clear q81
          try clear hx81
          try clear hf81
          try clear dy
          try clear jZ
          try clear jv
          try clear jw
          try clear jx
          try clear jy
          try clear jz
          try clear jA
          try clear jB
          try clear jC
          try clear jD
          try clear jE
          try clear jF
          try clear jG
          try clear dB dC dD dE dF
          try clear dL dM dN dO
          try clear dT dU dV dW
          try clear eb ec ed ee ef
          try clear el em en eo
          try clear et eu ev ew
          try clear eB eC eD eE eF
          try clear dG dH dI dJ dK
          try clear dP dQ dR dS
          try clear dX dY dZ ea
          try clear eg eh ei ej ek
          try clear ep eq er es
          try clear ex ey ez eA
          try clear eG eH eI eJ eK
          try clear ap
          try clear aq
          try clear ar
          try clear au
          try clear aI
          try clear aJ
          try clear fr
          try clear aK
          try clear aW
          try clear dz
          try clear q146
          try clear q148
          try clear q81
          obtain ⟨av,aw,an,rfl,rfl,HA,HK4,af,aM,ad,ae,HB⟩:=hrel
          cases gk with
          | zero=>exact absurd HA.out (by simp[spec_l5Pairs.l5])
          | succ k4=>
           have H:=HA.out;clear HA;simp only[spec_l5Pairs.l5]at H;by_cases cv:an<(x7_3.length:Int)
           ·rw[if_pos cv]at H;have dA:decide (an<(x7_3.length:Int))=true:=decide_eq_true cv;clear cv;by_cases dh:0≤an
            ·rw[if_pos dh]at H;have hY:decide (0≤an)=true:=decide_eq_true dh;clear dh;obtain ⟨bq131,hbq131⟩:∃ b_:Bool,b_=(rdOf false x7_3 an):=⟨_,rfl⟩;replace H:(if bq131=true then (if av.length<17592186044416 then (spec_l5Pairs.l5 k4 x7_3 (av ++ [aw]) (wrap64 (aw+1)) (wrap64 (an+1))) else (none)) else (if av.length<17592186044416 then (spec_l5Pairs.l5 k4 x7_3 (av ++ [(-1)]) aw (wrap64 (an+1))) else (none)))=some (r1,r2):=by rw[← hbq131]at H;exact H
             have Nbq131:=Aside0.mk hbq131;clear hbq131;by_cases di:bq131=true
             ·subst di;have H1:(if av.length<17592186044416 then (spec_l5Pairs.l5 k4 x7_3 (av ++ [aw]) (wrap64 (aw+1)) (wrap64 (an+1))) else (none))=some (r1,r2):=by rw[if_pos rfl]at H;exact H
              clear H;have H:=H1;clear H1;by_cases dj:av.length<17592186044416
              ·rw[if_pos dj]at H;have LMc133:=Aside0.mk dj;clear dj;obtain ⟨fu,cn⟩:∃ y_:List Int,y_=(av ++ [aw]):=⟨_,rfl⟩;replace H:(spec_l5Pairs.l5 k4 x7_3 fu (wrap64 (aw+1)) (wrap64 (an+1)))=some (r1,r2):=by first|(rw[cn];with_reducible exact H)|(have H2_:=(Option.bind_some _ _).symm.trans H;rw[cn];with_reducible exact H2_)|(have H2_:=(Option.bind_some _ _).symm.trans H;with_reducible exact H2_)|with_reducible exact H|(rw[cn];exact H)|exact H
               have fL:=Aside0.mk cn;clear cn;have H':=Aside0.mk H;clear H;have bT:0≤(an:Int):=oD;have q157:an<(x7_3.length:Int):=oD;obtain ⟨ad157,e157,cw⟩:=Kd.at_bool (Kd.R_reads' af.out).2.2 an bT q157;(try rw[← Nbq131.out]at cw)
               cases e157
               replace bT:=eq_true bT;replace q157:=eq_true q157;go_wp2_with (first|((with_reducible refine gate_builtin (b:=.append) (xs:=#[.tmp 154,.tmp 156]) rfl ?_);at_builtin;refine Kd.R_append (Kd.int .i64) (w0:=w) w.heap.size rfl (.tmp 154) (.tmp 156) 37 3 (.int .i64 0) 8 rfl Try.underlying37 info3 rfl (by decide) (by omega) u17 av aw [.int .i64 aw] (fun _=>True) (fun _=>False) rfl rfl ?aP (fun _ hk=>hk.elim) ?aF ?aO ?aB ?aS ?aL ?_;(case aP=>exact rfl);(case aB=>exact (zS HB.out));(case aF=>exact (fun _ _=>trivial));(case aO=>exact (zR aM.out));(case aS=>exact (below_size (zS HB.out)));(case aL=>have:=LMc133.out;omega);intro jH jI ho hb hg hat;rw[← fL.out]at ho;have ax:=Aside0.mk (Kd.R_over' (zR af.out) (Kd.R_typed (zR aM.out)) (by decide) hg);have ay:=bG ad hg aM;have az:=bG ae hg aM;have aA:=Aside0.mk (hb);have aC:=Aside0.mk (ho);clear af;clear ad;clear ae;clear HB;clear aM;have af:=ax;have ad:=ay;have ae:=az;have HB:=aA;have fM:=aC;clear ax ay az aA aC;clear ho hb hg hat));(first|go_roundg k4|((try simp only[← hji3]);go_roundg k4))
               case measure=>have:=HK1.out;have:=HK2.out;have:=HK3.out;have:=HK4.out;omega
               case rel=>exact ⟨(fu),(wrap64 (aw+1)),(wrap64 (an+1)),vv,vv,(by first|exact H' | (have h_:=H';(try simp only[← hji3]at h_);(try simp only[← hji3]);exact h_)),⟨by have:=HK1.out;have:=HK2.out;have:=HK3.out;have:=HK4.out;omega⟩,⟨by (try simp only[hl7_3]);(with_reducible repeat (first|apply Kd.R_alloc|apply Kd.R_drewN|apply Kd.R_drew));exact af.out⟩,⟨by (try simp only[hl7_3]);(with_reducible repeat (first|apply Kd.R_alloc|apply Kd.R_drewN|apply Kd.R_drew));exact fM.out⟩,⟨by (try simp only[hl7_3]);(with_reducible repeat (first|refine blk_drewN ?_ _|refine blk_drew ?_|refine blk_alloc ?_ _));exact ad.out⟩,⟨by (try simp only[hl7_3]);(with_reducible repeat (first|refine blk_drewN ?_ _|refine blk_drew ?_|refine blk_alloc ?_ _));exact ae.out⟩,⟨zS HB.out⟩⟩
              rw[if_neg dj]at H;exact absurd H (by simp)
             replace di:=Bool.eq_false_iff.mpr di;subst di;have H1:(if av.length<17592186044416 then (spec_l5Pairs.l5 k4 x7_3 (av ++ [(-1)]) aw (wrap64 (an+1))) else (none))=some (r1,r2):=by rw[if_neg (show ¬ (false=true) by decide)]at H;exact H
             clear H;have H:=H1;clear H1;by_cases dk:av.length<17592186044416
             ·rw[if_pos dk]at H;have LMc135:=Aside0.mk dk;clear dk;obtain ⟨fv,co⟩:∃ y_:List Int,y_=(av ++ [(-1)]):=⟨_,rfl⟩;replace H:(spec_l5Pairs.l5 k4 x7_3 fv aw (wrap64 (an+1)))=some (r1,r2):=by first|(rw[co];with_reducible exact H)|(have H2_:=(Option.bind_some _ _).symm.trans H;rw[co];with_reducible exact H2_)|(have H2_:=(Option.bind_some _ _).symm.trans H;with_reducible exact H2_)|with_reducible exact H|(rw[co];exact H)|exact H
              have fN:=Aside0.mk co;clear co;have H':=Aside0.mk H;clear H;have bT:0≤(an:Int):=oD;have q157:an<(x7_3.length:Int):=oD;obtain ⟨ad157,e157,cw⟩:=Kd.at_bool (Kd.R_reads' af.out).2.2 an bT q157;(try rw[← Nbq131.out]at cw)
              cases e157
              replace bT:=eq_true bT;replace q157:=eq_true q157;go_wp2_with (first|((with_reducible refine gate_builtin (b:=.append) (xs:=#[.tmp 160,.tmp 161]) rfl ?_);at_builtin;refine Kd.R_append (Kd.int .i64) (w0:=w) w.heap.size rfl (.tmp 160) (.tmp 161) 37 3 (.int .i64 0) 8 rfl Try.underlying37 info3 rfl (by decide) (by omega) u17 av (-1) [.int .i64 (-1)] (fun _=>True) (fun _=>False) rfl rfl ?aP (fun _ hk=>hk.elim) ?aF ?aO ?aB ?aS ?aL ?_;(case aP=>exact rfl);(case aB=>exact (zS HB.out));(case aF=>exact (fun _ _=>trivial));(case aO=>exact (zR aM.out));(case aS=>exact (below_size (zS HB.out)));(case aL=>have:=LMc135.out;omega);intro jJ jK ho hb hg hat;rw[← fN.out]at ho;have ax:=Aside0.mk (Kd.R_over' (zR af.out) (Kd.R_typed (zR aM.out)) (by decide) hg);have ay:=bG ad hg aM;have az:=bG ae hg aM;have aA:=Aside0.mk (hb);have aC:=Aside0.mk (ho);clear af;clear ad;clear ae;clear HB;clear aM;have af:=ax;have ad:=ay;have ae:=az;have HB:=aA;have fO:=aC;clear ax ay az aA aC;clear ho hb hg hat));(first|go_roundg k4|((try simp only[← hji3]);go_roundg k4))
              case measure=>have:=HK1.out;have:=HK2.out;have:=HK3.out;have:=HK4.out;omega
              case rel=>exact ⟨(fv),(aw),(wrap64 (an+1)),vv,vv,(by first|exact H' | (have h_:=H';(try simp only[← hji3]at h_);(try simp only[← hji3]);exact h_)),⟨by have:=HK1.out;have:=HK2.out;have:=HK3.out;have:=HK4.out;omega⟩,⟨by (try simp only[hl7_3]);(with_reducible repeat (first|apply Kd.R_alloc|apply Kd.R_drewN|apply Kd.R_drew));exact af.out⟩,⟨by (try simp only[hl7_3]);(with_reducible repeat (first|apply Kd.R_alloc|apply Kd.R_drewN|apply Kd.R_drew));exact fO.out⟩,⟨by (try simp only[hl7_3]);(with_reducible repeat (first|refine blk_drewN ?_ _|refine blk_drew ?_|refine blk_alloc ?_ _));exact ad.out⟩,⟨by (try simp only[hl7_3]);(with_reducible repeat (first|refine blk_drewN ?_ _|refine blk_drew ?_|refine blk_alloc ?_ _));exact ae.out⟩,⟨zS HB.out⟩⟩
             rw[if_neg dk]at H;exact absurd H (by simp)
            rw[if_neg dh]at H;exact absurd H (by simp)
           rw[if_neg cv]at H;have dA:decide (an<(x7_3.length:Int))=false:=decide_eq_false cv;(try simp only[hl7_3]at dA);clear cv;simp only[Option.some.injEq,Prod.mk.injEq]at H;obtain ⟨rfl,rfl⟩:=H;go_wp2;go_ret2;exact ⟨_,by first|rfl|(simp[errW_none,errW_some] <;> rfl)|(simp only[← hji3];first|rfl|(simp[errW_none,errW_some] <;> rfl))|(simp[*,errW_none,errW_some] <;> rfl),by (with_reducible repeat (first|apply Kd.R_alloc|apply Kd.R_drewN|apply Kd.R_drew));exact aM.out,zS HB.out⟩
  rw[if_neg c5]at H;exact absurd H (by simp)
 rw[if_neg c4]at H;exact absurd H (by simp)
end Go.Proofs.Ytbfghpbmalpdbaa.MFnExactGenMeet
